/- append and calls, as the abstract machine has them. -/
import Derived.Test.YtdhnfeoigmeopaaDoorAbsKC
namespace Go.Abs
open Go.RowKit
theorem zipApp_get (n : Nat) : ∀ (c d : List (Nat → DV)) (j : Nat) (g : Nat → DV), (zipApp n c d)[j]? = some g → ∃ x y, c[j]? = some x ∧ d[j]? = some y ∧ g = colApp n x y
  | [], _, j, g, h => by simp [zipApp] at h
  | _ :: _, [], j, g, h => by simp [zipApp] at h
  | x :: c, y :: d, 0, g, h => by
    simp only [zipApp, List.getElem?_cons_zero, Option.some.injEq] at h
    exact ⟨x, y, rfl, rfl, h.symm⟩
  | x :: c, y :: d, j + 1, g, h => by
    simp only [zipApp, List.getElem?_cons_succ] at h
    simpa using zipApp_get n c d j g h
theorem zipApp_len (n : Nat) : ∀ (c d : List (Nat → DV)), c.length = d.length → (zipApp n c d).length = c.length
  | [], [], _ => rfl
  | x :: c, y :: d, h => by simp only [zipApp, List.length_cons]; rw [zipApp_len n c d (by simpa using h)]
  | [], _ :: _, h => by simp at h
  | _ :: _, [], h => by simp at h
theorem colApp_spec {rd : Rd} {n m i : Nat} {c d : Nat → DV} (hi : i < n + m) : (i < n → ∀ u, RelC rd (c i) u → RelC rd (colApp n c d i) u) ∧ (n ≤ i → ∀ u, RelC rd (d (i - n)) u → RelC rd (colApp n c d i) u) := by
  unfold colApp
  refine ⟨fun h u hr => sel_sound ⟨fun _ => hr, fun e => ?_⟩, fun h u hr => sel_sound ⟨fun e => ?_, fun _ => hr⟩⟩
  · simp at e; omega
  · simp at e; omega
section
variable {P : Program} {base : Nat} {w0 w w' : World} {S0 : Env} {σ σ' : St} {kn : Nat → Prop} {blk : Nat → Option Loc} {a : Act}
theorem tSize_info {t : TypeId} {n : Nat} (h : tSize P t = some n) : ∃ i, P.info? t = some i ∧ i.size = n := by
  unfold tSize at h
  split at h
  · rename_i i hi; cases h; exact ⟨i, hi, rfl⟩
  · cases h
theorem tBytes_info {t : TypeId} {n : Nat} {i : TypeInfo} (h : tBytes P t = some n) (hi : P.info? t = some i) : i.bytes = n := by
  unfold tBytes at h
  rw [hi] at h
  simpa using h
theorem evAppend_sound (r : R base w0 S0 σ kn blk a w) {id : Nat} (hid : ¬ kn id) {t ty : TypeId} {x y : DV} {vx vy : Value} {e : Eff} (he : evAppend P σ.obj id t x y = e) (hvc : AllP e.vc)
    (hx : Rel (rdOf w base S0 blk) kn blk x vx) (hy : Rel (rdOf w base S0 blk) kn blk y vy) : Runs P base w0 S0 σ kn a w id (Builtin.append_ #[t, t] ty #[vx, vy]) e := by
  unfold evAppend at he
  split at he
  · rename_i el hu
    split at he
    · rename_i s by_ z hs hb hz
      obtain ⟨i, v0, hi, hiz, hcz⟩ := tZero_cells hz
      have hzs := (hcz (fun _ _ => True) (fun _ => True) (fun _ => none)).1
      cases hbq : (Nat.beq z.length s && Nat.ble 1 s)
      · simp only [hbq, cond_false] at he; subst he; exact bad_vc hvc
      · simp only [hbq, cond_true] at he
        simp only [Bool.and_eq_true] at hbq
        have hzl := Nat.eq_of_beq_eq_true hbq.1
        have hs0 : 0 < s := Nat.le_of_ble_eq_true hbq.2
        obtain ⟨i', hi', hsz⟩ := tSize_info hs
        rw [hi] at hi'
        cases hi'
        have hby := tBytes_info hb hi
        split at he
        · rename_i m cols2 vc2 hsrc
          cases hbc : Nat.beq cols2.length s
          · simp only [hbc, cond_false] at he; subst he; exact bad_vc hvc
          · simp only [hbc, cond_true] at he
            have hcl2 := Nat.eq_of_beq_eq_true hbc
            split at he
            · subst he
              cases hx
              obtain ⟨A, c, news, rfl, hln, hnn, hce, hon, hnw⟩ := source_sound r hsrc hvc.tl hcl2 hy
              have hid0 : blk id = none := r.fresh hid
              obtain ⟨v', w', hrun, kn', blk', hR, hrel, hk⟩ := appendCore (ty := ty) (n := 0) (cols := cols2) (F := cols2) r (fun _ => if_pos rfl) hu hi hiz hsz hby (by rw [hzs, hzl]) hs0 hcl2 hcl2 (r.mover (q := id) hid fun l e => by rw [hid0] at e; cases e) (.inl ⟨rfl, rfl⟩)
                hln hnn hce hon hnw (fun rd i j f _ hf => ⟨fun h => by omega, fun _ => ⟨f, hf, fun u h => h⟩⟩) (by have := hvc.hd; rw [Nat.zero_add]; exact this)
              rw [Nat.zero_add] at hR hrel
              refine ⟨v', w', hrun, kn', blk', hR.congr (fun _ => rfl) (fun j => ?_) rfl rfl rfl, hrel, hk⟩
              show ((σ.setObj id (some (.row m cols2))).obj j) = _
              rw [St.obj_setObj, St.obj_setObj, St.obj_setObj]
              by_cases e : id = j <;> simp [e]
            · rename_i s' q len
              split at he
              · rename_i n cols hob
                cases hbb : (Nat.beq s s' && Nat.beq cols.length s)
                · simp only [hbb, cond_false] at he; subst he; exact bad_vc hvc
                · simp only [hbb, cond_true] at he
                  simp only [Bool.and_eq_true] at hbb
                  obtain rfl := Nat.eq_of_beq_eq_true hbb.1
                  have hcl := Nat.eq_of_beq_eq_true hbb.2
                  have hisr : isRow σ.obj q s = true := by unfold isRow; rw [hob]; exact hbb.2
                  obtain ⟨hkq, hrow⟩ := row_val r hisr hx
                  obtain ⟨_, hor⟩ := r.objs _ _ hob
                  have dest : len ≤ n → (vx = .slice none 0 0 ∧ len = 0) ∨ ∃ g C cv T, vx = .slice (some ⟨g, 0, none⟩) len C ∧ len ≤ C ∧ blkD blk q = some g ∧ w.heap[g]? = some (.cells cv T (0, 0)) ∧ cv.size = C * s ∧
                      ∀ (i j : Nat) (f : Nat → DV), i < len → cols[j]? = some f → ∃ u, cv[i * s + j]? = some u ∧ oneV u = true ∧ RelC (rdOf w base S0 blk) (f i) u := by
                    intro hln
                    rcases hrow with ⟨h1, _, h2, h3⟩ | ⟨g, C, h1, h2, h3⟩ | ⟨h1, _⟩
                    rotate_left 2
                    · omega
                    · exact .inl ⟨h1, h2⟩
                    · rcases hor with ⟨h4, _⟩ | ⟨g', C', cv, T, h4, hh, hsz', hn', hrel⟩
                      · rw [h3] at h4; cases h4
                      · rw [h3] at h4
                        cases h4
                        refine .inr ⟨g, C, cv, T, by rw [h1]; simp, by omega, by simp only [blkD, h3], hh, by rw [hsz', hcl], fun i j f hi hj => ?_⟩
                        obtain ⟨u, hu, ho, hr⟩ := hrel i j f (by omega) hj
                        rw [hcl] at hu
                        exact ⟨u, hu, ho, hr⟩
                  · subst he
                    obtain ⟨A, c, news, rfl, hln, hnn, hce, hon, hnw⟩ := source_sound r hsrc hvc.tl.tl hcl2 hy
                    obtain ⟨v', w', hrun, kn', blk', hR, hrel, hk⟩ := appendCore (ty := ty) (n := len) (cols := cols) (F := zipApp len cols cols2) r (fun _ => if_pos rfl) hu hi hiz hsz hby (by rw [hzs, hzl]) hs0 (by rw [zipApp_len _ _ _ (by omega), hcl]) hcl (r.mover (q := q) hid fun l e => by
                        rcases hor with ⟨h, _⟩ | ⟨g, C, _, _, h, _⟩ <;> rw [e] at h <;> cases h
                        · exact .inl rfl
                        · exact .inr ⟨_, _, rfl⟩) (dest hvc.hd)
                      hln hnn hce hon hnw (fun rd i j f hi' hf => by
                        obtain ⟨c', d', h1, h2, rfl⟩ := zipApp_get _ _ _ _ _ hf
                        obtain ⟨k1, k2⟩ := colApp_spec (rd := rd) (c := c') (d := d') hi'
                        exact ⟨fun h => ⟨c', h1, k1 h⟩, fun h => ⟨d', h2, k2 h⟩⟩) hvc.tl.hd
                    exact ⟨v', w', hrun, kn', blk', hR, hrel, hk⟩
              · rename_i n cols hob
                cases hbb : (Nat.beq s s' && Nat.beq cols.length s)
                · simp only [hbb, cond_false] at he; subst he; exact bad_vc hvc
                · simp only [hbb, cond_true] at he
                  simp only [Bool.and_eq_true] at hbb
                  obtain rfl := Nat.eq_of_beq_eq_true hbb.1
                  have hcl := Nat.eq_of_beq_eq_true hbb.2
                  have hisr : isRowA σ.obj q s = true := by unfold isRowA; rw [hob]; exact hbb.2
                  obtain ⟨hkq, hrow⟩ := row_valA r hisr hx
                  obtain ⟨_, hor⟩ := r.objs _ _ hob
                  have dest : len ≤ n → (vx = .slice none 0 0 ∧ len = 0) ∨ ∃ g o C cv T, vx = .slice (some ⟨g, o, none⟩) len C ∧ len ≤ C ∧ blkE blk q = some g ∧ w.heap[g]? = some (.cells cv T (0, 0)) ∧ o + C * s ≤ cv.size ∧
                      ∀ (i j : Nat) (f : Nat → DV), i < len → cols[j]? = some f → ∃ u, cv[o + (i * s + j)]? = some u ∧ oneV u = true ∧ RelC (rdOf w base S0 blk) (f i) u := by
                    intro hln
                    rcases hrow with ⟨h1, _, h2, h3⟩ | ⟨g, o, C, h1, h2, h3⟩ | ⟨h1, _⟩
                    rotate_left 2
                    · omega
                    · exact .inl ⟨h1, h2⟩
                    · rcases hor with ⟨h4, _⟩ | ⟨g', o', C', cv, T, h4, hh, hsz', hn', hrel⟩
                      · rcases h3 with h3 | ⟨h3, _⟩ <;> rw [h3] at h4 <;> cases h4
                      · have hq : g' = g ∧ o' = o ∧ C' = C ∧ blkE blk q = some g := by
                          rcases h3 with h3 | ⟨h3, rfl⟩ <;> rcases h4 with h4 | ⟨h4, rfl⟩ <;> rw [h3] at h4 <;> cases h4 <;> exact ⟨rfl, rfl, rfl, by simp only [blkE, h3]⟩
                        obtain ⟨rfl, rfl, rfl, hbe⟩ := hq
                        refine .inr ⟨g', o', C', cv, T, by rw [h1]; simp, by omega, hbe, hh, by rw [← hcl]; exact hsz', fun i j f hi hj => ?_⟩
                        obtain ⟨u, hu, ho, hr⟩ := hrel i j f (by omega) hj
                        rw [hcl] at hu
                        exact ⟨u, hu, ho, hr⟩
                  · subst he
                    obtain ⟨A, c, news, rfl, hln, hnn, hce, hon, hnw⟩ := source_sound r hsrc hvc.tl.tl hcl2 hy
                    obtain ⟨v', w', hrun, kn', blk', hR, hrel, hk⟩ := appendCoreS (ty := ty) (n := len) (cols := cols) (F := zipApp len cols cols2) r (fun _ => if_pos rfl) hu hi hiz hsz hby (by rw [hzs, hzl]) hs0 (by rw [zipApp_len _ _ _ (by omega), hcl]) hcl (r.moverS (q := q) hid (fun l e => by
                        rcases hor with ⟨h, _⟩ | ⟨g, o, C, _, _, h, _⟩
                        · rw [e] at h; cases h; exact .inl rfl
                        · rcases h with h | ⟨h, _⟩ <;> rw [e] at h <;> cases h
                          · exact .inr ⟨_, .inr ⟨_, _, rfl⟩⟩
                          · exact .inr ⟨_, .inl ⟨_, rfl⟩⟩) (fun g hg => blkE_some hg)) (dest hvc.hd)
                      hln hnn hce hon hnw (fun rd i j f hi' hf => by
                        obtain ⟨c', d', h1, h2, rfl⟩ := zipApp_get _ _ _ _ _ hf
                        obtain ⟨k1, k2⟩ := colApp_spec (rd := rd) (c := c') (d := d') hi'
                        exact ⟨fun h => ⟨c', h1, k1 h⟩, fun h => ⟨d', h2, k2 h⟩⟩) hvc.tl.hd
                    exact ⟨v', w', hrun, kn', blk', hR, hrel, hk⟩
              · subst he; exact bad_vc hvc
            · rename_i tk mi
              split at he
              · rename_i ks len col hot hob
                split at he
                · rename_i l hlk
                  cases hb1 : Nat.beq s 1
                  · simp only [hb1, cond_false] at he; subst he; exact bad_vc hvc
                  · simp only [hb1, cond_true] at he
                    subst he
                    obtain rfl := Nat.eq_of_beq_eq_true hb1
                    obtain ⟨A, c, news, rfl, hln, hnn, hce, hon, hnw⟩ := source_sound r hsrc hvc.tl hcl2 hy
                    obtain ⟨_, g, bs, es, clock, hlm, hh, hG, hbs, hhot⟩ := r.objs _ _ hob
                    obtain ⟨v', hbt, hat⟩ := hhot tk l (look_mem' hlk)
                    have hvv : vx = v' := by cases hx with | tok _ _ h => exact h v' hbt
                    subst hvv
                    have hent : GEnt w (rdOf w base S0 blk) bs (len l) (col l) vx := by
                      rcases hat with ⟨e, he, hk, rfl⟩ | ⟨h1, rfl⟩
                      · exact hG.ent e l he hk (by simp)
                      · exact .inl ⟨rfl, hG.miss l h1 (by simp)⟩
                    obtain ⟨D, hD, hdest⟩ : ∃ D : Option Nat, (∀ g, D = some g → g ∈ bs ∧ ∃ n C, vx = .slice (some ⟨g, 0, none⟩) n C) ∧ ((vx = .slice none 0 0 ∧ len l = 0) ∨ ∃ g C cv T, vx = .slice (some ⟨g, 0, none⟩) (len l) C ∧ len l ≤ C ∧ D = some g ∧ w.heap[g]? = some (.cells cv T (0, 0)) ∧ cv.size = C * 1 ∧
                        ∀ (i j : Nat) (f : Nat → DV), i < len l → [col l][j]? = some f → ∃ u, cv[i * 1 + j]? = some u ∧ oneV u = true ∧ RelC (rdOf w base S0 blk) (f i) u) := by
                      rcases hent with ⟨h1, h0⟩ | ⟨g', C, cv, T, h1, h2, h3, h4, h5, h6⟩
                      · exact ⟨none, (fun _ h => by cases h), .inl ⟨h1, h0⟩⟩
                      · refine ⟨some g', (fun _ h => by cases h; exact ⟨h2, _, _, h1⟩), .inr ⟨g', C, cv, T, h1, h5, rfl, h3, by omega, fun i j f hi hf => ?_⟩⟩
                        have hj : j = 0 := by
                          have := (List.getElem?_eq_some_iff.1 hf).1
                          simp at this; exact this
                        subst hj
                        simp at hf
                        subst hf
                        simpa using h6 i hi
                    obtain ⟨v', w', hrun, kn', blk', hR, hrel, hk⟩ := appendCore (ty := ty) (n := len l) (cols := [col l]) (F := zipApp (len l) [col l] cols2) r (fun _ => if_pos rfl) hu hi hiz hsz hby (by rw [hzs, hzl]) hs0 (by rw [zipApp_len _ _ _ (by simpa using hcl2.symm)]; rfl) rfl (r.moverG hid hlm hh hG hbs hat hD) hdest
                      hln hnn hce hon hnw (fun rd i j f hi' hf => by
                        obtain ⟨c', d', h1, h2, rfl⟩ := zipApp_get _ _ _ _ _ hf
                        obtain ⟨k1, k2⟩ := colApp_spec (rd := rd) (c := c') (d := d') hi'
                        exact ⟨fun h => ⟨c', h1, k1 h⟩, fun h => ⟨d', h2, k2 h⟩⟩) hvc.hd
                    exact ⟨v', w', hrun, kn', blk', hR, hrel, hk⟩
                · subst he; exact bad_vc hvc
              · subst he; exact bad_vc hvc
            · subst he; exact bad_vc hvc
        · subst he; exact bad_vc hvc
    · subst he; exact bad_vc hvc
  · subst he; exact bad_vc hvc
def ownIds : DV → List Nat
  | .row _ id _ _ => [id]
  | .mph id => [id]
  | _ => []
theorem map_rd (r : R base w0 S0 σ kn blk a w) {m : Nat} {ks : KS} {has : List Int → Bool} {col : List Int → DV} {hot : Option (Nat × List Int)} {v : Value} {rd' : Rd} (hmono : ∀ a u, rdOf w base S0 blk a u → rd' a u)
    (hown : ∀ l g, blk m = some l → l.has g → ∀ ad u, ad.block = g → rdw w ad u → rd' ad u) (hob : σ.obj m = some (.map ks has col hot)) (hv : Rel (rdOf w base S0 blk) kn blk (.mph m) v) : RelC rd' (.mp ks has col) v := by
  obtain ⟨_, g, es, clock, hl, hh, hm, _, _⟩ := r.objs _ _ hob
  have hvg : v = .map (some g) := by cases hv with | mph _ _ h => exact h g [] hl
  subst hvg
  refine .mp (es.toList.map fun e => (e.key, e.val)) (fun h => by cases h) (fun g' e => ?_) (fun p hp => ?_) (fun l hl => ?_) ?_ (fun p hp => ?_) fun p l hp hk => ?_
  · cases e
    exact hown _ g hl (.inl rfl) _ _ rfl (.inr (.inl ⟨es, clock, hh, rfl⟩))
  · obtain ⟨e, he, rfl⟩ := List.mem_map.1 hp
    exact hm.hk e he
  · obtain ⟨e, he, hk⟩ := hm.hh l hl
    exact ⟨_, List.mem_map.2 ⟨e, he, rfl⟩, hk⟩
  · rw [List.pairwise_map]; exact hm.hd
  · obtain ⟨e, he, rfl⟩ := List.mem_map.1 hp
    exact hm.hs e he
  · obtain ⟨e, he, rfl⟩ := List.mem_map.1 hp
    exact (hm.h e l he hk).mono hmono (fun _ h => h) fun _ _ h => h.elim
theorem lend_rd (r : R base w0 S0 σ kn blk a w) {d d' : DV} {vc : List Prop} {v : Value} {rd' : Rd} (hmono : ∀ a u, rdOf w base S0 blk a u → rd' a u)
    (hown : ∀ id l g, id ∈ ownIds d → blk id = some l → l.has g → ∀ ad u, ad.block = g → rdw w ad u → rd' ad u) (h : lend σ.obj d = some (d', vc)) (hvc : AllP vc) (hv : Rel (rdOf w base S0 blk) kn blk d v) :
    RelC rd' d' v ∧ ((∀ id, id ∉ ownIds d) → RelC (rdOf w base S0 blk) d' v) := by
  have open_ : ∀ {d v}, RelC (rdOf w base S0 blk) d v → RelC rd' d v := fun h => h.mono hmono (fun _ h => h) fun _ _ h => h.elim
  unfold lend at h
  split at h
  · rename_i s id off len
    refine ⟨?_, fun hne => absurd (List.mem_singleton.2 rfl) (hne id)⟩
    split at h
    · rename_i n cols hob
      cases hb : Nat.beq cols.length s
      · simp [hb] at h
      · simp only [hb, cond_true] at h
        have hcs := Nat.eq_of_beq_eq_true hb
        have hisr : isRow σ.obj id s = true := by unfold isRow; rw [hob]; exact hb
        have gen : ∀ colsx, colsx = cols.map (fun c i => c (i + off)) → len + off ≤ n → RelC rd' (.lst len colsx) v := by
          intro colsx hcx hle
          have hlx : colsx.length = s := by rw [hcx]; simpa using hcs
          obtain ⟨_, ⟨rfl, _, rfl, _⟩ | ⟨g, C, rfl, hC, hl⟩ | ⟨_, rfl, p, c, rfl⟩⟩ := row_val r hisr hv
          rotate_left 2
          · exact .lst (fun _ _ => undef) (Nat.zero_le _) (fun i j f hi => by omega) (fun h => by omega) (fun i j f hi => by omega) fun i j f hi => by omega
          · exact .lst (fun _ _ => undef) (Nat.le_refl _) (fun i j f hi => by omega) (fun h => by omega) (fun i j f hi => by omega) fun i j f hi => by omega
          · obtain ⟨_, hor⟩ := r.objs _ _ hob
            rcases hor with ⟨hln, _⟩ | ⟨g', C', cv, T, hl', hh, hsz, hn', hrel⟩
            · rw [hln] at hl; cases hl
            · rw [hl] at hl'
              cases hl'
              have key : ∀ (i j : Nat) (f : Nat → DV), i < len → colsx[j]? = some f → ∃ u, w.cell? (Addr.add ⟨g, off * s, none⟩ (i * colsx.length + j)) = some u ∧ oneV u = true ∧ RelC (rdOf w base S0 blk) (f i) u := by
                intro i j f hi hf
                rw [hcx, List.getElem?_map] at hf
                cases hcj : cols[j]? with
                | none => simp [hcj] at hf
                | some f' =>
                  simp only [hcj, Option.map_some, Option.some.injEq] at hf
                  subst hf
                  obtain ⟨u, hu, ho, hre⟩ := hrel (i + off) j f' (by omega) hcj
                  rw [hcs] at hu
                  refine ⟨u, ?_, ho, hre⟩
                  rw [add_off, hlx]
                  simp only [World.cell?, hh]
                  rw [show off * s + (i * s + j) = (i + off) * s + j by rw [Nat.add_mul]; omega, hu]
                  rfl
              have val : ∀ (i j : Nat) (f : Nat → DV), i < len → colsx[j]? = some f → w.cell? (Addr.add ⟨g, off * s, none⟩ (i * colsx.length + j)) = some ((w.cell? (Addr.add ⟨g, off * s, none⟩ (i * colsx.length + j))).getD undef) := by
                intro i j f hi hf
                obtain ⟨u, hu, _⟩ := key i j f hi hf
                rw [hu]; rfl
              refine .lst (fun i j => (w.cell? (Addr.add ⟨g, off * s, none⟩ (i * colsx.length + j))).getD undef) (by omega) (fun i j f hi hf => ⟨_, rfl, hown id _ g (List.mem_singleton.2 rfl) hl rfl _ _ (by rw [add_off]) (.inl ⟨val i j f hi hf, by obtain ⟨u, hu, ho, _⟩ := key i j f hi hf; rw [hu]; exact ho⟩)⟩) (fun _ h => by cases h) (fun i j f hi hf => ?_) fun i j f hi hf => ?_
              · obtain ⟨u, hu, ho, _⟩ := key i j f hi hf
                rw [hu]; exact ho
              · obtain ⟨u, hu, _, hr⟩ := key i j f hi hf
                rw [hu]; exact open_ hr
        simp only [Option.some.injEq, Prod.mk.injEq] at h
        obtain ⟨rfl, rfl⟩ := h
        exact gen _ rfl hvc.one
    · cases h
  · rename_i m
    refine ⟨?_, fun hne => absurd (List.mem_singleton.2 rfl) (hne m)⟩
    split at h
    · rename_i ks has col hot hob
      simp only [Option.some.injEq, Prod.mk.injEq] at h
      obtain ⟨rfl, rfl⟩ := h
      exact map_rd r hmono (fun l g => hown m l g (List.mem_singleton.2 rfl)) hob hv
    · cases h
  · cases hc : d.closed
    · simp [hc] at h
    · simp only [hc, cond_true, Option.some.injEq, Prod.mk.injEq] at h
      obtain ⟨rfl, rfl⟩ := h
      have := hv.close hc
      exact ⟨open_ this, fun _ => this⟩
theorem own_S (r : R base w0 S0 σ kn blk a w) {id g : Nat} {l : Loc} (hl : blk id = some l) (hg : l.has g) : S0.S g ∨ base ≤ g := (r.ge _ _ _ hl hg).1.elim .inr fun h => .inl (r.xs _ h)
theorem own_low (r : R base w0 S0 σ kn blk a w) {id g : Nat} {l : Loc} (hl : blk id = some l) (hg : l.has g) : ∀ B, S0.wb = some B → isMapAt w g → g < B := fun B hB ⟨o, h, h2⟩ => by
  rcases r.not_other hl hg with ⟨_, _, h'⟩ | ⟨bs, _, rfl, _⟩
  · rw [h] at h'; cases h'; rcases h2 with ⟨_, _, h2⟩ | ⟨_, _, _, _, h2⟩ <;> cases h2
  · exact r.mlow B hB id g bs hl
theorem lend_sound (r : R base w0 S0 σ kn blk a w) {d d' : DV} {vc : List Prop} {v : Value} (h : lend σ.obj d = some (d', vc)) (hvc : AllP vc) (hv : Rel (rdOf w base S0 blk) kn blk d v) :
    RelC (rdRes w S0.S base) d' v ∧ ((∀ id, id ∉ ownIds d) → RelC (rdOf w base S0 blk) d' v) :=
  lend_rd r (fun a u ⟨x, _, y, _⟩ => ⟨x, y⟩) (fun id l g _ hl hg ad u e hu => ⟨hu, e ▸ own_S r hl hg⟩) h hvc hv
theorem lends_rd (r : R base w0 S0 σ kn blk a w) {rd' : Rd} (hmono : ∀ a u, rdOf w base S0 blk a u → rd' a u) : ∀ {ds es : List DV} {vc : List Prop} {vs : List Value},
    (∀ d id l g, d ∈ ds → id ∈ ownIds d → blk id = some l → l.has g → ∀ ad u, ad.block = g → rdw w ad u → rd' ad u) → lends σ.obj ds = some (es, vc) → AllP vc → vs.length = ds.length →
    (∀ (j : Nat) (d : DV) (v : Value), ds[j]? = some d → vs[j]? = some v → Rel (rdOf w base S0 blk) kn blk d v) →
    ∀ (j : Nat) (d : DV) (v : Value), es[j]? = some d → vs[j]? = some v → RelC rd' d v
  | [], es, vc, vs, _, h, _, _, _ => by
    simp only [lends, Option.some.injEq, Prod.mk.injEq] at h
    obtain ⟨rfl, rfl⟩ := h
    simp
  | d :: ds, es, vc, vs, hown, h, hvc, hl, hv => by
    simp only [lends] at h
    split at h
    · rename_i e vc1 es1 vcs1 h1 h2
      simp only [Option.some.injEq, Prod.mk.injEq] at h
      obtain ⟨rfl, rfl⟩ := h
      obtain ⟨hv1, hv2⟩ := AllP.app hvc
      match vs, hl with
      | v :: vs, hl =>
        have k1 := (lend_rd r hmono (fun id l g hm => hown d id l g List.mem_cons_self hm) h1 hv1 (hv 0 d v rfl rfl)).1
        have l1 := lends_rd r hmono (fun d' id l g hm => hown d' id l g (List.mem_cons_of_mem _ hm)) h2 hv2 (by simpa using hl) (fun j d v hd hvv => hv (j + 1) d v hd hvv)
        intro j d' v' hd hvv
        cases j with
        | zero => simp at hd hvv; subst hd hvv; exact k1
        | succ j => exact l1 j d' v' (by simpa using hd) (by simpa using hvv)
    · cases h
def rowIn (i : Nat) : List DV → Bool
  | [] => false
  | .row _ id _ _ :: r => decide (id = i) || rowIn i r
  | .mph id :: r => decide (id = i) || rowIn i r
  | _ :: r => rowIn i r
theorem rowIn_iff {i : Nat} : ∀ {l : List DV}, rowIn i l = true ↔ ∃ d ∈ l, i ∈ ownIds d
  | [] => by simp [rowIn]
  | d :: l => by
    have ih := rowIn_iff (i := i) (l := l)
    have h1 : (∃ d', d' ∈ d :: l ∧ i ∈ ownIds d') ↔ i ∈ ownIds d ∨ ∃ d', d' ∈ l ∧ i ∈ ownIds d' := by
      constructor
      · rintro ⟨d', hd, hi⟩
        rcases List.mem_cons.1 hd with rfl | hd
        · exact .inl hi
        · exact .inr ⟨d', hd, hi⟩
      · rintro (hi | ⟨d', hd, hi⟩)
        · exact ⟨d, List.mem_cons_self, hi⟩
        · exact ⟨d', List.mem_cons_of_mem _ hd, hi⟩
    rw [h1, ← ih]
    have e1 : ∀ id : Nat, (i ∈ [id] ↔ id = i) := fun id => by rw [List.mem_singleton]; exact eq_comm
    cases d <;> simp only [rowIn, ownIds, Bool.or_eq_true, decide_eq_true_eq, List.not_mem_nil, false_or, e1]
theorem look_drop {h : List (Nat × Option AObj)} {i : Nat} : ∀ {l : List DV}, look (dropRows l ++ h) i = if rowIn i l = true then some none else look h i
  | [] => by simp [dropRows, rowIn]
  | d :: l => by
    have ih := look_drop (h := h) (i := i) (l := l)
    have own : ∀ id, look ((id, none) :: (dropRows l ++ h)) i = if (decide (id = i) || rowIn i l) = true then some none else look h i := fun id => by
      simp only [look_cons, Bool.or_eq_true, decide_eq_true_eq]
      by_cases e : id = i
      · rw [if_pos e, if_pos (.inl e)]
      · rw [if_neg e, ih]
        by_cases h2 : rowIn i l = true
        · rw [if_pos h2, if_pos (.inr h2)]
        · rw [if_neg h2, if_neg (fun h => h.elim e h2)]
    cases d with
    | row s id off len => exact own id
    | mph id => exact own id
    | _ => exact ih
theorem R.dropRows (r : R base w0 S0 σ kn blk a w) (l : List DV) (hl : ∀ d id v, d ∈ l → id ∈ ownIds d → blk id ≠ some (.is v)) :
    ∃ blk', R base w0 S0 { σ with h := Abs.dropRows l ++ σ.h } kn blk' a w ∧ (∀ id x, blk' id = some x → blk id = some x) ∧ ∀ d id, d ∈ l → id ∈ ownIds d → blk' id = none := by
  refine ⟨fun id => if rowIn id l = true then none else blk id, ?_, fun id x e => ?_, fun d id hm hi => if_pos (rowIn_iff.2 ⟨d, hm, hi⟩)⟩
  · have hobj : ∀ i, St.obj { σ with h := Abs.dropRows l ++ σ.h } i = if rowIn i l = true then none else σ.obj i := fun i => by
      unfold St.obj
      simp only [look_drop]
      by_cases h : rowIn i l = true
      · rw [if_pos h, if_pos h]
      · rw [if_neg h, if_neg h]
    refine r.step (fun _ => False) (fun i => rowIn i l = true) (Nat.le_refl _) rfl rfl rfl (fun _ _ _ => rfl) (fun _ h => h.elim) (fun _ h => h) (fun i h => if_neg h) (fun i v h _ e => ?_) (fun i x g h e => ?_) (fun i x h _ e => ?_) rfl rfl rfl (fun _ => rfl) (fun i h => by rw [hobj, if_neg h])
      (fun _ _ _ i o h e => ?_) (fun i x h e => ?_) (fun i i' _ _ _ h _ e => ?_) fun B _ i g bs h e => ?_
    · obtain ⟨d, hd, hi⟩ := rowIn_iff.1 h
      exact absurd e (hl d i v hd hi)
    · rw [if_pos h] at e; cases e
    · rw [if_pos h] at e; cases e
    · rw [hobj, if_pos h] at e; cases e
    · rw [if_pos h] at e; cases e
    · rw [if_pos h] at e; cases e
    · rw [if_pos h] at e; cases e
  · have e : (if rowIn id l = true then none else blk id) = some x := e
    split at e
    · cases e
    · exact e
theorem lend_is (r : R base w0 S0 σ kn blk a w) {d : DV} {p : DV × List Prop} (h : lend σ.obj d = some p) : ∀ id v, id ∈ ownIds d → blk id ≠ some (.is v) := by
  intro id v hi e
  cases d with
  | row s i off len =>
    obtain rfl := List.mem_singleton.1 hi
    simp only [lend] at h
    split at h
    · rename_i n cols hob
      have := (r.objs _ _ hob).2
      rw [e] at this
      rcases this with ⟨h, _⟩ | ⟨_, _, _, _, h, _⟩ <;> cases h
    · cases h
  | mph i =>
    obtain rfl := List.mem_singleton.1 hi
    simp only [lend] at h
    split at h
    · rename_i ks has col hot hob
      obtain ⟨_, _, _, h, _⟩ := (r.objs _ _ hob).2
      rw [e] at h; cases h
    · cases h
  | _ => simp [ownIds] at hi
theorem lends_is (r : R base w0 S0 σ kn blk a w) : ∀ {ds : List DV} {p : List DV × List Prop}, lends σ.obj ds = some p → ∀ d id v, d ∈ ds → id ∈ ownIds d → blk id ≠ some (.is v)
  | [], _, _, d, _, _, hd, _ => by cases hd
  | d :: ds, p, h, d', id, v, hd, hi => by
    simp only [lends] at h
    split at h
    · rename_i e vc1 es1 vcs1 h1 h2
      rcases List.mem_cons.1 hd with rfl | hd
      · exact lend_is r h1 id v hi
      · exact lends_is r h2 d' id v hd hi
    · cases h
theorem lends_sound (r : R base w0 S0 σ kn blk a w) : ∀ {ds es : List DV} {vc : List Prop} {vs : List Value}, lends σ.obj ds = some (es, vc) → AllP vc → vs.length = ds.length →
    (∀ (j : Nat) (d : DV) (v : Value), ds[j]? = some d → vs[j]? = some v → Rel (rdOf w base S0 blk) kn blk d v) →
    es.length = ds.length ∧ (∀ (j : Nat) (d : DV) (v : Value), es[j]? = some d → vs[j]? = some v → RelC (rdArg w (fun _ => True)) d v) ∧
      (hasRow ds = false → ∀ (j : Nat) (d : DV) (v : Value), es[j]? = some d → vs[j]? = some v → RelC (rdOf w base S0 blk) d v)
  | [], es, vc, vs, h, _, _, _ => by
    simp only [lends, Option.some.injEq, Prod.mk.injEq] at h
    obtain ⟨rfl, rfl⟩ := h
    exact ⟨rfl, by simp, by simp⟩
  | d :: ds, es, vc, vs, h, hvc, hl, hv => by
    simp only [lends] at h
    split at h
    · rename_i e vc1 es1 vcs1 h1 h2
      simp only [Option.some.injEq, Prod.mk.injEq] at h
      obtain ⟨rfl, rfl⟩ := h
      obtain ⟨hv1, hv2⟩ := AllP.app hvc
      match vs, hl with
      | v :: vs, hl =>
        obtain ⟨k1, k2⟩ := lend_sound r h1 hv1 (hv 0 d v rfl rfl)
        obtain ⟨l1, l2, l3⟩ := lends_sound r h2 hv2 (by simpa using hl) (fun j d v hd hvv => hv (j + 1) d v hd hvv)
        refine ⟨by simp [l1], fun j d' v' hd hvv => ?_, fun hrow j d' v' hd hvv => ?_⟩
        · cases j with
          | zero => simp at hd hvv; subst hd hvv; exact k1.mono (fun a u ⟨x, _⟩ => ⟨x, trivial⟩) (fun _ h => h) fun _ _ h => h.elim
          | succ j => exact l2 j d' v' (by simpa using hd) (by simpa using hvv)
        · have hnr : ∀ id, id ∉ ownIds d := by
            intro id hi
            cases d <;> simp [ownIds] at hi <;> simp [hasRow] at hrow
          have hrow' : hasRow ds = false := by
            cases d <;> simp only [hasRow] at hrow <;> first | exact hrow | cases hrow
          cases j with
          | zero => simp at hd hvv; subst hd hvv; exact k2 hnr
          | succ j => exact l3 hrow' j d' v' (by simpa using hd) (by simpa using hvv)
    · cases h
theorem plain_go : ∀ {cs : List DV}, DV.plain.go cs = true → ∀ d ∈ cs, d.plain = true
  | [], _, d, hd => by cases hd
  | c :: r, h, d, hd => by
    simp only [DV.plain.go] at h
    cases hc : c.plain
    · simp [hc] at h
    · simp only [hc, cond_true] at h
      rcases List.mem_cons.1 hd with rfl | hd
      · exact hc
      · exact plain_go h d hd
theorem Rel.plain {rd rd' : Rd} {kn : Nat → Prop} {blk : Nat → Option Loc} {d : DV} {v : Value} (h : Rel rd kn blk d v) : d.plain = true → RelC rd' d v := by
  induction h with
  | val v => intro _; exact .val v
  | agg hs _ ih => intro hc; exact .agg hs fun j d u hd hu => ih j d u hd hu (plain_go hc d (List.mem_of_getElem? hd))
  | tup hs _ ih => intro hc; exact .tup hs fun j d u hd hu => ih j d u hd hu (plain_go hc d (List.mem_of_getElem? hd))
  | lst => intro hc; simp [DV.plain] at hc
  | cptr => intro hc; simp [DV.plain] at hc
  | mp => intro hc; simp [DV.plain] at hc
  | mph => intro hc; simp [DV.plain] at hc
  | tok => intro hc; simp [DV.plain] at hc
  | grd => intro hc; simp [DV.plain] at hc
  | gptr => intro hc; simp [DV.plain] at hc
  | clo => intro hc; simp [DV.plain] at hc
  | bnd => intro hc; simp [DV.plain] at hc
  | ptr => intro hc; simp [DV.plain] at hc
  | rptr => intro hc; simp [DV.plain] at hc
  | row => intro hc; simp [DV.plain] at hc
  | opt => intro hc; simp [DV.plain] at hc
  | err => intro hc; simp [DV.plain] at hc
  | whole => intro hc; simp [DV.plain] at hc
  | any => intro hc; simp [DV.plain] at hc
theorem box_rd (r : R base w0 S0 σ kn blk a w) {id : Nat} {cs : List DV} {v : Value} {rd' : Rd} (hmono : ∀ a u, rdOf w base S0 blk a u → rd' a u) (hown : ∀ l g, blk id = some l → l.has g → ∀ ad u, ad.block = g → rdw w ad u → rd' ad u)
    (hob : σ.obj id = some (.box cs)) (hc : DV.closed.go cs = true) (hv : Rel (rdOf w base S0 blk) kn blk (.ptr id 0) v) : RelC rd' (.cptr cs) v := by
  obtain ⟨g, C, cv, T, hbk, hh, hsz, hr, ho⟩ := (r.objs _ _ hob).2
  cases hv with
  | ptr hk hv h =>
    rw [h g C hbk]
    have cell : ∀ (j : Nat) (d : DV), cs[j]? = some d → ∃ u, cv[j]? = some u ∧ w.cell? (Addr.add ⟨g, 0, none⟩ j) = some u := fun j d hd => by
      have h2 : j < cv.size := by have := (List.getElem?_eq_some_iff.1 hd).1; omega
      refine ⟨_, Array.getElem?_eq_getElem h2, ?_⟩
      rw [add_off, Nat.zero_add]
      simp only [World.cell?, hh, Array.getElem?_eq_getElem h2]
      rfl
    refine .cptr (fun j => (w.cell? (Addr.add ⟨g, 0, none⟩ j)).getD undef) (fun j d hd => ?_) (fun j d hd => ?_) fun j d hd => ?_
    · obtain ⟨u, h1, h3⟩ := cell j d hd
      exact hown _ g hbk rfl _ _ (by rw [add_off]) (.inl ⟨by rw [h3]; rfl, by rw [h3]; exact ho u (Array.mem_toList_iff.2 (Array.mem_of_getElem? h1))⟩)
    · obtain ⟨u, h1, h3⟩ := cell j d hd
      rw [h3]
      exact ho u (Array.mem_toList_iff.2 (Array.mem_of_getElem? h1))
    · obtain ⟨u, h1, h3⟩ := cell j d hd
      rw [h3]
      exact ((hr j d u hd h1).close (closed_go hc d (List.mem_of_getElem? hd))).mono hmono (fun _ h => h) fun _ _ h => h.elim
theorem own_lent {d : DV} {id : Nat} (h : id ∈ ownIds d) : id ∈ lentId d := by cases d <;> first | exact h | simp [ownIds] at h
theorem lent_ids {d : DV} {id : Nat} (h : id ∈ lentId d) : id ∈ lentIds d := by cases d <;> first | exact h | simp [lentId] at h
def Lends (w : World) (blk : Nat → Option Loc) (rd' : Rd) (ids : List Nat) : Prop := ∀ id l g, id ∈ ids → blk id = some l → l.has g → ∀ ad u, ad.block = g → rdw w ad u → rd' ad u
theorem lendP_rd (r : R base w0 S0 σ kn blk a w) {rd' : Rd} (hmono : ∀ a u, rdOf w base S0 blk a u → rd' a u) {d d' : DV} {vc : List Prop} {v : Value} (hown : Lends w blk rd' (lentId d)) (h : lendP σ.obj d = some (d', vc)) (hvc : AllP vc) (hv : Rel (rdOf w base S0 blk) kn blk d v) : RelC rd' d' v := by
  unfold lendP at h
  split at h
  · rename_i id
    split at h
    · rename_i cs hob
      cases hc : DV.closed.go cs
      · simp [hc] at h
      · simp only [hc, cond_true, Option.some.injEq, Prod.mk.injEq] at h
        obtain ⟨rfl, rfl⟩ := h
        exact box_rd r hmono (fun l g => hown id l g (List.mem_singleton.2 rfl)) hob hc hv
    · cases h
  · exact (lend_rd r hmono (fun id l g hi => hown id l g (own_lent hi)) h hvc hv).1
theorem lendPL_rd (r : R base w0 S0 σ kn blk a w) {rd' : Rd} (hmono : ∀ a u, rdOf w base S0 blk a u → rd' a u) : ∀ {ds es : List DV} {vc : List Prop}, Lends w blk rd' (lentIds.go ds) → lendPL σ.obj ds = some (es, vc) → AllP vc → es.length = ds.length ∧
    ∀ (j : Nat) (d e : DV) (v : Value), ds[j]? = some d → es[j]? = some e → Rel (rdOf w base S0 blk) kn blk d v → RelC rd' e v
  | [], es, vc, _, h, _ => by
    simp only [lendPL, Option.some.injEq, Prod.mk.injEq] at h
    obtain ⟨rfl, rfl⟩ := h
    exact ⟨rfl, by simp⟩
  | d :: ds, es, vc, hown, h, hvc => by
    simp only [lendPL] at h
    split at h
    · rename_i e vc1 es1 vcs1 h1 h2
      simp only [Option.some.injEq, Prod.mk.injEq] at h
      obtain ⟨rfl, rfl⟩ := h
      obtain ⟨k1, k2⟩ := AllP.app hvc
      obtain ⟨l1, l2⟩ := lendPL_rd r hmono (fun id l g hi => hown id l g (List.mem_append_right _ hi)) h2 k2
      refine ⟨by simp [l1], fun j d' e' v hd he hv => ?_⟩
      cases j with
      | zero =>
        simp only [List.getElem?_cons_zero, Option.some.injEq] at hd he
        subst hd he
        exact lendP_rd r hmono (fun id l g hi => hown id l g (List.mem_append_left _ hi)) h1 k1 hv
      | succ j => exact l2 j d' e' v (by simpa using hd) (by simpa using he) hv
    · cases h
theorem lendB_rd (r : R base w0 S0 σ kn blk a w) {rd' : Rd} (hmono : ∀ a u, rdOf w base S0 blk a u → rd' a u) {d d' : DV} {vc : List Prop} {v : Value} (hown : Lends w blk rd' (lentIds d)) (h : lendB σ.obj d = some (d', vc)) (hvc : AllP vc) (hv : Rel (rdOf w base S0 blk) kn blk d v) : RelC rd' d' v := by
  unfold lendB at h
  split at h
  · rename_i f cs
    split at h
    · rename_i es vc' hl
      simp only [Option.some.injEq, Prod.mk.injEq] at h
      obtain ⟨rfl, rfl⟩ := h
      obtain ⟨l1, l2⟩ := lendPL_rd r hmono hown hl hvc
      cases hv with
      | clo hs hr =>
        refine .clo (by rw [l1]; exact hs) fun j d u hd hu => ?_
        have hlt := (List.getElem?_eq_some_iff.1 hd).1
        have hd' := List.getElem?_eq_getElem (l1 ▸ hlt)
        exact l2 j _ d u hd' hd (hr j _ u hd' hu)
    · cases h
  · rename_i cs
    split at h
    · rename_i es vc' hl
      simp only [Option.some.injEq, Prod.mk.injEq] at h
      obtain ⟨rfl, rfl⟩ := h
      obtain ⟨l1, l2⟩ := lendPL_rd r hmono hown hl hvc
      cases hv with
      | agg hs hr =>
        refine .agg (by rw [l1]; exact hs) fun j d u hd hu => ?_
        have hlt := (List.getElem?_eq_some_iff.1 hd).1
        have hd' := List.getElem?_eq_getElem (l1 ▸ hlt)
        exact l2 j _ d u hd' hd (hr j _ u hd' hu)
    · cases h
  · exact lendP_rd r hmono (fun id l g hi => hown id l g (lent_ids hi)) h hvc hv
theorem lendB_sound (r : R base w0 S0 σ kn blk a w) {d d' : DV} {vc : List Prop} {v : Value} (h : lendB σ.obj d = some (d', vc)) (hvc : AllP vc) (hv : Rel (rdOf w base S0 blk) kn blk d v) : RelC (rdArg w fun _ => True) d' v :=
  lendB_rd r (fun a u h => ⟨h.1, trivial⟩) (fun _ _ _ _ _ _ _ _ _ h => ⟨h, trivial⟩) h hvc hv
theorem lendBs_sound (r : R base w0 S0 σ kn blk a w) : ∀ {ds es : List DV} {vc : List Prop} {vs : List Value}, lendBs σ.obj ds = some (es, vc) → AllP vc → vs.length = ds.length →
    (∀ (j : Nat) (d : DV) (v : Value), ds[j]? = some d → vs[j]? = some v → Rel (rdOf w base S0 blk) kn blk d v) →
    es.length = ds.length ∧ ∀ (j : Nat) (d : DV) (v : Value), es[j]? = some d → vs[j]? = some v → RelC (rdArg w (fun _ => True)) d v
  | [], es, vc, vs, h, _, _, _ => by
    simp only [lendBs, Option.some.injEq, Prod.mk.injEq] at h
    obtain ⟨rfl, rfl⟩ := h
    exact ⟨rfl, by simp⟩
  | d :: ds, es, vc, vs, h, hvc, hl, hv => by
    simp only [lendBs] at h
    split at h
    · rename_i e vc1 es1 vcs1 h1 h2
      simp only [Option.some.injEq, Prod.mk.injEq] at h
      obtain ⟨rfl, rfl⟩ := h
      obtain ⟨hv1, hv2⟩ := AllP.app hvc
      match vs, hl with
      | v :: vs, hl =>
        have k1 := lendB_sound r h1 hv1 (hv 0 d v rfl rfl)
        obtain ⟨l1, l2⟩ := lendBs_sound r h2 hv2 (by simpa using hl) (fun j d v hd hvv => hv (j + 1) d v hd hvv)
        refine ⟨by simp [l1], fun j d' v' hd hvv => ?_⟩
        cases j with
        | zero => simp at hd hvv; subst hd hvv; exact k1
        | succ j => exact l2 j d' v' (by simpa using hd) (by simpa using hvv)
    · cases h
theorem lendBs_rd (r : R base w0 S0 σ kn blk a w) {rd' : Rd} (hmono : ∀ a u, rdOf w base S0 blk a u → rd' a u) : ∀ {ds es : List DV} {vc : List Prop} {vs : List Value}, Lends w blk rd' (allIds ds) → lendBs σ.obj ds = some (es, vc) → AllP vc → vs.length = ds.length →
    (∀ (j : Nat) (d : DV) (v : Value), ds[j]? = some d → vs[j]? = some v → Rel (rdOf w base S0 blk) kn blk d v) →
    ∀ (j : Nat) (d : DV) (v : Value), es[j]? = some d → vs[j]? = some v → RelC rd' d v
  | [], es, vc, vs, _, h, _, _, _ => by
    simp only [lendBs, Option.some.injEq, Prod.mk.injEq] at h
    obtain ⟨rfl, rfl⟩ := h
    simp
  | d :: ds, es, vc, vs, hown, h, hvc, hl, hv => by
    simp only [lendBs] at h
    split at h
    · rename_i e vc1 es1 vcs1 h1 h2
      simp only [Option.some.injEq, Prod.mk.injEq] at h
      obtain ⟨rfl, rfl⟩ := h
      obtain ⟨hv1, hv2⟩ := AllP.app hvc
      match vs, hl with
      | v :: vs, hl =>
        have k1 := lendB_rd r hmono (fun id l g hi => hown id l g (List.mem_append_left _ hi)) h1 hv1 (hv 0 d v rfl rfl)
        have l1 := lendBs_rd r hmono (fun id l g hi => hown id l g (List.mem_append_right _ hi)) h2 hv2 (by simpa using hl) (fun j d v hd hvv => hv (j + 1) d v hd hvv)
        intro j d' v' hd hvv
        cases j with
        | zero => simp at hd hvv; subst hd hvv; exact k1
        | succ j => exact l1 j d' v' (by simpa using hd) (by simpa using hvv)
    · cases h
theorem lendP_is (r : R base w0 S0 σ kn blk a w) {d : DV} {p : DV × List Prop} (h : lendP σ.obj d = some p) : ∀ id v, id ∈ lentId d → blk id ≠ some (.is v) := by
  intro id v hi e
  unfold lendP at h
  split at h
  · rename_i i
    obtain rfl := List.mem_singleton.1 hi
    split at h
    · rename_i cs hob
      have := (r.objs _ _ hob).2
      rw [e] at this
      obtain ⟨_, _, _, _, h, _⟩ := this
      cases h
    · cases h
  · rename_i hno
    refine lend_is r h id v ?_ e
    cases d with
    | ptr i off =>
      unfold lend at h
      simp [DV.closed] at h
    | _ => exact hi
theorem lendPL_is (r : R base w0 S0 σ kn blk a w) : ∀ {ds : List DV} {p : List DV × List Prop}, lendPL σ.obj ds = some p → ∀ id v, id ∈ lentIds.go ds → blk id ≠ some (.is v)
  | [], _, _, _, _, hi => by cases hi
  | d :: ds, p, h, id, v, hi => by
    simp only [lendPL] at h
    split at h
    · rename_i e vc1 es1 vcs1 h1 h2
      rcases List.mem_append.1 hi with hi | hi
      · exact lendP_is r h1 id v hi
      · exact lendPL_is r h2 id v hi
    · cases h
theorem lendB_is (r : R base w0 S0 σ kn blk a w) {d : DV} {p : DV × List Prop} (h : lendB σ.obj d = some p) : ∀ id v, id ∈ lentIds d → blk id ≠ some (.is v) := by
  intro id v hi
  unfold lendB at h
  split at h
  · split at h
    · rename_i hl; exact lendPL_is r hl id v hi
    · cases h
  · split at h
    · rename_i hl; exact lendPL_is r hl id v hi
    · cases h
  · rename_i h1 h2
    refine lendP_is r h id v ?_
    cases d with
    | clo f cs => exact absurd rfl (h1 f cs)
    | agg cs => exact absurd rfl (h2 cs)
    | _ => exact hi
theorem lendBs_is (r : R base w0 S0 σ kn blk a w) : ∀ {ds : List DV} {p : List DV × List Prop}, lendBs σ.obj ds = some p → ∀ id v, id ∈ allIds ds → blk id ≠ some (.is v)
  | [], _, _, _, _, hi => by cases hi
  | d :: ds, p, h, id, v, hi => by
    simp only [lendBs] at h
    split at h
    · rename_i e vc1 es1 vcs1 h1 h2
      rcases List.mem_append.1 hi with hi | hi
      · exact lendB_is r h1 id v hi
      · exact lendBs_is r h2 id v hi
    · cases h
theorem mphs_mem {id : Nat} : ∀ {l : List Nat}, id ∈ l → DV.mph id ∈ mphs l
  | i :: l, h => by
    rcases List.mem_cons.1 h with rfl | h
    · exact List.mem_cons_self
    · exact List.mem_cons_of_mem _ (mphs_mem h)
theorem mphs_id {d : DV} {id : Nat} : ∀ {l : List Nat}, d ∈ mphs l → id ∈ ownIds d → id ∈ l
  | [], h, _ => by cases h
  | i :: l, h, hi => by
    rcases List.mem_cons.1 h with rfl | h
    · obtain rfl := List.mem_singleton.1 hi
      exact List.mem_cons_self
    · exact List.mem_cons_of_mem _ (mphs_id h hi)
theorem R.adopt (r : R base w0 S0 σ kn blk a w) (hb : Below w.heap.size w w') {id : Nat} {l : Loc} {n : Nat} {cols : List (Nat → DV)} (hid : ¬ kn id) (hwb : S0.wb = none) (hl : ∀ g C, l = .at_ g C → w.heap.size ≤ g ∧ g < w'.heap.size)
    (ho : (l = .nil ∧ n = 0) ∨ ∃ g C cv T, l = .at_ g C ∧ w'.heap[g]? = some (.cells cv T (0, 0)) ∧ cv.size = C * cols.length ∧ n ≤ C ∧
      ∀ (i j : Nat) (f : Nat → DV), i < n → cols[j]? = some f → ∃ u, cv[i * cols.length + j]? = some u ∧ oneV u = true ∧ RelC (fun ad u => rdw w' ad u ∧ ad.block ≠ g ∧ (∀ id l, blk id = some l → ¬ l.has ad.block) ∧ (S0.S ad.block ∨ base ≤ ad.block)) (f i) u) :
    R base w0 S0 (σ.setObj id (some (.row n cols))) (fun i => kn i ∨ i = id) (fun i => if i = id then some l else blk i) a w' := by
  refine r.newAt hid hb (fun g hg => ?_) (fun B hB => by rw [hwb] at hB; cases hB) fun _ _ => ?_
  · rcases ho with ⟨rfl, _⟩ | ⟨g', C, _, _, rfl, _⟩
    · exact hg.elim
    · cases hg; exact hl _ _ rfl
  · rcases ho with ⟨h1, h2⟩ | ⟨g, C, cv, T, h1, h2, h3, h4, h5⟩
    · exact .inl ⟨by rw [h1], h2⟩
    · refine .inr ⟨g, C, cv, T, by rw [h1], h2, h3, h4, fun i j f hi hj => ?_⟩
      obtain ⟨u, hu, ho', hr⟩ := h5 i j f hi hj
      refine ⟨u, hu, ho', hr.mono (fun ad u ⟨k1, k2, k3, k4⟩ => ⟨k1, fun i' l' e hg => ?_, k4, fun B hB => by rw [hwb] at hB; cases hB⟩) (fun _ h => h) fun _ _ h => h.elim⟩
      have e : (if i' = id then some l else blk i') = some l' := e
      split at e
      · rw [h1] at e; cases e; exact k2 hg
      · exact k3 _ _ e hg
theorem R.reObj (r : R base w0 S0 σ kn blk a w) {id : Nat} {o : AObj} (hk : kn id) (ho : ObjRel w (rdOf w base S0 blk) kn blk (blk id) o) : R base w0 S0 (σ.setObj id (some o)) kn blk a w := by
  refine ⟨r.below, r.xs, r.hbase, r.dfr, r.kpo, r.rnd, r.mlow, r.shp, r.size, r.tmps, fun i o' h => ?_, r.inj, r.ge, fun i l e => ?_, r.pin⟩
  · rw [St.obj_setObj] at h
    by_cases e : id = i
    · subst e
      simp only [if_true, Option.some.injEq] at h
      subst h
      exact ⟨hk, ho⟩
    · rw [if_neg e] at h
      exact r.objs i o' h
  · rw [St.obj_setObj]
    by_cases e' : id = i
    · exact ⟨o, by simp [e']⟩
    · rw [if_neg e']; exact r.live i l e
theorem intCol_val {c : Nat → DV} (h : intCol c) (i : Nat) : c i = .val (.int .i64 (iOfC (c i))) := by
  have := h i
  split at this
  · rename_i n e
    rw [e]; rfl
  · exact this.elim
theorem R.glob (r : R base w0 S0 σ kn blk a w) : GlobOK (rdOf w base S0 blk) := fun d v hd => (r.shp d v (List.mem_append_left _ hd)).close (by
  rcases shG_cptr hd with ⟨cs, e⟩ | ⟨cs, e⟩ <;> (rw [e]; rfl))
theorem look_append' {α : Type} : ∀ (l m : List (Nat × α)) (i : Nat), look (l ++ m) i = match look l i with | some v => some v | none => look m i
  | [], m, i => rfl
  | (k, v) :: r, m, i => by
    simp only [List.cons_append, look_cons]
    by_cases h : k = i
    · simp [h]
    · simp only [if_neg h]; exact look_append' r m i
def tid (d : DV) (o : WO) : Option Nat := match d, o with
  | .row _ id _ _, .row _ => some id
  | .ptr id _, .box _ => some id
  | _, _ => none
def tblk (blk : Nat → Option Loc) (d : DV) (o : WO) : Option Nat := match tid d o with
  | some id => blkD blk id
  | none => none
def tblks (blk : Nat → Option Loc) : List DV → List WO → Nat → Option Nat
  | [], _, _ => none
  | d :: _, q, 0 => tblk blk d (woHd q)
  | _ :: r, q, j + 1 => tblks blk r q.tail j
theorem valCols_spec : ∀ {l : List (Nat → DV)}, AllP (valCols l) → ∀ f ∈ l, ∀ i, ∃ v, f i = .val v
  | [], _, f, hf, _ => by cases hf
  | c :: r, h, f, hf, i => by
    rcases List.mem_cons.1 hf with rfl | hf
    · have h1 := h.hd i
      split at h1
      · rename_i v e; exact ⟨v, e⟩
      · exact h1.elim
    · exact valCols_spec h.tl f hf i
theorem wrArg_sound (r : R base w0 S0 σ kn blk a w) {S : Nat → Prop} (hS : ∀ k, (∀ id l, blk id = some l → ¬ l.has k) → S k) {d : DV} {o : WO} {x : WA} {hw : List (Nat × Option AObj)} {vc : List Prop} {v : Value}
    (hlent : ∀ id l g, id ∈ noIds d o → blk id = some l → l.has g → S g) (h : wrArg σ.obj d o = some (x, hw, vc)) (hvc : AllP vc) (hv : Rel (rdOf w base S0 blk) kn blk d v) :
    x.pre w S v (tblk blk d o) ∧ ((hw = [] ∧ tid d o = none) ∨ ∃ id ob ob', hw = [(id, some ob')] ∧ tid d o = some id ∧ σ.obj id = some ob ∧ (∀ l, blk id = some l → l = .nil ∨ ∃ g C, l = .at_ g C) ∧
      ∀ {w' : World} {rd : Rd} {rd2 : Rd}, x.post w' rd v → ObjRel w' rd2 kn blk (blk id) ob') := by
  have hmono : ∀ a u, rdOf w base S0 blk a u → rdArg w S a u := fun ad u h => ⟨h.1, hS _ h.2.1⟩
  unfold wrArg at h
  split at h
  · rename_i s id off len cols'
    split at h
    · rename_i n cols hob
      cases hb : (Nat.beq cols.length s && Nat.beq cols'.length s)
      · simp [hb] at h
      · simp only [hb, cond_true, Option.some.injEq, Prod.mk.injEq] at h
        obtain ⟨rfl, rfl, rfl⟩ := h
        simp only [Bool.and_eq_true] at hb
        have hc1 := Nat.eq_of_beq_eq_true hb.1
        have hc2 := Nat.eq_of_beq_eq_true hb.2
        have hln : len = n := hvc.hd
        subst hln
        have hplain := valCols_spec hvc.tl
        obtain ⟨hkn, hor⟩ := r.objs _ _ hob
        have hv' : (v = .slice none 0 0 ∧ len = 0 ∧ blk id = some .nil) ∨ ∃ g C, v = .slice (some ⟨g, 0, none⟩) len C ∧ blk id = some (.at_ g C) := by
          cases hv with
          | row hk hp h0 h =>
            rcases hor with ⟨hl, hn⟩ | ⟨g, C, cv, T, hl, _⟩
            · exact .inl ⟨(h0 hl).1, hn, hl⟩
            · refine .inr ⟨g, C, ?_, hl⟩
              rcases h g C hl with ⟨e, _⟩ | ⟨e, _⟩
              · simpa using e
              · omega
        refine ⟨⟨by omega, ?_⟩, .inr ⟨id, _, _, rfl, rfl, hob, fun l hl => ?_, fun {w' rd rd2} hpost => ?_⟩⟩
        · rcases hv' with ⟨h1, h2, h3⟩ | ⟨g, C, h1, h3⟩
          · exact .inl ⟨h1, h2, by simp only [tblk, tid, blkD, h3]⟩
          · refine .inr ⟨g, C, by simp only [tblk, tid, blkD, h3], h1, ?_⟩
            rcases hor with ⟨hl, _⟩ | ⟨g', C', cv, T, hl, hh, hsz, hn, hc⟩
            · rw [h3] at hl; cases hl
            · rw [h3] at hl
              cases hl
              exact ⟨cv, T, hh, hsz, hn, fun i j f hi hf => let ⟨u, a, b, c⟩ := hc i j f hi hf; ⟨u, a, b, c.mono hmono (fun _ h => h) fun _ _ h => h.elim⟩⟩
        · rcases hv' with ⟨_, _, h3⟩ | ⟨g, C, _, h3⟩ <;> rw [h3] at hl <;> cases hl
          · exact .inl rfl
          · exact .inr ⟨_, _, rfl⟩
        · rcases hv' with ⟨h1, h2, h3⟩ | ⟨g, C, h1, h3⟩
          · exact .inl ⟨h3, h2⟩
          · obtain ⟨cv, T, hh, hsz, hn, hc⟩ := hpost g C h1
            exact .inr ⟨g, C, cv, T, h3, hh, hsz, hn, fun i j f hi hf => by
              obtain ⟨u, a, b, c⟩ := hc i j f hi hf
              obtain ⟨v', e⟩ := hplain f (List.mem_of_getElem? hf) i
              rw [e] at c ⊢
              have := c.val_eq
              subst this
              exact ⟨_, a, b, .val _⟩⟩
    · cases h
  · rename_i id cs'
    split at h
    · rename_i cs hob
      cases hb : (Nat.beq cs'.length cs.length && (DV.closed.go cs && DV.plain.go cs'))
      · simp [hb] at h
      · simp only [hb, cond_true, Option.some.injEq, Prod.mk.injEq] at h
        obtain ⟨rfl, rfl, rfl⟩ := h
        simp only [Bool.and_eq_true] at hb
        obtain ⟨hb1, hb2, hb3⟩ := hb
        have hlen := Nat.eq_of_beq_eq_true hb1
        obtain ⟨g, C, cv, T, hl, hh, hsz, hr, ho⟩ := (r.objs _ _ hob).2
        have hvg : v = .pointer (some ⟨g, 0, none⟩) := by cases hv with | ptr _ _ h => exact h g C hl
        refine ⟨⟨hlen, g, by simp only [tblk, tid, blkD, hl], hvg, cv, T, hh, hsz, fun j d u hd hu => ?_, ho⟩, .inr ⟨id, _, _, rfl, rfl, hob, fun l hl' => ?_, fun {w' rd rd2} hpost => ?_⟩⟩
        · exact ((hr j d u hd hu).close (closed_go hb2 d (List.mem_of_getElem? hd))).mono hmono (fun _ h => h) fun _ _ h => h.elim
        · rw [hl] at hl'; cases hl'; exact .inr ⟨_, _, rfl⟩
        · obtain ⟨cv', T', hh', hsz', hr', ho'⟩ := hpost g hvg
          exact ⟨g, C, cv', T', hl, hh', hsz', fun j d u hd hu => relC_open ((hr' j d u hd hu).plain (plain_go hb3 d (List.mem_of_getElem? hd))), ho'⟩
    · cases h
  · split at h
    · rename_i e vc' hle
      simp only [Option.some.injEq, Prod.mk.injEq] at h
      obtain ⟨rfl, rfl, rfl⟩ := h
      have ht : tid d .no = none := by cases d <;> rfl
      refine ⟨⟨by simp only [tblk, ht], ?_⟩, .inl ⟨rfl, ht⟩⟩
      exact lendB_rd r hmono (fun id l g hi hl hg ad u e hu => ⟨hu, e ▸ hlent id l g hi hl hg⟩) hle hvc hv
    · cases h
  · cases h
theorem wrArgs_sound (r : R base w0 S0 σ kn blk a w) {S : Nat → Prop} (hS : ∀ k, (∀ id l, blk id = some l → ¬ l.has k) → S k) : ∀ {ds : List DV} {q : List WO} {xs : List WA} {hw : List (Nat × Option AObj)} {vc : List Prop} {vs : List Value},
    (∀ id l g, id ∈ wrNo ds q → blk id = some l → l.has g → S g) → wrArgs σ.obj ds q = some (xs, hw, vc) → AllP vc → vs.length = ds.length → (∀ (j : Nat) (d : DV) (v : Value), ds[j]? = some d → vs[j]? = some v → Rel (rdOf w base S0 blk) kn blk d v) →
    xs.length = ds.length ∧ (∀ (j : Nat) (x : WA) (v : Value), xs[j]? = some x → vs[j]? = some v → x.pre w S v (tblks blk ds q j)) ∧ (∀ j, ds.length ≤ j → tblks blk ds q j = none) ∧
    (∀ j g, tblks blk ds q j = some g → ∃ id C, id ∈ hw.map (·.1) ∧ blk id = some (.at_ g C)) ∧
    (∀ i j g, (hw.map (·.1)).Nodup → tblks blk ds q i = some g → tblks blk ds q j = some g → i = j) ∧
    (∀ id, id ∈ hw.map (·.1) → kn id ∧ (∃ ob, σ.obj id = some ob) ∧ (∀ l, blk id = some l → l = .nil ∨ ∃ g C, l = .at_ g C) ∧ ∃ ob' j, look hw id = some (some ob') ∧ ∀ g C, blk id = some (.at_ g C) → tblks blk ds q j = some g) ∧
    ∀ {w' : World} {rd rd2 : Rd}, (hw.map (·.1)).Nodup → (∀ (j : Nat) (x : WA) (v : Value), xs[j]? = some x → vs[j]? = some v → x.post w' rd v) → ∀ id ob', look hw id = some (some ob') → ObjRel w' rd2 kn blk (blk id) ob'
  | [], q, xs, hw, vc, vs, _, h, _, _, _ => by
    simp only [wrArgs, Option.some.injEq, Prod.mk.injEq] at h
    obtain ⟨rfl, rfl, rfl⟩ := h
    exact ⟨rfl, by simp, fun _ _ => rfl, fun j g h => by simp [tblks] at h, fun i j g _ h => by simp [tblks] at h, by simp, fun _ _ id ob' h => by cases h⟩
  | d :: ds, q, xs, hw, vc, vs, hlent, h, hvc, hl, hv => by
    simp only [wrArgs] at h
    split at h
    · rename_i x h1 vc1 xs1 hs1 vcs1 e1 e2
      simp only [Option.some.injEq, Prod.mk.injEq] at h
      obtain ⟨rfl, rfl, rfl⟩ := h
      obtain ⟨hv1, hv2⟩ := AllP.app hvc
      match vs, hl with
      | v :: vs, hl =>
        obtain ⟨k1, k2⟩ := wrArg_sound r hS (fun id l g hi => hlent id l g (List.mem_append_left _ hi)) e1 hv1 (hv 0 d v rfl rfl)
        obtain ⟨l1, l2, l3, l4, l5, l6, l7⟩ := wrArgs_sound r hS (fun id l g hi => hlent id l g (List.mem_append_right _ hi)) e2 hv2 (by simpa using hl) (fun j d v hd hvv => hv (j + 1) d v hd hvv)
        have first : ∀ g, tblk blk d (woHd q) = some g → ∃ id C ob', h1 = [(id, some ob')] ∧ blk id = some (.at_ g C) := fun g hg => by
          rcases k2 with ⟨_, ht⟩ | ⟨id, ob, ob', rfl, ht, _⟩
          · simp [tblk, ht] at hg
          · simp only [tblk, ht] at hg
            obtain ⟨C, hC⟩ := blkD_some hg
            exact ⟨id, C, ob', rfl, hC⟩
        refine ⟨by simp [l1], fun j x' v' hx hvv => ?_, fun j hj => ?_, fun j g hg => ?_, fun i j g hnd hi hj => ?_, fun id hid => ?_, fun {w' rd rd2} hnd hpost id ob' hlk => ?_⟩
        · cases j with
          | zero => simp at hx hvv; subst hx hvv; exact k1
          | succ j => exact l2 j x' v' (by simpa using hx) (by simpa using hvv)
        · cases j with
          | zero => simp at hj
          | succ j => exact l3 j (by simpa using hj)
        · cases j with
          | zero =>
            obtain ⟨id, C, ob', rfl, hC⟩ := first g hg
            exact ⟨id, C, by simp, hC⟩
          | succ j =>
            obtain ⟨id, C, hm, hC⟩ := l4 j g hg
            exact ⟨id, C, by simp only [List.map_append, List.mem_append]; exact .inr hm, hC⟩
        · have cross : ∀ j, tblk blk d (woHd q) = some g → tblks blk ds q.tail j = some g → False := fun j e1' e2' => by
            obtain ⟨id, C, ob', rfl, hC⟩ := first g e1'
            obtain ⟨id', C', hm, hC'⟩ := l4 j g e2'
            have : id = id' := r.inj _ _ _ _ g hC hC' rfl rfl
            subst this
            simp only [List.map_append, List.map_cons, List.map_nil, List.singleton_append, List.nodup_cons] at hnd
            exact hnd.1 hm
          have hnd2 : (hs1.map (·.1)).Nodup := by
            rw [List.map_append] at hnd
            exact (List.nodup_append.1 hnd).2.1
          cases i with
          | zero => cases j with
            | zero => rfl
            | succ j => exact (cross j hi hj).elim
          | succ i => cases j with
            | zero => exact (cross i hj hi).elim
            | succ j => rw [l5 i j g hnd2 hi hj]
        · simp only [List.map_append, List.mem_append] at hid
          by_cases hin : id ∈ h1.map (·.1)
          · rcases k2 with ⟨rfl, ht⟩ | ⟨id', ob, ob', rfl, ht, hob, hshape, _⟩
            · simp at hin
            · simp at hin
              subst hin
              refine ⟨(r.objs _ _ hob).1, ⟨ob, hob⟩, hshape, ob', 0, by simp [look], fun g C hC => ?_⟩
              simp only [tblks, tblk, ht, blkD, hC]
          · obtain ⟨m1, m2, m3, ob', j, m4, m5⟩ := l6 id (hid.resolve_left hin)
            refine ⟨m1, m2, m3, ob', j + 1, ?_, m5⟩
            rcases k2 with ⟨rfl, ht⟩ | ⟨id', ob, ob'', rfl, ht, _⟩
            · exact m4
            · simp at hin
              show look ((id', some ob'') :: hs1) id = _
              rw [look_cons, if_neg (fun e => hin e.symm)]
              exact m4
        · rcases k2 with ⟨rfl, ht⟩ | ⟨id', ob, ob'', rfl, ht, hob, hshape, hpo⟩
          · exact l7 hnd (fun j x v hx hvv => hpost (j + 1) x v (by simpa using hx) (by simpa using hvv)) id ob' hlk
          · have hlk : look ((id', some ob'') :: hs1) id = some (some ob') := hlk
            rw [look_cons] at hlk
            split at hlk
            · rename_i e
              cases hlk
              subst e
              exact hpo (hpost 0 x v rfl rfl)
            · simp only [List.map_append, List.map_cons, List.map_nil, List.singleton_append, List.nodup_cons] at hnd
              exact l7 hnd.2 (fun j x v hx hvv => hpost (j + 1) x v (by simpa using hx) (by simpa using hvv)) id ob' hlk
    · cases h
theorem nodupB_spec : ∀ {l : List Nat}, nodupB l = true → l.Nodup
  | [], _ => List.nodup_nil
  | x :: r, h => by
    simp only [nodupB] at h
    cases hx : r.any (Nat.beq x)
    · simp only [hx, cond_false] at h
      refine List.nodup_cons.2 ⟨fun hm => ?_, nodupB_spec h⟩
      have := List.any_eq_false.1 hx x hm
      simp at this
    · simp [hx] at h
theorem apartB_spec {l m : List Nat} (h : apartB l m = true) {x : Nat} (hx : x ∈ l) (hm : x ∈ m) : False := by
  have h1 := List.all_eq_true.1 h x hx
  simp only [Bool.not_eq_true'] at h1
  have := List.any_eq_false.1 h1 x hm
  simp at this
theorem wrEff_sound (r : R base w0 S0 σ kn blk a w) {f : FuncId} {g : List DV → List WO × DV} {args : List DV} {vs : List Value} {e : Eff} {id : Nat} (hid : ¬ kn id) (he : wrEff P f σ.obj args g = e) (hvc : AllP e.vc) (hl : vs.length = args.length)
    (hv : ∀ (j : Nat) (d : DV) (v : Value), args[j]? = some d → vs[j]? = some v → Rel (rdOf w base S0 blk) kn blk d v) :
    Callable P f ∧ Calls P f vs.toArray w fun en w' => ∃ v kn' blk', en = .returned v ∧ R base w0 S0 (σ.effH e) kn' blk' a w' ∧ Rel (rdOf w' base S0 blk') kn' blk' e.d v ∧ ∀ i, kn' i → kn i ∨ i = id := by
  unfold wrEff at he
  split at he
  · rename_i es vc0 _
    split at he
    · rename_i was hw vc d hwa hres
      cases hb : nodupB (hw.map (·.1)) && apartB (wrNo args (g es).1) (hw.map (·.1))
      · simp only [hb, cond_false] at he; subst he; exact bad_vc hvc
      · simp only [hb, cond_true] at he
        subst he
        rw [Bool.and_eq_true] at hb
        have hnd := nodupB_spec hb.1
        obtain ⟨h1, h2⟩ := AllP.app hvc
        have hS : ∀ k, (∀ id l, blk id = some l → ¬ l.has k) → ∀ id l, id ∈ hw.map (·.1) → blk id = some l → ¬ l.has k := fun k h id l _ => h id l
        obtain ⟨l1, l2, l3, l4, l5, l6, l7⟩ := wrArgs_sound (S := fun k => ∀ id l, id ∈ hw.map (·.1) → blk id = some l → ¬ l.has k) r hS (fun id l k hi hl hg id' l' hm hl' hg' => apartB_spec hb.2 hi (r.inj _ _ _ _ _ hl hl' hg hg' ▸ hm)) hwa h1 hl hv
        have hc := h2.one.2 (fun k => ∀ id l, id ∈ hw.map (·.1) → blk id = some l → ¬ l.has k) w vs.toArray (tblks blk args (g es).1) (by simp [hl, l1]) (fun j x v hx hvv => l2 j x v hx (by simpa using hvv)) (fun j hj => l3 j (by omega)) (fun i j k => l5 i j k hnd)
          (fun j k hk hS => by obtain ⟨id', C, hm, hC⟩ := l4 j k hk; exact hS id' _ hm hC rfl) (r.glob.mono fun ad u ⟨x, y, _⟩ => ⟨x, fun id l _ => y id l⟩)
        refine ⟨h2.one.1, hc.mono fun en w' ⟨v, hen, hr, hbx, hpost⟩ => ⟨v, kn, blk, hen, ?_, ?_, fun _ h => .inl h⟩⟩
        · have hobj : ∀ i, (σ.effH { d, hw, vc := vc ++ [FnW P f was (g es).2] }).obj i = match look hw i with | some o => o | none => σ.obj i := fun i => by
            unfold St.effH St.obj
            rw [look_append']
            cases look hw i <;> rfl
          have notin : ∀ i, ¬ i ∈ hw.map (·.1) → look hw i = none := fun i h => by
            cases hlk : look hw i with
            | none => rfl
            | some v => exact absurd (List.mem_map.2 ⟨(i, v), look_mem' hlk, rfl⟩) h
          refine r.step (fun k => ∃ j, tblks blk args (g es).1 j = some k) (fun i => i ∈ hw.map (·.1)) hbx.size hbx.os hbx.tape hbx.output (fun k hk hx => hbx.block k hk hx) (fun k ⟨j, hk⟩ => ?_) (fun _ h => h) (fun _ _ => rfl) (fun _ _ _ _ h => h) (fun i l k h e hg => .inl ⟨i, l, h, e, hg⟩) (fun i l h hi e => ⟨l, e, rfl⟩) rfl rfl rfl (fun _ => rfl)
            (fun i h => by rw [hobj, notin i h]) (fun _ _ _ i o h e => ?_) (fun i l h e => ?_) (fun i i' l l' k h h' e e' hg hg' => r.inj _ _ _ _ _ e e' hg hg') (fun B hB i k bs h e => r.mlow B hB i k bs e) hbx.drawn
          · obtain ⟨id', C, hm, hC⟩ := l4 j k hk
            exact ⟨id', _, hm, hC, rfl⟩
          · obtain ⟨m1, _, _, ob', j, m4, _⟩ := l6 i h
            rw [hobj, m4] at e
            cases e
            exact ⟨m1, l7 hnd (fun j x v hx hvv => hpost j x v hx (by simpa using hvv)) i o m4⟩
          · obtain ⟨_, _, _, ob', j, m4, _⟩ := l6 i h
            exact ⟨ob', by rw [hobj, m4]⟩
        · have plain : ∀ d0 : DV, d0 = (g es).2 → (∀ s p off n, d0 ≠ .row s p off n) → Rel (rdOf w' base S0 blk) kn blk d v := fun d0 hd0 hne => by
            rw [← hd0] at hres hr
            have hpl : d0.plain = true ∧ d = d0 := by
              unfold wrRes at hres
              split at hres
              · exact absurd rfl (hne _ _ _ _)
              · cases hp : d0.plain
                · simp [hp] at hres
                · simp only [hp, cond_true, Option.some.injEq] at hres; exact ⟨rfl, hres.symm⟩
            rw [hpl.2]
            have hr' : RelC (rdRes w' (fun k => ∀ id l, id ∈ hw.map (·.1) → blk id = some l → ¬ l.has k) w.heap.size) d0 v := by
              unfold WRes at hr
              split at hr
              · exact absurd rfl (hne _ _ _ _)
              · exact hr
            exact relC_open (hr'.plain hpl.1)
          generalize hd0 : (g es).2 = d0 at hres hr
          cases d0 with
          | row s p off n =>
            simp only [wrRes] at hres
            split at hres
            · rename_i s' id' len hp
              cases hbs : Nat.beq s s'
              · simp [hbs] at hres
              · simp only [hbs, cond_true, Option.some.injEq] at hres
                subst hres
                have hpl : p < vs.length := by rw [hl]; exact (List.getElem?_eq_some_iff.1 hp).1
                have hvp := List.getElem?_eq_getElem hpl
                have hrel := hv p _ _ hp hvp
                have e0 : vs.toArray[p]? = some vs[p] := by simp
                simp only [WRes] at hr
                rw [e0] at hr
                cases hrel with
                | row hk hx h0 h hsub =>
                  rcases hr with ⟨e1, rfl, rfl⟩ | ⟨g0, m0, C, e1, rfl, hn⟩
                  · refine .row hk ⟨_, _, rfl, fun _ => rfl⟩ (fun _ => ⟨rfl, rfl, rfl⟩) (fun g1 C1 hb1 => ?_) fun g1 o1 C1 hb1 => ?_
                    · rcases h g1 C1 hb1 with ⟨e2, _⟩ | ⟨e2, _⟩
                      · rw [Option.some.inj e1] at e2; cases e2
                      · omega
                    · rcases hsub g1 o1 C1 hb1 with ⟨e2, _⟩ | ⟨e2, _⟩
                      · rw [Option.some.inj e1] at e2; cases e2
                      · omega
                  · refine .row hk ⟨_, _, rfl, fun h => by cases h⟩ (fun hb1 => ?_) (fun g1 C1 hb1 => ?_) fun g1 o1 C1 hb1 => ?_
                    · have := (h0 hb1).1
                      rw [Option.some.inj e1] at this; cases this
                    · rcases h g1 C1 hb1 with ⟨e2, _⟩ | ⟨e2, _⟩
                      · have e3 := (Option.some.inj e1).symm.trans e2
                        simp at e3
                        obtain ⟨rfl, rfl, rfl⟩ := e3
                        exact .inl ⟨by simp, by omega⟩
                      · omega
                    · rcases hsub g1 o1 C1 hb1 with ⟨e2, _⟩ | ⟨e2, _⟩
                      · have e3 := (Option.some.inj e1).symm.trans e2
                        simp at e3
                        obtain ⟨⟨rfl, e4⟩, rfl, rfl⟩ := e3
                        have : o1 = 0 := by omega
                        subst this
                        exact .inl ⟨by simp, by omega⟩
                      · omega
            · cases hres
          | _ => exact plain _ hd0.symm (by simp)
    · subst he; exact bad_vc hvc
  · subst he; exact bad_vc hvc
theorem plain_go_row {s id off n : Nat} : ∀ pre : List DV, DV.plain.go (pre ++ [.row s id off n]) = false
  | [] => rfl
  | d :: r => by
    simp only [List.cons_append, DV.plain.go, plain_go_row r]
    cases d.plain <;> rfl
theorem plain_agg_row {s id off n : Nat} {pre : List DV} : (DV.agg (pre ++ [.row s id off n])).plain = false := by
  unfold DV.plain
  exact plain_go_row pre
theorem agg_row {rd : Rd} {kn : Nat → Prop} {blk : Nat → Option Loc} {pre : List DV} {us : List Value} {d : DV} {v : Value} (hl : us.length = pre.length) (h : RelC rd (.agg pre) (.agg us.toArray)) (hd : Rel rd kn blk d v) : Rel rd kn blk (.agg (pre ++ [d])) (.agg (us ++ [v]).toArray) := by
  cases h with
  | agg hs hr =>
    refine .agg (by simp [hl]) fun j d' u hd' hu => ?_
    rw [List.getElem?_toArray] at hu
    by_cases hj : j < pre.length
    · rw [List.getElem?_append_left hj] at hd'
      rw [List.getElem?_append_left (by omega)] at hu
      exact relC_open (hr j d' u hd' (by simpa using hu))
    · rw [List.getElem?_append_right (by omega)] at hd'
      rw [List.getElem?_append_right (by omega)] at hu
      have e1 : j - pre.length = 0 := by
        have := (List.getElem?_eq_some_iff.1 hd').1
        simp at this; omega
      rw [e1] at hd'
      rw [show j - us.length = 0 by omega] at hu
      simp at hd' hu
      subst hd' hu
      exact hd
theorem shPo_rd (r : R base w0 S0 σ kn blk a w) {rd' : Rd} (hmono : ∀ a u, rdOf w base S0 blk a u → rd' a u) {id g C : Nat} (hbk : blk id = some (.at_ g C)) {d d' : DV} {vc : List Prop} {v : Value}
    (hown : Lends w blk rd' ((lentId d).filter fun i => !(Nat.beq i id))) (h : shPo σ.obj id d = some (d', vc)) (hvc : AllP vc) (hv : Rel (rdOf w base S0 blk) kn blk d v) : Rel rd' (fun i => i = 0) (blkS g) d' v := by
  have other : ∀ {d : DV}, Lends w blk rd' ((lentId d).filter fun i => !(Nat.beq i id)) → Rel (rdOf w base S0 blk) kn blk d v → (lentId d).any (Nat.beq id) = false → lendP σ.obj d = some (d', vc) → Rel rd' (fun i => i = 0) (blkS g) d' v := fun {d} hown hv hb h => by
    refine relC_open (lendP_rd r hmono (fun i l k hi => hown i l k (List.mem_filter.2 ⟨hi, ?_⟩)) h hvc hv)
    have := List.any_eq_false.1 hb i hi
    cases e : Nat.beq i id
    · rfl
    · have := Nat.eq_of_beq_eq_true e
      subst this
      simp at this
  unfold shPo at h
  split at h
  · rename_i i
    cases e : Nat.beq i id
    · rw [e, cond_false] at h
      refine other hown hv ?_ h
      simp only [lentId, List.any_cons, List.any_nil, Bool.or_false]
      cases e2 : Nat.beq id i
      · rfl
      · have := Nat.eq_of_beq_eq_true e2
        rw [this, Nat.beq_refl] at e; cases e
    · rw [e, cond_true] at h
      cases h
      have := Nat.eq_of_beq_eq_true e
      subst this
      cases hv with
      | ptr hk hp hh => exact .ptr rfl hp fun g' C' e2 => by cases e2; exact hh g C hbk
  · cases hb : (lentId d).any (Nat.beq id)
    · rw [hb, cond_false] at h
      exact other hown hv hb h
    · rw [hb, cond_true] at h; cases h
theorem shPL_rd (r : R base w0 S0 σ kn blk a w) {rd' : Rd} (hmono : ∀ a u, rdOf w base S0 blk a u → rd' a u) {id g C : Nat} (hbk : blk id = some (.at_ g C)) : ∀ {ds es : List DV} {vc : List Prop}, Lends w blk rd' ((lentIds.go ds).filter fun i => !(Nat.beq i id)) → shPL σ.obj id ds = some (es, vc) → AllP vc → es.length = ds.length ∧
    ∀ (j : Nat) (d e : DV) (v : Value), ds[j]? = some d → es[j]? = some e → Rel (rdOf w base S0 blk) kn blk d v → Rel rd' (fun i => i = 0) (blkS g) e v
  | [], es, vc, _, h, _ => by
    simp only [shPL, Option.some.injEq, Prod.mk.injEq] at h
    obtain ⟨rfl, rfl⟩ := h
    exact ⟨rfl, by simp⟩
  | d :: ds, es, vc, hown, h, hvc => by
    simp only [shPL] at h
    split at h
    · rename_i e vc1 es1 vcs1 h1 h2
      simp only [Option.some.injEq, Prod.mk.injEq] at h
      obtain ⟨rfl, rfl⟩ := h
      obtain ⟨k1, k2⟩ := AllP.app hvc
      obtain ⟨l1, l2⟩ := shPL_rd r hmono hbk (fun id l g hi => hown id l g (by simp only [lentIds.go, List.filter_append]; exact List.mem_append_right _ hi)) h2 k2
      refine ⟨by simp [l1], fun j d' e' v hd he hv => ?_⟩
      cases j with
      | zero =>
        simp only [List.getElem?_cons_zero, Option.some.injEq] at hd he
        subst hd he
        exact shPo_rd r hmono hbk (fun id l g hi => hown id l g (by simp only [lentIds.go, List.filter_append]; exact List.mem_append_left _ hi)) h1 k1 hv
      | succ j => exact l2 j d' e' v (by simpa using hd) (by simpa using he) hv
    · cases h
theorem shA_rd (r : R base w0 S0 σ kn blk a w) {rd' : Rd} (hmono : ∀ a u, rdOf w base S0 blk a u → rd' a u) {id g C : Nat} (hbk : blk id = some (.at_ g C)) {d d' : DV} {vc : List Prop} {v : Value}
    (hown : Lends w blk rd' ((lentIds d).filter fun i => !(Nat.beq i id))) (h : shA σ.obj id d = some (d', vc)) (hvc : AllP vc) (hv : Rel (rdOf w base S0 blk) kn blk d v) : Rel rd' (fun i => i = 0) (blkS g) d' v := by
  unfold shA at h
  split at h
  · rename_i f cs
    split at h
    · rename_i es vc' hl
      simp only [Option.some.injEq, Prod.mk.injEq] at h
      obtain ⟨rfl, rfl⟩ := h
      obtain ⟨l1, l2⟩ := shPL_rd r hmono hbk hown hl hvc
      cases hv with
      | clo hs hr =>
        refine .clo (by rw [l1]; exact hs) fun j d u hd hu => ?_
        have hlt := (List.getElem?_eq_some_iff.1 hd).1
        have hd' := List.getElem?_eq_getElem (l1 ▸ hlt)
        exact l2 j _ d u hd' hd (hr j _ u hd' hu)
    · cases h
  · cases hb : (lentIds d).any (Nat.beq id)
    · rw [hb, cond_false] at h
      refine relC_open (lendB_rd r hmono (fun i l k hi => hown i l k (List.mem_filter.2 ⟨hi, ?_⟩)) h hvc hv)
      have := List.any_eq_false.1 hb i hi
      cases e : Nat.beq i id
      · rfl
      · have := Nat.eq_of_beq_eq_true e
        subst this
        simp at this
    · rw [hb, cond_true] at h; cases h
theorem shAs_rd (r : R base w0 S0 σ kn blk a w) {rd' : Rd} (hmono : ∀ a u, rdOf w base S0 blk a u → rd' a u) {id g C : Nat} (hbk : blk id = some (.at_ g C)) : ∀ {ds es : List DV} {vc : List Prop} {vs : List Value}, Lends w blk rd' (others id ds) → shAs σ.obj id ds = some (es, vc) → AllP vc → vs.length = ds.length →
    (∀ (j : Nat) (d : DV) (v : Value), ds[j]? = some d → vs[j]? = some v → Rel (rdOf w base S0 blk) kn blk d v) →
    es.length = ds.length ∧ ∀ (j : Nat) (d : DV) (v : Value), es[j]? = some d → vs[j]? = some v → Rel rd' (fun i => i = 0) (blkS g) d v
  | [], es, vc, vs, _, h, _, _, _ => by
    simp only [shAs, Option.some.injEq, Prod.mk.injEq] at h
    obtain ⟨rfl, rfl⟩ := h
    exact ⟨rfl, by simp⟩
  | d :: ds, es, vc, vs, hown, h, hvc, hl, hv => by
    simp only [shAs] at h
    split at h
    · rename_i e vc1 es1 vcs1 h1 h2
      simp only [Option.some.injEq, Prod.mk.injEq] at h
      obtain ⟨rfl, rfl⟩ := h
      obtain ⟨hv1, hv2⟩ := AllP.app hvc
      match vs, hl with
      | v :: vs, hl =>
        have k1 := shA_rd r hmono hbk (fun id l g hi => hown id l g (by simp only [others, allIds, List.filter_append]; exact List.mem_append_left _ hi)) h1 hv1 (hv 0 d v rfl rfl)
        obtain ⟨l1, l2⟩ := shAs_rd r hmono hbk (fun id l g hi => hown id l g (by simp only [others, allIds, List.filter_append]; exact List.mem_append_right _ hi)) h2 hv2 (by simpa using hl) (fun j d v hd hvv => hv (j + 1) d v hd hvv)
        refine ⟨by simp [l1], fun j d' v' hd hvv => ?_⟩
        cases j with
        | zero => simp at hd hvv; subst hd hvv; exact k1
        | succ j => exact l2 j d' v' (by simpa using hd) (by simpa using hvv)
    · cases h
theorem shEff_sound (r : R base w0 S0 σ kn blk a w) {f : FuncId} {k c : Nat} {g : List DV → List DV × DV} {args : List DV} {vs : List Value} {e : Eff} {id : Nat} (he : shEff P f σ.obj args k c g = e) (hwb : S0.wb = none ∨ e.d.plain = true) (hvc : AllP e.vc) (hl : vs.length = args.length)
    (hv : ∀ (j : Nat) (d : DV) (v : Value), args[j]? = some d → vs[j]? = some v → Rel (rdOf w base S0 blk) kn blk d v) :
    Callable P f ∧ Calls P f vs.toArray w fun en w' => ∃ v kn' blk', en = .returned v ∧ R base w0 S0 (σ.effH e) kn' blk' a w' ∧ Rel (rdOf w' base S0 blk') kn' blk' e.d v ∧ ∀ i, kn' i → kn i ∨ i = id := by
  unfold shEff at he
  split at he
  · rename_i ib _
    split at he
    · rename_i es vc0 ds vc hls hsh
      split at he
      · rename_i cs hob
        generalize (g es).1 = cs' at he
        generalize (g es).2 = res at he
        cases hb : Nat.beq cs'.length cs.length && (DV.closed.go cs && (DV.plain.go cs' && (res.closed && !res.plain)))
        · simp only [hb, cond_false] at he; subst he; exact bad_vc hvc
        · simp only [hb, cond_true] at he
          subst he
          simp only [Bool.and_eq_true, Bool.not_eq_true'] at hb
          obtain ⟨hb1, hb2, hb3, hb4, hb5⟩ := hb
          have hlen := Nat.eq_of_beq_eq_true hb1
          have hwb0 : S0.wb = none := hwb.resolve_right (by simp [hb5])
          obtain ⟨h1, h2⟩ := AllP.app hvc
          have hin : ∀ i, i ∈ others ib args → i ∈ allIds args ∧ i ≠ ib := fun i hi => by
            obtain ⟨h3, h4⟩ := List.mem_filter.1 hi
            exact ⟨h3, fun e => by rw [e, Nat.beq_refl] at h4; cases h4⟩
          obtain ⟨blk', r', hsub, hgone⟩ := r.dropRows (mphs (others ib args)) (fun d i v hd hi => lendBs_is r hls i v (hin i (mphs_id hd hi)).1)
          have hnin : rowIn ib (mphs (others ib args)) = false := by
            cases hr : rowIn ib (mphs (others ib args))
            · rfl
            · obtain ⟨d, hd, hi⟩ := rowIn_iff.1 hr
              exact absurd rfl (hin ib (mphs_id hd hi)).2
          have hobj : ∀ i, St.obj { σ with h := Abs.dropRows (mphs (others ib args)) ++ σ.h } i = if rowIn i (mphs (others ib args)) = true then none else σ.obj i := fun i => by
            unfold St.obj
            simp only [look_drop]
            by_cases h : rowIn i (mphs (others ib args)) = true
            · rw [if_pos h, if_pos h]
            · rw [if_neg h, if_neg h]
          have hob' : St.obj { σ with h := Abs.dropRows (mphs (others ib args)) ++ σ.h } ib = some (.box cs) := by rw [hobj, if_neg (by rw [hnin]; decide)]; exact hob
          obtain ⟨hkn, gb, C, cv, T, hl', hh, hsz, _, ho⟩ := r'.objs _ _ hob'
          have hbk : blk ib = some (.at_ gb C) := hsub _ _ hl'
          obtain ⟨_, gb2, C2, cv2, T2, hl2, hh2, hsz2, hr, _⟩ := r.objs _ _ hob
          rw [hbk] at hl2
          cases hl2
          rw [hh] at hh2
          cases hh2
          have hmono : ∀ ad u, rdOf w base S0 blk ad u → rdArg w (fun k => k < w.heap.size ∧ (∀ id l, blk' id = some l → ¬ l.has k) ∧ (S0.S k ∨ base ≤ k)) ad u := fun ad u ⟨x, y, z, _⟩ => ⟨x, rdw_lt x, fun id l e => y id l (hsub _ _ e), z⟩
          obtain ⟨l1, l2⟩ := shAs_rd r hmono hbk (fun i l k hi hbi hg ad u e hu => ⟨hu, rdw_lt hu, fun id' l' e' hg' => (by
            have e3 := hsub _ _ e'
            rw [e] at hg'
            have := r.inj _ _ _ _ _ e3 hbi hg' hg
            rw [this, hgone (.mph i) i (mphs_mem hi) (List.mem_singleton.2 rfl)] at e'
            cases e'), e ▸ own_S r hbi hg⟩) hsh h1 hl hv
          have hc := h2.one.2 (fun k => k < w.heap.size ∧ (∀ id l, blk' id = some l → ¬ l.has k) ∧ (S0.S k ∨ base ≤ k)) w vs.toArray gb (by simp [hl, l1])
            (fun j d v hd hvv => l2 j d v hd (by simpa using hvv)) ⟨cv, T, hh, hsz, fun j d u hd hu => ((hr j d u hd hu).close (closed_go hb2 d (List.mem_of_getElem? hd))).mono hmono (fun _ h => h) fun _ _ h => h.elim, ho⟩
            (fun h => h.2.1 ib _ hl' rfl) (r.glob.mono hmono)
          refine ⟨h2.one.1, hc.mono fun en w' ⟨v, hen, hrel, hbx, hbox⟩ => ⟨v, kn, blk', hen, ?_, relC_open (hrel.mono (fun ad u ⟨x, y⟩ => ⟨x, ?_, ?_, fun B hB => by rw [hwb0] at hB; cases hB⟩) (fun _ h => h) fun _ _ h => h.elim), fun _ h => .inl h⟩⟩
          · refine r'.step (fun k => k = gb) (fun i => i = ib) hbx.size hbx.os hbx.tape hbx.output (fun k hk hx => hbx.block k hk hx) (fun k hk => ⟨ib, _, rfl, hl', hk⟩) (fun _ h => h) (fun _ _ => rfl) (fun _ _ _ _ h => h) (fun i l k h e hg => .inl ⟨i, l, h, e, hg⟩) (fun i l h hi e => ⟨l, e, rfl⟩) rfl rfl rfl (fun _ => rfl)
              (fun i h => ?_) (fun _ _ _ i o h e => ?_) (fun i l h e => ?_) (fun i i' l l' k h h' _ _ _ _ => by rw [h, h']) (fun B hB => by rw [hwb0] at hB; cases hB) hbx.drawn
            · unfold St.effH St.obj
              simp only [List.cons_append, look_cons]
              rw [if_neg (fun e => h e.symm)]
            · subst h
              have e2 : (σ.effH { d := res, hw := (i, some (.box cs')) :: Abs.dropRows (mphs (others i args)), vc := vc ++ [FnS P f ds cs cs' res] }).obj i = some (.box cs') := by
                unfold St.effH St.obj
                simp only [List.cons_append, look_cons, if_true]
              rw [e2] at e
              cases e
              obtain ⟨cv', T', hh', hsz', hr', ho'⟩ := hbox
              exact ⟨hkn, gb, C, cv', T', hl', hh', hsz', fun j d u hd hu => relC_open ((hr' j d u hd hu).plain (plain_go hb3 d (List.mem_of_getElem? hd))), ho'⟩
            · subst h
              exact ⟨.box cs', by unfold St.effH St.obj; simp only [List.cons_append, look_cons, if_true]⟩
          · intro i l hbi hg
            rcases y with ⟨_, y, _⟩ | y
            · exact y i l hbi hg
            · have := (r'.ge i l _ hbi hg).2; omega
          · rcases y with ⟨_, _, y⟩ | y
            · exact y
            · have := r.hbase; exact .inr (by omega)
      · subst he; exact bad_vc hvc
    · subst he; exact bad_vc hvc
  · subst he; exact bad_vc hvc
theorem broEff_sound (r : R base w0 S0 σ kn blk a w) {f : FuncId} {g : Nat → List (Nat → DV) → DV → (Nat → Int) × DV} {args : List DV} {vs : List Value} {e : Eff} {id : Nat} (he : broEff P f σ.obj args g = e) (hvc : AllP e.vc) (hl : vs.length = args.length)
    (hv : ∀ (j : Nat) (d : DV) (v : Value), args[j]? = some d → vs[j]? = some v → Rel (rdOf w base S0 blk) kn blk d v) :
    Callable P f ∧ Calls P f vs.toArray w fun en w' => ∃ v kn' blk', en = .returned v ∧ R base w0 S0 (σ.effH e) kn' blk' a w' ∧ Rel (rdOf w' base S0 blk') kn' blk' e.d v ∧ ∀ i, kn' i → kn i ∨ i = id := by
  unfold broEff at he
  split at he
  · rename_i x b
    split at he
    · rename_i s ri len hob
      unfold broRow at he
      split at he
      · rename_i n c hor
        split at he
        · rename_i u y hy
          cases hb : Nat.beq s 1 && !(Nat.beq b ri)
          · simp only [hb, cond_false] at he; subst he; exact hvc.hd.elim
          · simp only [hb, cond_true] at he
            subst he
            simp only [Bool.and_eq_true, Bool.not_eq_true'] at hb
            have hs1 := Nat.eq_of_beq_eq_true hb.1
            subst hs1
            have hbr : b ≠ ri := fun h => by have h2 := hb.2; rw [h, Nat.beq_refl] at h2; exact Bool.noConfusion h2
            have hln : len = n := hvc.hd
            have hpos : 0 < len := hvc.tl.hd
            have hcol : intCol c := hvc.tl.tl.hd
            have hf := hvc.tl.tl.tl.one
            subst hln
            match vs, hl with
            | [v0, v1], _ =>
              have h0 := hv 0 _ v0 rfl rfl
              have h1 := hv 1 _ v1 rfl rfl
              cases h0
              obtain ⟨hkb, gb, Cb, cb, T, hlb, hhb, hszb, hrb, hob1⟩ := r.objs _ _ hob
              obtain ⟨hkr, hrow⟩ := r.objs _ _ hor
              rcases hrow with ⟨_, hz⟩ | ⟨gr, C, cv, T2, hlr, hhr, hszr, hnC, hcr⟩
              · omega
              · have hv1 : v1 = .pointer (some ⟨gb, 0, none⟩) := by cases h1 with | ptr _ _ h => exact h gb Cb hlb
                subst hv1
                have hne : gb ≠ gr := fun h => hbr (r.inj _ _ _ _ gb hlb hlr rfl h)
                have hszb : cb.size = 1 := hszb
                have hcb0 : cb[0]? = some (.slice (some ⟨gr, 0, none⟩) len C) := by
                  have hu := Array.getElem?_eq_getElem (show 0 < cb.size by omega)
                  have hr0 := hrb 0 _ _ rfl hu
                  rw [hu]
                  generalize cb[0] = u0 at hr0
                  cases hr0 with
                  | row _ _ _ h _ =>
                    rcases h gr C hlr with ⟨e1, _⟩ | ⟨e1, _⟩
                    · rw [e1]; simp
                    · omega
                have hszr' : cv.size = C := by simpa using hszr
                have hcv : ∀ i, i < len → cv[i]? = some (.int .i64 (iOfC (c i))) := fun i hi => by
                  obtain ⟨u', hu', _, hr'⟩ := hcr i 0 c hi rfl
                  rw [intCol_val hcol i] at hr'
                  cases hr'
                  simpa using hu'
                refine ⟨hf.1, (hf.2 (fun k => ∀ id l, blk id = some l → ¬ l.has k) w gb gr C cb cv T T2 (r.glob.mono fun ad u ⟨x, y, _⟩ => ⟨x, y⟩) (fun h => h _ _ hlb rfl) (fun h => h _ _ hlr rfl) hhb hszb hcb0 hne hhr hszr' hnC hcv).mono fun en w' ⟨hen, hbx, ⟨cb', T', hb1, hb2, hb3⟩, cv', T2', hr1, hr2, hr3⟩ => ⟨y, kn, blk, hen, ?_, .val _, fun _ h => .inl h⟩⟩
                refine r.step (fun k => k = gb ∨ k = gr) (fun i => i = b ∨ i = ri) hbx.size hbx.os hbx.tape hbx.output (fun k hk hx => hbx.block k hk hx) (fun k hk => ?_) (fun _ h => h) (fun _ _ => rfl) (fun _ _ _ _ h => h) (fun i l k h e hg => .inl ⟨i, l, h, e, hg⟩) (fun i l h hi e => ⟨l, e, rfl⟩) rfl rfl rfl (fun _ => rfl)
                  (fun i h => ?_) (fun _ _ _ i o h e => ?_) (fun i l h e => ?_) (fun i i' l l' k h h' e e' hg hg' => r.inj _ _ _ _ _ e e' hg hg') (fun B hB i k bs h e => r.mlow B hB i k bs e) hbx.drawn
                · rcases hk with rfl | rfl
                  · exact ⟨b, _, .inl rfl, hlb, rfl⟩
                  · exact ⟨ri, _, .inr rfl, hlr, rfl⟩
                · unfold St.effH St.obj
                  simp only [List.cons_append, List.nil_append, look_cons]
                  rw [if_neg (fun e => h (.inr e.symm))]
                · rcases h with rfl | rfl
                  · have e2 : (σ.effH { d := .val y, hw := [(ri, some (.row len [fun i => .val (.int .i64 ((g len [c] (.val u)).1 i))]))], vc := [len = len, 0 < len, intCol c, FnB P f u len (fun i => iOfC (c i)) (g len [c] (.val u)).1 y] }).obj i = some (.box [.row 1 ri 0 len]) := by
                      unfold St.effH
                      rw [show ∀ (h : List (Nat × Option AObj)), St.obj { σ with h := [(ri, some (.row len [fun i => .val (.int .i64 ((g len [c] (.val u)).1 i))]))] ++ σ.h } i = σ.obj i from fun _ => by
                        unfold St.obj
                        simp only [List.cons_append, List.nil_append, look_cons]
                        rw [if_neg (fun e => hbr e.symm)]]
                      · exact hob
                      · exact []
                    rw [e2] at e
                    cases e
                    refine ⟨hkb, gb, Cb, cb', T', hlb, hb1, hb2, fun j d u hd hu => ?_, fun u hu => ?_⟩
                    · match j, hd with
                      | 0, hd =>
                        cases hd
                        rw [hb3] at hu
                        cases hu
                        refine .row hkr ⟨_, _, rfl, fun h => by cases h⟩ (fun h => by rw [hlr] at h; cases h) (fun g' C' h => ?_) (fun g' o' C' h => by rw [hlr] at h; cases h)
                        rw [hlr] at h
                        cases h
                        exact .inl ⟨by simp, by omega⟩
                    · obtain ⟨k, hk, rfl⟩ := List.getElem_of_mem hu
                      have hk' : k < cb'.size := by simpa using hk
                      have : k = 0 := by omega
                      subst this
                      have := Array.getElem?_eq_getElem hk'
                      rw [hb3] at this
                      simp only [Array.getElem_toList]
                      rw [← Option.some.inj this]
                      rfl
                  · have e2 : (σ.effH { d := .val y, hw := [(i, some (.row len [fun j => .val (.int .i64 ((g len [c] (.val u)).1 j))]))], vc := [len = len, 0 < len, intCol c, FnB P f u len (fun j => iOfC (c j)) (g len [c] (.val u)).1 y] }).obj i = some (.row len [fun j => .val (.int .i64 ((g len [c] (.val u)).1 j))]) := by
                      unfold St.effH St.obj
                      simp only [List.cons_append, look_cons, if_true]
                    rw [e2] at e
                    cases e
                    refine ⟨hkr, .inr ⟨gr, C, cv', T2', hlr, hr1, by simp [hr2], hnC, fun j q f hj hq => ?_⟩⟩
                    match q, hq with
                    | 0, hq =>
                      cases hq
                      exact ⟨_, by simpa using hr3 j hj, rfl, .val _⟩
                · rcases h with rfl | rfl
                  · refine ⟨.box [.row 1 ri 0 len], ?_⟩
                    unfold St.effH St.obj
                    simp only [List.cons_append, List.nil_append, look_cons]
                    rw [if_neg (fun e => hbr e.symm)]
                    exact hob
                  · exact ⟨.row len [fun j => .val (.int .i64 ((g len [c] (.val u)).1 j))], by unfold St.effH St.obj; simp only [List.cons_append, look_cons, if_true]⟩
        · subst he; exact hvc.hd.elim
      · subst he; exact hvc.hd.elim
    · subst he; exact bad_vc hvc
  · subst he; exact bad_vc hvc
theorem evCall_sound (r : R base w0 S0 σ kn blk a w) {f : FuncId} {oc : Orc} {args : List DV} {vs : List Value} {e : Eff} {id : Nat} (hid : ¬ kn id) (he : evCall P oc id σ.obj f args = e) (hwb : S0.wb = none ∨ e.d.plain = true) (hvc : AllP e.vc) (hl : vs.length = args.length)
    (hv : ∀ (j : Nat) (d : DV) (v : Value), args[j]? = some d → vs[j]? = some v → Rel (rdOf w base S0 blk) kn blk d v) :
    Callable P f ∧ Calls P f vs.toArray w fun en w' => ∃ v kn' blk', en = .returned v ∧ R base w0 S0 (σ.effH e) kn' blk' a w' ∧ Rel (rdOf w' base S0 blk') kn' blk' e.d v ∧ ∀ i, kn' i → kn i ∨ i = id := by
  have effH0 : ∀ d vc, σ.effH { d, vc } = σ := fun _ _ => rfl
  unfold evCall at he
  split at he
  · rename_i g
    cases hbx : hasBox args
    case true =>
      simp only [hbx, cond_true] at he
      split at he
      · rename_i es vc hls
        generalize g es = d at he
        cases hp : d.plain
        · simp only [hp, cond_false] at he
          cases hcl : d.closed
          · simp only [hcl, cond_false] at he; subst he; exact bad_vc hvc
          · simp only [hcl, cond_true] at he
            subst he
            have hwb0 : S0.wb = none := hwb.resolve_right (by simp [hp])
            obtain ⟨h1, h2⟩ := AllP.app hvc
            obtain ⟨l1, _⟩ := lendBs_sound r hls h1 hl hv
            obtain ⟨blk', r', hsub, hgone⟩ := r.dropRows (mphs (allIds args)) (fun d id v hd hi => lendBs_is r hls id v (mphs_id hd hi))
            have l3 := lendBs_rd (rd' := rdOf w base S0 blk') r (fun ad u ⟨x, y, z, q⟩ => ⟨x, fun id l e => y id l (hsub _ _ e), z, q⟩)
              (fun id l g hi hbk hg ad u e hu => ⟨hu, fun id' l' e' hg' => (by
                have e3 := hsub _ _ e'
                rw [e] at hg'
                have := r.inj _ _ _ _ _ e3 hbk hg' hg
                rw [this, hgone (.mph id) id (mphs_mem hi) (List.mem_singleton.2 rfl)] at e'
                cases e'), e ▸ own_S r hbk hg, fun B hB => by rw [hwb0] at hB; cases hB⟩) hls h1 hl hv
            have hc := h2.one.2 (fun k => k < w.heap.size ∧ (∀ id l, blk' id = some l → ¬ l.has k) ∧ (S0.S k ∨ base ≤ k)) w vs.toArray (by simp [hl, l1])
              (fun j d v hd hvv => (l3 j d v hd (by simpa using hvv)).mono (fun ad u ⟨x, y, z, _⟩ => ⟨x, rdw_lt x, y, z⟩) (fun _ h => h) fun _ _ h => h.elim) (r'.glob.mono fun ad u ⟨x, y, z, _⟩ => ⟨x, rdw_lt x, y, z⟩)
            refine ⟨h2.one.1, hc.mono fun en w' ⟨v, hen, hrel, hb⟩ => ⟨v, kn, blk', hen, r'.world hb, relC_open (hrel.mono (fun ad u ⟨x, y⟩ => ⟨x, ?_, ?_, fun B hB => by rw [hwb0] at hB; cases hB⟩) (fun _ h => h) fun _ _ h => h.elim), fun _ h => .inl h⟩⟩
            · intro id l hbk hg
              rcases y with ⟨_, y, _⟩ | y
              · exact y id l hbk hg
              · have := (r'.ge id l _ hbk hg).2; omega
            · rcases y with ⟨_, _, y⟩ | y
              · exact y
              · have := r.hbase; exact .inr (by omega)
        · simp only [hp, cond_true] at he
          subst he
          obtain ⟨h1, h2⟩ := AllP.app hvc
          obtain ⟨l1, l2⟩ := lendBs_sound r hls h1 hl hv
          have hc := h2.one.2 (fun _ => True) w vs.toArray (by simp [hl, l1]) (fun j d v hd hvv => l2 j d v hd (by simpa using hvv)) (r.glob.mono fun ad u ⟨x, _⟩ => ⟨x, trivial⟩)
          exact ⟨h2.one.1, hc.mono fun en w' ⟨v, hen, hrel, hb⟩ => ⟨v, kn, blk, hen, r.world hb, relC_open (hrel.plain hp), fun _ h => .inl h⟩⟩
      · subst he; exact bad_vc hvc
    simp only [hbx, cond_false] at he
    split at he
    case h_2 => subst he; exact bad_vc hvc
    rename_i es vc hls
    unfold callEff at he
    generalize g es = d at he
    cases hrow : hasRow args
    · simp only [hrow, cond_false] at he
      cases hcl : d.closed
      · simp only [hcl, cond_false] at he; subst he; exact bad_vc hvc
      · simp only [hcl, cond_true] at he
        subst he
        obtain ⟨h1, h2⟩ := AllP.app hvc
        by_cases hp : d.plain = true
        · obtain ⟨l1, l2, _⟩ := lends_sound r hls h1 hl hv
          have hc := h2.one.2 (fun _ => True) w vs.toArray (by simp [hl, l1]) (fun j d v hd hvv => l2 j d v hd (by simpa using hvv)) (r.glob.mono fun ad u ⟨x, _⟩ => ⟨x, trivial⟩)
          exact ⟨h2.one.1, hc.mono fun en w' ⟨v, hen, hrel, hb⟩ => ⟨v, kn, blk, hen, r.world hb, relC_open (hrel.plain hp), fun _ h => .inl h⟩⟩
        have hwb0 : S0.wb = none := hwb.resolve_right hp
        obtain ⟨l1, _, l3⟩ := lends_sound r hls h1 hl hv
        have hc := h2.one.2 (fun k => k < w.heap.size ∧ (∀ id l, blk id = some l → ¬ l.has k) ∧ (S0.S k ∨ base ≤ k)) w vs.toArray (by simp [hl, l1])
          (fun j d v hd hvv => (l3 hrow j d v hd (by simpa using hvv)).mono (fun ad u ⟨x, y, z, _⟩ => ⟨x, rdw_lt x, y, z⟩) (fun _ h => h) fun _ _ h => h.elim) (r.glob.mono fun ad u ⟨x, y, z, _⟩ => ⟨x, rdw_lt x, y, z⟩)
        refine ⟨h2.one.1, hc.mono fun en w' ⟨v, hen, hrel, hb⟩ => ⟨v, kn, blk, hen, r.world hb, relC_open (hrel.mono (fun ad u ⟨x, y⟩ => ⟨x, ?_, ?_, fun B hB => by rw [hwb0] at hB; cases hB⟩) (fun _ h => h) fun _ _ h => h.elim), fun _ h => .inl h⟩⟩
        · intro id l hbk hg
          rcases y with ⟨_, y, _⟩ | y
          · exact y id l hbk hg
          · have := (r.ge id l _ hbk hg).2; omega
        · rcases y with ⟨_, _, y⟩ | y
          · exact y
          · have := r.hbase; exact .inr (by omega)
    · simp only [hrow, cond_true] at he
      cases hp : d.plain
      · simp only [hp, cond_false] at he
        cases hcl : d.closed
        · simp only [hcl, cond_false] at he; subst he; exact bad_vc hvc
        · simp only [hcl, cond_true] at he
          subst he
          have hwb0 : S0.wb = none := hwb.resolve_right (by simp [hp])
          obtain ⟨h1, h2⟩ := AllP.app hvc
          obtain ⟨l1, _, _⟩ := lends_sound r hls h1 hl hv
          obtain ⟨blk', r', hsub, hgone⟩ := r.dropRows args (lends_is r hls)
          have l3 := lends_rd (rd' := rdOf w base S0 blk') r (fun ad u ⟨x, y, z, q⟩ => ⟨x, fun id l e => y id l (hsub _ _ e), z, q⟩)
            (fun d id l g hm hi hbk hg ad u e hu => ⟨hu, fun id' l' e' hg' => (by
              have e3 := hsub _ _ e'
              rw [e] at hg'
              have := r.inj _ _ _ _ _ e3 hbk hg' hg
              rw [this, hgone d id hm hi] at e'
              cases e'), e ▸ own_S r hbk hg, fun B hB => by rw [hwb0] at hB; cases hB⟩) hls h1 hl hv
          have hc := h2.one.2 (fun k => k < w.heap.size ∧ (∀ id l, blk' id = some l → ¬ l.has k) ∧ (S0.S k ∨ base ≤ k)) w vs.toArray (by simp [hl, l1])
            (fun j d v hd hvv => (l3 j d v hd (by simpa using hvv)).mono (fun ad u ⟨x, y, z, _⟩ => ⟨x, rdw_lt x, y, z⟩) (fun _ h => h) fun _ _ h => h.elim) (r'.glob.mono fun ad u ⟨x, y, z, _⟩ => ⟨x, rdw_lt x, y, z⟩)
          refine ⟨h2.one.1, hc.mono fun en w' ⟨v, hen, hrel, hb⟩ => ⟨v, kn, blk', hen, r'.world hb, relC_open (hrel.mono (fun ad u ⟨x, y⟩ => ⟨x, ?_, ?_, fun B hB => by rw [hwb0] at hB; cases hB⟩) (fun _ h => h) fun _ _ h => h.elim), fun _ h => .inl h⟩⟩
          · intro id l hbk hg
            rcases y with ⟨_, y, _⟩ | y
            · exact y id l hbk hg
            · have := (r'.ge id l _ hbk hg).2; omega
          · rcases y with ⟨_, _, y⟩ | y
            · exact y
            · have := r.hbase; exact .inr (by omega)
      · simp only [hp, cond_true] at he
        subst he
        obtain ⟨h1, h2⟩ := AllP.app hvc
        obtain ⟨l1, l2, _⟩ := lends_sound r hls h1 hl hv
        have hc := h2.one.2 (fun _ => True) w vs.toArray (by simp [hl, l1]) (fun j d v hd hvv => l2 j d v hd (by simpa using hvv)) (r.glob.mono fun ad u ⟨x, _⟩ => ⟨x, trivial⟩)
        exact ⟨h2.one.1, hc.mono fun en w' ⟨v, hen, hrel, hb⟩ => ⟨v, kn, blk, hen, r.world hb, relC_open (hrel.plain hp), fun _ h => .inl h⟩⟩
  · rename_i g
    split at he
    · rename_i es vc hls
      unfold rowEff at he
      split at he
      rename_i n cols _
      subst he
      have hwb0 : S0.wb = none := hwb.resolve_right (by simp [DV.plain])
      obtain ⟨h1, h2⟩ := AllP.app hvc
      obtain ⟨l1, _, _⟩ := lends_sound r hls h1 hl hv
      obtain ⟨blk', r', hsub, hgone⟩ := r.dropRows args (lends_is r hls)
      have l3 := lends_rd (rd' := rdOf w base S0 blk') r (fun ad u ⟨x, y, z, q⟩ => ⟨x, fun id l e => y id l (hsub _ _ e), z, q⟩)
        (fun d id l g hm hi hbk hg ad u e hu => ⟨hu, fun id' l' e' hg' => (by
          have e3 := hsub _ _ e'
          rw [e] at hg'
          have := r.inj _ _ _ _ _ e3 hbk hg' hg
          rw [this, hgone d id hm hi] at e'
          cases e'), e ▸ own_S r hbk hg, fun B hB => by rw [hwb0] at hB; cases hB⟩) hls h1 hl hv
      have hc := h2.one.2 (fun k => k < w.heap.size ∧ (∀ id l, blk' id = some l → ¬ l.has k) ∧ (S0.S k ∨ base ≤ k)) w vs.toArray (by simp [hl, l1])
        (fun j d v hd hvv => (l3 j d v hd (by simpa using hvv)).mono (fun ad u ⟨x, y, z, _⟩ => ⟨x, rdw_lt x, y, z⟩) (fun _ h => h) fun _ _ h => h.elim) (r'.glob.mono fun ad u ⟨x, y, z, _⟩ => ⟨x, rdw_lt x, y, z⟩)
      refine ⟨h2.one.1, hc.mono fun en w' ⟨v, hen, hb, hrow⟩ => ?_⟩
      rcases hrow with ⟨rfl, rfl⟩ | ⟨g, C, cv, T, rfl, hg, hh, hsz, hn, hcells⟩
      · refine ⟨_, _, _, hen, r'.adopt hb (l := .nil) hid hwb0 (fun g C e => by cases e) (.inl ⟨rfl, rfl⟩), .row (.inr rfl) ⟨_, _, rfl, fun _ => rfl⟩ (fun _ => ⟨rfl, rfl, rfl⟩) (fun g C e => by simp at e) (fun g o C e => by simp at e), fun _ h => h⟩
      · refine ⟨_, _, _, hen, r'.adopt hb (l := .at_ g C) hid hwb0 (fun g' C' e => by cases e; exact ⟨hg, heap_lt hh⟩) (.inr ⟨g, C, cv, T, rfl, hh, hsz, hn, fun i j f hi hj => ?_⟩), .row (.inr rfl) ⟨_, _, rfl, fun h => by cases h⟩ (fun e => by simp at e) (fun g' C' e => ?_) (fun g' o' C' e => by simp at e), fun _ h => h⟩
        · obtain ⟨u, hu, ho, hr⟩ := hcells i j f hi hj
          refine ⟨u, hu, ho, hr.mono (fun ad u ⟨x, y, z⟩ => ⟨x, y, ?_, ?_⟩) (fun _ h => h) fun _ _ h => h.elim⟩
          · intro id' l' e hg'
            rcases z with ⟨_, z, _⟩ | z
            · exact z _ _ e hg'
            · have := (r'.ge _ _ _ e hg').2; omega
          · rcases z with ⟨_, _, z⟩ | z
            · exact z
            · have := r.hbase; exact .inr (by omega)
        · simp only [if_true, Option.some.injEq] at e
          cases e
          exact .inl ⟨by simp, by omega⟩
    · subst he; exact bad_vc hvc
  · rename_i g
    split at he
    · rename_i es vc hls
      unfold rowAEff at he
      split at he
      rename_i pre n cols _
      cases hpc : DV.closed.go pre
      · simp only [hpc, cond_false] at he; subst he; exact bad_vc hvc
      simp only [hpc, cond_true] at he
      subst he
      have hwb0 : S0.wb = none := hwb.resolve_right (by rw [plain_agg_row]; decide)
      obtain ⟨h1, h2⟩ := AllP.app hvc
      obtain ⟨l1, _, _⟩ := lends_sound r hls h1 hl hv
      obtain ⟨blk', r', hsub, hgone⟩ := r.dropRows args (lends_is r hls)
      have l3 := lends_rd (rd' := rdOf w base S0 blk') r (fun ad u ⟨x, y, z, q⟩ => ⟨x, fun id l e => y id l (hsub _ _ e), z, q⟩)
        (fun d id l g hm hi hbk hg ad u e hu => ⟨hu, fun id' l' e' hg' => (by
          have e3 := hsub _ _ e'
          rw [e] at hg'
          have := r.inj _ _ _ _ _ e3 hbk hg' hg
          rw [this, hgone d id hm hi] at e'
          cases e'), e ▸ own_S r hbk hg, fun B hB => by rw [hwb0] at hB; cases hB⟩) hls h1 hl hv
      have hc := h2.one.2 (fun k => k < w.heap.size ∧ (∀ id l, blk' id = some l → ¬ l.has k) ∧ (S0.S k ∨ base ≤ k)) w vs.toArray (by simp [hl, l1])
        (fun j d v hd hvv => (l3 j d v hd (by simpa using hvv)).mono (fun ad u ⟨x, y, z, _⟩ => ⟨x, rdw_lt x, y, z⟩) (fun _ h => h) fun _ _ h => h.elim) (r'.glob.mono fun ad u ⟨x, y, z, _⟩ => ⟨x, rdw_lt x, y, z⟩)
      refine ⟨h2.one.1, hc.mono fun en w' ⟨us, v, hen, hul, hb, hrow⟩ => ?_⟩
      rcases hrow with ⟨rfl, rfl, hpre⟩ | ⟨g, C, cv, T, rfl, hg, hh, hsz, hn, hcells, hpre⟩
      · refine ⟨_, _, _, hen, r'.adopt hb (l := .nil) hid hwb0 (fun g C e => by cases e) (.inl ⟨rfl, rfl⟩), agg_row hul (hpre.mono (fun ad u ⟨x, y⟩ => ⟨x, fun i l e hgi => ?_, ?_, fun B hB => by rw [hwb0] at hB; cases hB⟩) (fun _ h => h) fun _ _ h => h.elim) (.row (.inr rfl) ⟨_, _, rfl, fun _ => rfl⟩ (fun _ => ⟨rfl, rfl, rfl⟩) (fun g C e => by simp at e) (fun g o C e => by simp at e)), fun _ h => h⟩
        · have e : (if i = id then some Loc.nil else blk' i) = some l := e
          split at e
          · cases e; exact hgi
          · rcases y with ⟨_, y, _⟩ | y
            · exact y _ _ e hgi
            · have := (r'.ge _ _ _ e hgi).2; omega
        · rcases y with ⟨_, _, y⟩ | y
          · exact y
          · have := r.hbase; exact .inr (by omega)
      · refine ⟨_, _, _, hen, r'.adopt hb (l := .at_ g C) hid hwb0 (fun g' C' e => by cases e; exact ⟨hg, heap_lt hh⟩) (.inr ⟨g, C, cv, T, rfl, hh, hsz, hn, fun i j f hi hj => ?_⟩), agg_row hul (hpre.mono (fun ad u ⟨x, y, z⟩ => ⟨x, fun i l e hgi => ?_, ?_, fun B hB => by rw [hwb0] at hB; cases hB⟩) (fun _ h => h) fun _ _ h => h.elim) (.row (.inr rfl) ⟨_, _, rfl, fun h => by cases h⟩ (fun e => by simp at e) (fun g' C' e => ?_) (fun g' o' C' e => by simp at e)), fun _ h => h⟩
        · obtain ⟨u, hu, ho, hr⟩ := hcells i j f hi hj
          refine ⟨u, hu, ho, hr.mono (fun ad u ⟨x, y, z⟩ => ⟨x, y, ?_, ?_⟩) (fun _ h => h) fun _ _ h => h.elim⟩
          · intro id' l' e hg'
            rcases z with ⟨_, z, _⟩ | z
            · exact z _ _ e hg'
            · have := (r'.ge _ _ _ e hg').2; omega
          · rcases z with ⟨_, _, z⟩ | z
            · exact z
            · have := r.hbase; exact .inr (by omega)
        · have e : (if i = id then some (Loc.at_ g C) else blk' i) = some l := e
          split at e
          · cases e; exact y hgi
          · rcases z with ⟨_, z, _⟩ | z
            · exact z _ _ e hgi
            · have := (r'.ge _ _ _ e hgi).2; omega
        · rcases z with ⟨_, _, z⟩ | z
          · exact z
          · have := r.hbase; exact .inr (by omega)
        · simp only [if_true, Option.some.injEq] at e
          cases e
          exact .inl ⟨by simp, by omega⟩
    · subst he; exact bad_vc hvc
  · rename_i g
    split at he
    · rename_i es vc hls
      generalize g es = A' at he
      unfold turnEff at he
      split at he
      · rename_i s id' off len rest
        split at he
        · rename_i n c hob
          cases hb : Nat.beq s 1 && DV.closed.go rest with
          | false => simp only [hb, cond_false] at he; subst he; exact bad_vc hvc
          | true =>
            simp only [hb, cond_true] at he
            rw [Bool.and_eq_true] at hb
            obtain ⟨hs1, hcl⟩ := hb
            have hs1 := Nat.eq_of_beq_eq_true hs1
            subst hs1
            subst he
            have hln : len = n := hvc.hd
            have hcol := hvc.tl.hd
            have hft := hvc.tl.tl.one
            subst hln
            match vs, hl with
            | v0 :: vs, hl =>
              have h0 := hv 0 _ v0 rfl rfl
              have hrest : ∀ (j : Nat) (d : DV) (v : Value), rest[j]? = some d → vs[j]? = some v → RelC (rdArg w fun _ => True) d v := fun j d v hd hvv =>
                ((hv (j + 1) d v (by simpa using hd) (by simpa using hvv)).close (closed_go hcl d (List.mem_of_getElem? hd))).mono (fun _ _ h => ⟨h.1, trivial⟩) (fun _ h => h) fun _ _ h => h.elim
              obtain ⟨hnil, hat⟩ := hft.2 w v0 vs (by simpa using hl) hrest
              refine ⟨hft.1, ?_⟩
              obtain ⟨hk, ho⟩ := r.objs _ _ hob
              cases h0 with
              | row hk' hv' hz hg =>
                rcases ho with ⟨hl0, hn0⟩ | ⟨g, C, cv, T, hlg, hh, hsz, hn, hc⟩
                · obtain ⟨rfl, _, _⟩ := hz hl0
                  refine (hnil rfl hn0).mono fun en w' ⟨hen, hb⟩ => ⟨_, kn, blk, hen, ?_, .val _, fun _ h => .inl h⟩
                  exact (r.world hb).reObj hk (.inl ⟨hl0, hn0⟩)
                · obtain ⟨rfl, _⟩ : v0 = .slice (some ⟨g, 0 * 1, none⟩) len (C - 0) ∧ 0 + len ≤ C := (hg g C hlg).resolve_right fun h => by omega
                  have hsz' : cv.size = C := by simpa using hsz
                  refine (hat g C cv T (by simp) hn hh hsz' (fun i hi => ?_)).mono fun en w' ⟨hen, cv', w1, hs', hc', e1, e2, e3, e4, e5, hk1, hg1, hb⟩ => ⟨_, kn, blk, hen, ?_, .val _, fun _ h => .inl h⟩
                  · obtain ⟨u, hu, _, hr⟩ := hc i 0 c hi rfl
                    rw [intCol_val hcol i] at hr
                    cases hr
                    simpa using hu
                  · refine (r.turn (o := .row len [fun i => .val (.int .i64 (A' i))]) hlg e1 e2 e3 e4 hk1 (fun _ _ => Or.inr ⟨g, C, cv', T, rfl, hg1, by simp [hs'], hn, fun i j f hi hj => ?_⟩) e5).world hb
                    match j, hj with
                    | 0, hj =>
                      cases hj
                      exact ⟨_, by simpa using hc' i hi, rfl, .val _⟩
        · subst he; exact bad_vc hvc
      · subst he; exact bad_vc hvc
    · subst he; exact bad_vc hvc
  · rename_i g
    split at he
    · rename_i es vc hls
      generalize (g es).1 = n' at he
      generalize (g es).2 = A' at he
      unfold takeEff at he
      split at he
      · rename_i s id' off len
        split at he
        · rename_i n c hob
          cases hb : Nat.beq s 1 with
          | false => simp only [hb, cond_false] at he; subst he; exact bad_vc hvc
          | true =>
            simp only [hb, cond_true] at he
            have hs1 := Nat.eq_of_beq_eq_true hb
            subst hs1
            subst he
            have hln : len = n := hvc.hd
            have hcol := hvc.tl.hd
            have hft := hvc.tl.tl.one
            subst hln
            match vs, hl with
            | [v0], hl =>
              have h0 := hv 0 _ v0 rfl rfl
              obtain ⟨hnil, hat⟩ := hft.2 w v0
              refine ⟨hft.1, ?_⟩
              obtain ⟨hk, ho⟩ := r.objs _ _ hob
              cases h0 with
              | row hk' hv' hz hg =>
                rcases ho with ⟨hl0, hn0⟩ | ⟨g, C, cv, T, hlg, hh, hsz, hn, hc⟩
                · obtain ⟨rfl, _, _⟩ := hz hl0
                  obtain ⟨hz0, hnil2⟩ := hnil rfl hn0
                  subst hz0
                  refine hnil2.mono fun en w' ⟨hen, hb⟩ => ⟨_, kn, blk, hen, ?_, .row hk' ⟨_, _, rfl, fun _ => rfl⟩ (fun _ => ⟨rfl, rfl, rfl⟩) (fun g C e => (by rw [hl0] at e; cases e)) (fun g o C e => (by rw [hl0] at e; cases e)), fun _ h => .inl h⟩
                  exact (r.world hb).reObj hk (.inl ⟨hl0, rfl⟩)
                · obtain ⟨rfl, _⟩ : v0 = .slice (some ⟨g, 0 * 1, none⟩) len (C - 0) ∧ 0 + len ≤ C := (hg g C hlg).resolve_right fun h => by omega
                  have hsz' : cv.size = C := by simpa using hsz
                  obtain ⟨hle, hat⟩ := hat g C cv T (by simp) hn hh hsz' (fun i hi => by
                    obtain ⟨u, hu, _, hr⟩ := hc i 0 c hi rfl
                    rw [intCol_val hcol i] at hr
                    cases hr
                    simpa using hu)
                  refine hat.mono fun en w' ⟨hen, cv', w1, hs', hc', e1, e2, e3, e4, e5, hk1, hg1, hb⟩ => ⟨_, kn, blk, hen, ?_, .row hk' ⟨_, _, rfl, fun h => by cases h⟩ (fun e => (by rw [hlg] at e; cases e)) (fun g' C' e => (by rw [hlg] at e; cases e; exact .inl ⟨by simp, by omega⟩)) (fun g' o' C' e => (by rw [hlg] at e; cases e)), fun _ h => .inl h⟩
                  refine (r.turn (o := .row n' [fun i => .val (.int .i64 (A' i))]) hlg e1 e2 e3 e4 hk1 (fun _ _ => Or.inr ⟨g, C, cv', T, rfl, hg1, by simp [hs'], by omega, fun i j f hi hj => ?_⟩) e5).world hb
                  match j, hj with
                  | 0, hj =>
                    cases hj
                    exact ⟨_, by simpa using hc' i hi, rfl, .val _⟩
        · subst he; exact bad_vc hvc
      · subst he; exact bad_vc hvc
    · subst he; exact bad_vc hvc
  · exact wrEff_sound r hid he hvc hl hv
  · exact shEff_sound r he hwb hvc hl hv
  · exact broEff_sound r he hvc hl hv
  · subst he; exact bad_vc hvc
end
end Go.Abs
