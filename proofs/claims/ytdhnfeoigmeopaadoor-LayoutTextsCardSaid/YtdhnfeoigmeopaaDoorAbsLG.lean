/- Rows whose cells hold slices of the call's own. -/
import Derived.Test.YtdhnfeoigmeopaaDoorAbsLM
namespace Go.Abs
open Go.RowKit
theorem allNil_spec : ∀ {cs : List DV}, allNil cs = true → ∀ d ∈ cs, d = .val (.slice none 0 0)
  | [], _, d, hd => by cases hd
  | c :: r, h, d, hd => by
    unfold allNil at h
    split at h
    · rename_i e; cases e
    · rename_i r' e
      cases e
      rcases List.mem_cons.1 hd with rfl | hd
      · rfl
      · exact allNil_spec h d hd
    · cases h
section
variable {P : Program} {base : Nat} {w0 w w' : World} {S0 : Env} {σ σ' : St} {kn : Nat → Prop} {blk : Nat → Option Loc} {a : Act}
theorem evMakeGrid_sound (r : R base w0 S0 σ kn blk a w) {id : Nat} (hid : ¬ kn id) {t : TypeId} {d1 d2 : DV} {v1 v2 : Value} {e : Eff} (he : evMakeGrid P id t d1 d2 = e) (hvc : AllP e.vc)
    (h1 : Rel (rdOf w base S0 blk) kn blk d1 v1) (h2 : Rel (rdOf w base S0 blk) kn blk d2 v2) : Runs P base w0 S0 σ kn a w id (Instr.makeSlice t v1 v2) e := by
  unfold evMakeGrid at he
  split at he
  · rename_i k n k' c
    cases h1; cases h2
    split at he
    · rename_i el hu
      split at he
      · rename_i i cs hi hz
        cases hb : (Nat.beq cs.length i.size && (Nat.ble 1 cs.length && allNil cs)) with
        | false => simp only [hb, cond_false] at he; subst he; exact bad_vc hvc
        | true =>
          simp only [hb, cond_true] at he
          simp only [Bool.and_eq_true] at hb
          subst he
          obtain ⟨g0, rfl, g2, g3⟩ := hvc.one
          have hsz := Nat.eq_of_beq_eq_true hb.1
          have h1s := Nat.le_of_ble_eq_true hb.2.1
          have hnil := allNil_spec hb.2.2
          unfold tZero at hz
          rw [hi] at hz
          simp only at hz
          cases hzz : i.zero with
          | none => rw [hzz] at hz; cases hz
          | some z =>
            rw [hzz] at hz
            simp only at hz
            obtain ⟨q1, q2, q3⟩ := (Rel.val (rd := rdOf w base S0 blk) (kn := fun _ => False) (blk := fun _ => none) z).cells hz
            have hrun := run_make (P := P) (w := w) t el i z hu hi hzz k k' n n g0 (Int.le_refl _) (by have : (n.toNat : Int) = n := Int.toNat_of_nonneg g0; rw [← this, ← Int.natCast_mul]; exact Int.ofNat_le.2 g3) (by omega)
            have hcell : ∀ a b, a < n.toNat → b < cs.length → (madeCells z.cells (n.toNat * i.size))[a * cs.length + b]? = some (.slice none 0 0) := fun a b ha hblt => by
              have hzb : b < z.cells.size := by omega
              have hin : a * cs.length + b < n.toNat * i.size := by
                rw [← hsz]
                calc a * cs.length + b < a * cs.length + cs.length := by omega
                  _ = (a + 1) * cs.length := by rw [Nat.add_mul]; omega
                  _ ≤ n.toNat * cs.length := Nat.mul_le_mul_right _ ha
              have hmod : (a * cs.length + b) % z.cells.size = b := by
                rw [q1, Nat.mul_comm, Nat.mul_add_mod, Nat.mod_eq_of_lt hblt]
              have hv := q2 b _ _ (List.getElem?_eq_getElem hblt) (Array.getElem?_eq_getElem hzb)
              rw [hnil _ (List.getElem_mem hblt)] at hv
              have hv := hv.val_eq
              simp only [madeCells]
              rw [Array.getElem?_map, Array.getElem?_range, if_pos hin]
              simp only [Option.map_some, hmod]
              rw [getElem!_pos z.cells b hzb, hv]
            have q := r.newAt (w' := w.alloc (.cells (madeCells z.cells (n.toNat * i.size)) el (0, 0))) (o := .grid n.toNat cs.length (fun _ _ => 0) (fun _ _ _ => .val (.int .i64 0)) none) (l := .grid w.heap.size n.toNat []) hid ((Below.refl _ _).alloc (Nat.le_refl _) _) (fun g hg => by
              rcases hg with rfl | hg
              · simp
              · cases hg) (fun _ _ _ _ h => by cases h) fun _ _ => ⟨w.heap.size, n.toNat, [], _, el, rfl, heap_alloc_new w _, by rw [size_madeCells, hsz], Nat.le_refl _, ⟨fun a b ha hb _ => ⟨_, hcell a b ha hb, .inl ⟨rfl, rfl⟩⟩, fun a b a' b' g m C m' C' ha hb _ _ _ _ _ h => by rw [hcell a b ha hb] at h; cases h⟩, fun b hb => by cases hb⟩
            refine ⟨_, _, hrun, _, _, q, .grd (.inr rfl) ⟨_, _, rfl, fun h => by cases h⟩ (fun g C bs hb => ?_), fun i hi => hi⟩
            simp only [if_true, Option.some.injEq, Loc.grid.injEq] at hb
            obtain ⟨rfl, rfl, _⟩ := hb
            exact ⟨rfl, Nat.le_refl _⟩
      · subst he; exact bad_vc hvc
    · subst he; exact bad_vc hvc
  · subst he; exact bad_vc hvc
theorem evGout_sound (r : R base w0 S0 σ kn blk a w) {id : Nat} (hid : ¬ kn id) {t : TypeId} {s g i j : Nat} {v : Value} {e : Eff} (he : evGout P σ.obj id t s g i j = e) (hvc : AllP e.vc)
    (hv : Rel (rdOf w base S0 blk) kn blk (.gptr s g i j) v) : Runs P base w0 S0 σ kn a w id (Instr.loadAt t v) e := by
  unfold evGout at he
  split at he
  · rename_i n s' len col h1 h2 hob
    cases hb : (Nat.beq s s' && Nat.blt j s)
    · simp only [hb, cond_false] at he; subst he; exact bad_vc hvc
    · simp only [hb, cond_true] at he
      subst he
      simp only [Bool.and_eq_true] at hb
      obtain rfl := Nat.eq_of_beq_eq_true hb.1
      have hj : j < s := Nat.lt_of_lt_of_le (Nat.lt_succ_self j) (Nat.le_of_ble_eq_true hb.2)
      have hi : i < n := hvc.one
      obtain ⟨hkg, gb, C, bs, cv, T, hl, hh, hsz, hn, hG, hbs⟩ := r.objs _ _ hob
      obtain rfl : v = .pointer (some ⟨gb, i * s + j, none⟩) := by cases hv with | gptr _ _ h => exact h gb C bs hl
      obtain ⟨u, hu, hE⟩ := hG.ent i j hi hj (by simp)
      have hcell : w.cell? ⟨gb, i * s + j, none⟩ = some u := by simp only [World.cell?, hh, hu]; rfl
      have hrun : (Instr.loadAt t (.pointer (some ⟨gb, i * s + j, none⟩))).run P w = .ok u w := by
        simp [Instr.loadAt, Instr.sureAddr, loadVar, tAgg_run h1, hcell]
      have hgid : g ≠ id := fun e => hid (e ▸ hkg)
      obtain ⟨l, D, hlD, hub, hrow⟩ : ∃ (l : Loc) (D : Option Nat), (∀ k, l.has k ↔ D = some k) ∧ (∀ b, D = some b → b ∈ bs ∧ ∃ m C', u = .slice (some ⟨b, 0, none⟩) m C') ∧
          ((l = .nil ∧ D = none ∧ u = .slice none 0 0 ∧ len i j = 0) ∨ ∃ b Cb cvb Tb, l = .at_ b Cb ∧ D = some b ∧ u = .slice (some ⟨b, 0, none⟩) (len i j) Cb ∧ w.heap[b]? = some (.cells cvb Tb (0, 0)) ∧ cvb.size = Cb ∧ len i j ≤ Cb ∧ ∀ q, q < len i j → ∃ x, cvb[q]? = some x ∧ oneV x = true ∧ RelC (rdOf w base S0 blk) (col i j q) x) := by
        rcases hE with ⟨h3, h4⟩ | ⟨b, Cb, cvb, Tb, h3, h4, h5, h6, h7, h8⟩
        · exact ⟨.nil, none, fun k => ⟨fun h => h.elim, fun h => by cases h⟩, fun b h => (by cases h), .inl ⟨rfl, rfl, h3, h4⟩⟩
        · exact ⟨.at_ b Cb, some b, fun k => ⟨fun h => by rw [show k = b from h], fun h => by cases h; rfl⟩, fun b' h => (by cases h; exact ⟨h4, _, _, h3⟩), .inr ⟨b, Cb, cvb, Tb, rfl, rfl, h3, h5, h6, h7, h8⟩⟩
      have hls : ∀ (b C : Nat) (bs : List Nat), l ≠ .grid b C bs ∧ ∀ x y, l ≠ .map x y := fun b C bs => by
        rcases hrow with ⟨rfl, _⟩ | ⟨_, _, _, _, rfl, _⟩ <;> exact ⟨fun h => (by cases h), fun _ _ h => (by cases h)⟩
      let blk' : Nat → Option Loc := fun k => if k = id then some l else if k = g then some (.grid gb C (bs.filter fun b => decide (D ≠ some b))) else blk k
      have hbid : blk' id = some l := if_pos rfl
      have hbg : blk' g = some (.grid gb C (bs.filter fun b => decide (D ≠ some b))) := by
        show (if g = id then some l else if g = g then _ else blk g) = _
        rw [if_neg hgid, if_pos rfl]
      have hgbD : D ≠ some gb := fun e => (hbs gb (hub gb e).1).1 rfl
      have q : R base w0 S0 (σ.effH { d := .row 1 id 0 (len i j), hw := [(id, some (.row (len i j) [col i j])), (g, some (.grid n s len col (some (i, j))))], vc := [i < n] }) (fun k => kn k ∨ k = id) blk' a w := by
        refine r.step (w' := w) (fun _ => False) (fun k => k = id ∨ k = g) (Nat.le_refl _) rfl rfl rfl (fun _ _ _ => rfl) (fun _ h => h.elim) (fun _ h => .inl h) (fun k h => ?_) (fun k v h hk e => ?_) (fun k l' x h e hg => ?_) (fun k l' h hk e => ?_) rfl rfl rfl (fun _ => rfl) (fun k h => ?_)
          (fun _ m mC k o h e => ?_) (fun k l' h e => ?_) (fun k k' l1 l2 x h h' e e' g1 g2 => ?_) (fun B hB k x bs' h e => ?_)
        · rw [not_or] at h
          show (if k = id then some l else if k = g then _ else blk k) = _
          rw [if_neg h.1, if_neg h.2]
        · rcases h with rfl | rfl
          · exact absurd hk hid
          · rw [hl] at e; cases e
        · rcases h with rfl | rfl
          · rw [hbid] at e
            cases e
            exact .inl ⟨g, _, .inr rfl, hl, .inr (hub x ((hlD x).1 hg)).1⟩
          · rw [hbg] at e
            cases e
            refine .inl ⟨k, _, .inr rfl, hl, ?_⟩
            rcases hg with hg | hg
            · exact .inl hg
            · exact .inr (List.mem_filter.1 hg).1
        · rcases h with rfl | rfl
          · exact absurd hk hid
          · rw [hbg] at e
            cases e
            exact ⟨_, hl, rfl⟩
        · rw [not_or] at h
          unfold St.effH St.obj
          simp only [List.cons_append, List.nil_append, look_cons]
          rw [if_neg (fun e => h.1 e.symm), if_neg (fun e => h.2 e.symm)]
        · rcases h with rfl | rfl
          · have e2 : (σ.effH { d := .row 1 k 0 (len i j), hw := [(k, some (.row (len i j) [col i j])), (g, some (.grid n s len col (some (i, j))))], vc := [i < n] }).obj k = some (.row (len i j) [col i j]) := by
              unfold St.effH St.obj
              simp only [List.cons_append, look_cons, if_true]
            rw [e2] at e
            cases e
            refine ⟨.inr rfl, ?_⟩
            rw [hbid]
            rcases hrow with ⟨rfl, _, _, h0⟩ | ⟨b, Cb, cvb, Tb, rfl, _, _, h5, h6, h7, h8⟩
            · exact .inl ⟨rfl, h0⟩
            · refine .inr ⟨b, Cb, cvb, Tb, rfl, h5, by simp [h6], h7, fun x y f hx hy => ?_⟩
              match y, hy with
              | 0, hy =>
                cases hy
                obtain ⟨z, z1, z2, z3⟩ := h8 x hx
                exact ⟨z, by simpa using z1, z2, mC z3⟩
          · have e2 : (σ.effH { d := .row 1 id 0 (len i j), hw := [(id, some (.row (len i j) [col i j])), (k, some (.grid n s len col (some (i, j))))], vc := [i < n] }).obj k = some (.grid n s len col (some (i, j))) := by
              unfold St.effH St.obj
              simp only [List.cons_append, look_cons, if_true]
              rw [if_neg (fun e => hgid e.symm)]
            rw [e2] at e
            cases e
            refine ⟨.inl hkg, gb, C, _, cv, T, hbg, hh, hsz, hn, ⟨fun i' j' hi' hj' hne => ?_, fun i' j' i2 j2 x m1 C1 m2 C2 a1 a2 a3 a4 _ _ a5 => hG.sep i' j' i2 j2 x m1 C1 m2 C2 a1 a2 a3 a4 (by simp) (by simp) a5⟩, fun b hb => hbs b (List.mem_filter.1 hb).1⟩
            obtain ⟨v', hv', hE'⟩ := hG.ent i' j' hi' hj' (by simp)
            refine ⟨v', hv', ?_⟩
            rcases hE' with h0 | ⟨b, Cb, cvb, Tb, c1, c2, c3, c4, c5, c6⟩
            · exact .inl h0
            · refine .inr ⟨b, Cb, cvb, Tb, c1, List.mem_filter.2 ⟨c2, ?_⟩, c3, c4, c5, fun x hx => let ⟨z, z1, z2, z3⟩ := c6 x hx; ⟨z, z1, z2, mC z3⟩⟩
              simp only [decide_eq_true_eq]
              intro eD
              obtain ⟨_, m3, C3, hu3⟩ := hub b eD
              have hne2 : (i', j') ≠ (i, j) := fun e => hne (by rw [e])
              exact hG.sep i' j' i j b _ _ m3 C3 hi' hj' hi hj (by simp) (by simp) hne2 (by rw [hv', c1]) (by rw [hu, hu3])
        · rcases h with rfl | rfl
          · exact ⟨_, by unfold St.effH St.obj; simp only [List.cons_append, look_cons, if_true]; rfl⟩
          · exact ⟨_, by unfold St.effH St.obj; simp only [List.cons_append, look_cons, if_true]; rw [if_neg (fun e => hgid e.symm)]⟩
        · have key : ∀ {l1 l2 : Loc}, blk' id = some l1 → blk' g = some l2 → l1.has x → l2.has x → False := fun {l1 l2} e1 e2 g1 g2 => by
            rw [hbid] at e1
            rw [hbg] at e2
            cases e1
            cases e2
            have hx := (hlD x).1 g1
            rcases g2 with rfl | g2
            · exact hgbD hx
            · have := (List.mem_filter.1 g2).2
              simp only [decide_eq_true_eq] at this
              exact this hx
          rcases h with rfl | rfl <;> rcases h' with rfl | rfl
          · rfl
          · exact (key e e' g1 g2).elim
          · exact (key e' e g2 g1).elim
          · rfl
        · rcases h with rfl | rfl
          · rw [hbid] at e
            cases e
            exact absurd rfl ((hls 0 0 []).2 x bs')
          · rw [hbg] at e; cases e
      refine ⟨u, w, hrun, _, blk', q, ?_, fun k hk => hk⟩
      rcases hrow with ⟨rfl, _, rfl, h0⟩ | ⟨b, Cb, cvb, Tb, rfl, _, rfl, h5, h6, h7, h8⟩
      · exact .row (.inr rfl) ⟨none, 0, by rw [h0], fun _ => h0⟩ (fun _ => ⟨rfl, rfl, h0⟩) (fun g' C' e => by rw [hbid] at e; cases e) (fun g' o' C' e => by rw [hbid] at e; cases e)
      · exact .row (.inr rfl) ⟨_, _, rfl, fun h => by cases h⟩ (fun e => by rw [hbid] at e; cases e) (fun g' C' e => by rw [hbid] at e; cases e; exact .inl ⟨by simp, by omega⟩) (fun g' o' C' e => by rw [hbid] at e; cases e)
  · subst he; exact bad_vc hvc
def addD (D : Option Nat) (bs : List Nat) : List Nat := match D with
  | some b => b :: bs
  | none => bs
theorem gcell_apart {s i j i' j' : Nat} (hj : j < s) (hj' : j' < s) (h : i * s + j = i' * s + j') : i = i' ∧ j = j' := by
  have h1 : (i * s + j) / s = i := by rw [Nat.mul_comm, Nat.mul_add_div (by omega), Nat.div_eq_of_lt hj, Nat.add_zero]
  have h2 : (i' * s + j') / s = i' := by rw [Nat.mul_comm, Nat.mul_add_div (by omega), Nat.div_eq_of_lt hj', Nat.add_zero]
  have h3 : i = i' := by rw [← h1, h, h2]
  subst h3
  exact ⟨rfl, by omega⟩
theorem evGin_sound (r : R base w0 S0 σ kn blk a w) {t : TypeId} {s g i j : Nat} {d : DV} {vp vd : Value} {e : Eff} (he : evGin P σ.obj t s g i j d = e) (hvc : AllP e.vc)
    (hp : Rel (rdOf w base S0 blk) kn blk (.gptr s g i j) vp) (hd : Rel (rdOf w base S0 blk) kn blk d vd) :
    e.d = .any ∧ ∃ w' blk', (Instr.storeAt t vp vd).run P w = .ok () w' ∧ R base w0 S0 (σ.effH e) kn blk' a w' := by
  unfold evGin at he
  split at he
  · rename_i ri m
    split at he
    · rename_i n s' len col i0 j0 m' c h1 hob hor
      cases hb : (Nat.beq s s' && (Nat.beq j j0 && Nat.blt j s))
      · simp only [hb, cond_false] at he; subst he; exact bad_vc hvc
      · simp only [hb, cond_true] at he
        subst he
        simp only [Bool.and_eq_true] at hb
        obtain rfl := Nat.eq_of_beq_eq_true hb.1
        obtain rfl := Nat.eq_of_beq_eq_true hb.2.1
        have hj : j < s := Nat.lt_of_lt_of_le (Nat.lt_succ_self j) (Nat.le_of_ble_eq_true hb.2.2)
        have hii : i = i0 := hvc.hd
        have hi : i < n := hvc.tl.hd
        have hm : m = m' := hvc.tl.tl.one
        subst hii
        subst hm
        obtain ⟨hkg, gb, C, bs, cv, T, hl, hh, hsz, hn, hG, hbs⟩ := r.objs _ _ hob
        obtain rfl : vp = .pointer (some ⟨gb, i * s + j, none⟩) := by cases hp with | gptr _ _ h => exact h gb C bs hl
        obtain ⟨hkr, hrow⟩ := r.objs _ _ hor
        have hgr : g ≠ ri := fun e => by rw [e, hor] at hob; cases hob
        -- the row's block
        obtain ⟨D, hD, hDb, hE⟩ : ∃ D : Option Nat, (∀ b, D = some b → ∃ l, blk ri = some l ∧ l.has b) ∧ (∀ b, D = some b → b ∉ bs ∧ b ≠ gb ∧ ∃ cv T, w.heap[b]? = some (.cells cv T (0, 0))) ∧
            ((vd = .slice none 0 0 ∧ m = 0 ∧ D = none) ∨ ∃ b Cb cvb Tb, D = some b ∧ vd = .slice (some ⟨b, 0, none⟩) m Cb ∧ w.heap[b]? = some (.cells cvb Tb (0, 0)) ∧ cvb.size = Cb ∧ m ≤ Cb ∧ ∀ q, q < m → ∃ x, cvb[q]? = some x ∧ oneV x = true ∧ RelC (rdOf w base S0 blk) (c q) x) := by
          rcases hrow with ⟨hln, h0⟩ | ⟨b, Cb, cvb, Tb, hlb, hhb, hszb, hnb, hcb⟩
          · refine ⟨none, fun b h => (by cases h), fun b h => (by cases h), .inl ⟨?_, h0, rfl⟩⟩
            cases hd with | row _ _ h _ _ => exact (h hln).1
          · refine ⟨some b, fun b' h => (by cases h; exact ⟨_, hlb, rfl⟩), fun b' h => ?_, .inr ⟨b, Cb, cvb, Tb, rfl, ?_, hhb, by simpa using hszb, hnb, fun q hq => ?_⟩⟩
            · cases h
              refine ⟨fun hm => hgr (r.inj _ _ _ _ b hl hlb (.inr hm) rfl), fun e => hgr (r.inj _ _ _ _ b hl hlb (.inl e) rfl), _, _, hhb⟩
            · cases hd with
              | row _ _ _ h _ =>
                rcases h b Cb hlb with ⟨h, _⟩ | ⟨h, _⟩
                · simpa using h
                · omega
            · obtain ⟨x, x1, x2, x3⟩ := hcb q 0 c hq rfl
              exact ⟨x, by simpa using x1, x2, x3⟩
        have hone : oneV vd = true := by
          rcases hE with ⟨rfl, _⟩ | ⟨_, _, _, _, _, rfl, _⟩ <;> rfl
        have hcells : vd.cells = #[vd] := by
          rcases hE with ⟨rfl, _⟩ | ⟨_, _, _, _, _, rfl, _⟩ <;> rfl
        have hroom : i * s + j + 1 ≤ cv.size := by
          have : i * s + s ≤ C * s := by rw [← Nat.succ_mul]; exact Nat.mul_le_mul_right _ (by omega)
          omega
        have hrun := storeVar_run (P := P) (w := w) (t := t) (n := 1) (g := gb) (o := i * s + j) (v := vd) (T := T) h1 (by rw [hcells]; rfl) hh hroom (fun u hu => by rw [hcells] at hu; simp at hu; rw [hu]; exact hone)
        have hcl : vd.cells.toList = [vd] := by rw [hcells]
        rw [hcl] at hrun
        refine ⟨rfl, _, fun k => if k = ri then none else if k = g then some (.grid gb C (addD D bs)) else blk k, hrun, ?_⟩
        generalize hcv' : (cv.toList.take (i * s + j) ++ ([vd] ++ cv.toList.drop (i * s + j + 1))).toArray = cv'
        have hget : ∀ k, cv'[k]? = if k = i * s + j then some vd else cv[k]? := fun k => by
          rw [← hcv', List.getElem?_toArray, seg_get' _ _ _ _ 1 rfl (by simpa using hroom)]
          by_cases h3 : k < i * s + j
          · rw [if_pos h3, if_neg (by omega)]; simp
          · rw [if_neg h3]
            by_cases h4 : k = i * s + j
            · rw [if_pos (by omega), if_pos h4, h4]; simp
            · rw [if_neg (by omega), if_neg h4]; simp
        have hsz' : cv'.size = C * s := by
          rw [← hcv', ← hsz]
          simp only [List.size_toArray, List.length_append, List.length_take, List.length_drop, Array.length_toList, List.length_cons, List.length_nil]; omega
        generalize hbs' : (addD D bs) = bs'
        have hsub : ∀ b, b ∈ bs → b ∈ bs' := fun b hb => by
          rw [← hbs']
          unfold addD
          cases D with
          | none => exact hb
          | some b0 => exact List.mem_cons_of_mem _ hb
        have hin : ∀ b, b ∈ bs' → b ∈ bs ∨ D = some b := fun b hb => by
          rw [← hbs'] at hb
          unfold addD at hb
          cases D with
          | none => exact .inl hb
          | some b0 =>
            rcases List.mem_cons.1 hb with rfl | hb
            · exact .inr rfl
            · exact .inl hb
        have hmemD : ∀ b, D = some b → b ∈ bs' := fun b hb => by
          rw [← hbs', hb]; exact List.mem_cons_self
        have hkeep : ∀ k, k ∈ bs' → (w.setRow gb cv').heap[k]? = w.heap[k]? := fun k hk => setRow_other w gb k _ (by
          rcases hin k hk with hk | hk
          · exact (hbs k hk).1
          · exact (hDb k hk).2.1)
        refine r.step (fun k => k = gb) (fun k => k = ri ∨ k = g) (by simp) rfl rfl rfl (fun k _ hk => setRow_other w gb k _ hk) (fun k hk => ⟨g, _, .inr rfl, hl, .inl hk⟩) (fun _ h => h) (fun k h => ?_) (fun k v h hk e => ?_) (fun k l' x h e hg => ?_) (fun k l' h hk e => ?_) rfl rfl rfl (fun _ => rfl) (fun k h => ?_)
          (fun _ mR mC k o h e => ?_) (fun k l' h e => ?_) (fun k k' l1 l2 x h h' e e' g1 g2 => ?_) (fun B hB k x bs2 h e => ?_)
        · rw [not_or] at h
          rw [if_neg h.1, if_neg h.2]
        · rcases h with rfl | rfl
          · rcases hrow with ⟨hln, _⟩ | ⟨_, _, _, _, hlb, _⟩
            · rw [hln] at e; cases e
            · rw [hlb] at e; cases e
          · rw [hl] at e; cases e
        · rcases h with rfl | rfl
          · rw [if_pos rfl] at e; cases e
          · rw [if_neg hgr, if_pos rfl] at e
            cases e
            rcases hg with hg | hg
            · exact .inl ⟨k, _, .inr rfl, hl, .inl hg⟩
            · rcases hin x hg with hg | hg
              · exact .inl ⟨k, _, .inr rfl, hl, .inr hg⟩
              · obtain ⟨l0, e1, e2⟩ := hD x hg
                exact .inl ⟨ri, l0, .inl rfl, e1, e2⟩
        · rcases h with rfl | rfl
          · rw [if_pos rfl] at e; cases e
          · rw [if_neg hgr, if_pos rfl] at e
            cases e
            exact ⟨_, hl, rfl⟩
        · rw [not_or] at h
          unfold St.effH St.obj
          simp only [List.cons_append, List.nil_append, look_cons]
          rw [if_neg (fun e => h.2 e.symm), if_neg (fun e => h.1 e.symm)]
        · rcases h with rfl | rfl
          · exfalso
            revert e
            unfold St.effH St.obj
            simp only [List.cons_append, List.nil_append, look_cons]
            simp only [if_neg hgr, if_true]
            exact fun e => by cases e
          · have e2 : ∀ (x : AObj) (y : List (Nat × Option AObj)), (match look ((k, some x) :: y) k with | some o => o | none => none) = some x := fun x y => by rw [look_cons, if_pos rfl]
            have e : (match look ((k, some (AObj.grid n s (fun i' j' => bif Nat.beq j' j then (if i' = i then m else len i' j') else len i' j') (fun i' j' q => bif Nat.beq j' j then sel (decide (i' = i)) (c q) (col i' j' q) else col i' j' q) none)) :: ((ri, none) :: σ.h)) k with | some o => o | none => none) = some o := e
            rw [e2] at e
            cases e
            refine ⟨hkg, gb, C, bs', cv', T, by rw [if_neg hgr, if_pos rfl], setRow_heap w gb cv cv' T _ hh, hsz', hn, ⟨fun i' j' hi' hj' _ => ?_, fun i1 j1 i2 j2 x m1 C1 m2 C2 a1 a2 a3 a4 _ _ a5 a6 => ?_⟩, fun b hb => ?_⟩
            · rw [hget]
              by_cases he : i' = i ∧ j' = j
              · obtain ⟨rfl, rfl⟩ := he
                refine ⟨vd, if_pos rfl, ?_⟩
                simp only [Nat.beq_refl, cond_true, if_true]
                rcases hE with ⟨h3, h4, _⟩ | ⟨b, Cb, cvb, Tb, h3, h4, h5, h6, h7, h8⟩
                · exact .inl ⟨h3, h4⟩
                · refine .inr ⟨b, Cb, cvb, Tb, h4, hmemD b h3, by rw [hkeep b (hmemD b h3)]; exact h5, h6, h7, fun q hq => ?_⟩
                  obtain ⟨x, x1, x2, x3⟩ := h8 q hq
                  exact ⟨x, x1, x2, sel_sound ⟨fun _ => mC x3, fun h => by simp at h⟩⟩
              · obtain ⟨v', hv', hE'⟩ := hG.ent i' j' hi' hj' (fun h => he (by cases h; exact ⟨rfl, rfl⟩))
                refine ⟨v', by rw [if_neg (fun h => he (gcell_apart hj' hj h))]; exact hv', ?_⟩
                have el : (bif Nat.beq j' j then (if i' = i then m else len i' j') else len i' j') = len i' j' := by
                  cases hq : Nat.beq j' j with
                  | false => rfl
                  | true => rw [cond_true, if_neg (fun h => he ⟨h, Nat.eq_of_beq_eq_true hq⟩)]
                rw [el]
                rcases hE' with h0 | ⟨b, Cb, cvb, Tb, c1, c2, c3, c4, c5, c6⟩
                · exact .inl h0
                · refine .inr ⟨b, Cb, cvb, Tb, c1, hsub b c2, by rw [hkeep b (hsub b c2)]; exact c3, c4, c5, fun q hq => ?_⟩
                  obtain ⟨x, x1, x2, x3⟩ := c6 q hq
                  refine ⟨x, x1, x2, ?_⟩
                  cases hq2 : Nat.beq j' j with
                  | false => exact mC x3
                  | true => exact sel_sound ⟨fun h => absurd ⟨of_decide_eq_true h, Nat.eq_of_beq_eq_true hq2⟩ he, fun _ => mC x3⟩
            · rw [hget] at a6 ⊢
              have old : ∀ i1 j1, i1 < n → j1 < s → ¬ (i1 = i ∧ j1 = j) → ∀ x m C, cv[i1 * s + j1]? = some (.slice (some ⟨x, 0, none⟩) m C) → x ∈ bs := fun i1 j1 a1 a2 hne x m C hx => by
                obtain ⟨v', hv', hE'⟩ := hG.ent i1 j1 a1 a2 (fun h => hne (by cases h; exact ⟨rfl, rfl⟩))
                rw [hx] at hv'
                cases hv'
                rcases hE' with ⟨h0, _⟩ | ⟨b, Cb, cvb, Tb, c1, c2, _⟩
                · cases h0
                · cases c1; exact c2
              have new : ∀ x m C, vd = .slice (some ⟨x, 0, none⟩) m C → x ∉ bs := fun x m C hx => by
                rcases hE with ⟨h3, _⟩ | ⟨b, Cb, _, _, h3, h4, _⟩
                · rw [h3] at hx; cases hx
                · rw [h4] at hx; cases hx; exact (hDb x h3).1
              by_cases e1 : i1 = i ∧ j1 = j
              · by_cases e2 : i2 = i ∧ j2 = j
                · exact absurd (by rw [e1.1, e1.2, e2.1, e2.2]) a5
                · rw [if_pos (by rw [e1.1, e1.2])] at a6
                  rw [if_neg (fun h => e2 (gcell_apart a4 hj h))]
                  intro a7
                  exact new x m1 C1 (Option.some.inj a6) (old i2 j2 a3 a4 e2 x m2 C2 a7)
              · rw [if_neg (fun h => e1 (gcell_apart a2 hj h))] at a6
                by_cases e2 : i2 = i ∧ j2 = j
                · rw [if_pos (by rw [e2.1, e2.2])]
                  intro a7
                  exact new x m2 C2 (Option.some.inj a7) (old i1 j1 a1 a2 e1 x m1 C1 a6)
                · rw [if_neg (fun h => e2 (gcell_apart a4 hj h))]
                  exact hG.sep i1 j1 i2 j2 x m1 C1 m2 C2 a1 a2 a3 a4 (fun h => e1 (by cases h; exact ⟨rfl, rfl⟩)) (fun h => e2 (by cases h; exact ⟨rfl, rfl⟩)) a5 a6
            · rw [hkeep b hb]
              rcases hin b hb with hb | hb
              · exact hbs b hb
              · exact (hDb b hb).2
        · rcases h with rfl | rfl
          · rw [if_pos rfl] at e; cases e
          · exact ⟨_, by unfold St.effH St.obj; simp only [List.cons_append, look_cons, if_true]; rfl⟩
        · rcases h with rfl | rfl
          · rw [if_pos rfl] at e; cases e
          · rcases h' with rfl | rfl
            · rw [if_pos rfl] at e'; cases e'
            · rfl
        · rcases h with rfl | rfl
          · rw [if_pos rfl] at e; cases e
          · rw [if_neg hgr, if_pos rfl] at e; cases e
    · subst he; exact bad_vc hvc
  · subst he; exact bad_vc hvc
theorem evLoadO_sound (r : R base w0 S0 σ kn blk a w) {id : Nat} (hid : ¬ kn id) {t : TypeId} {p : DV} {v : Value} {e : Eff} (he : evLoadO P σ.obj id t p = e) (hvc : AllP e.vc)
    (hv : Rel (rdOf w base S0 blk) kn blk p v) : Runs P base w0 S0 σ kn a w id (Instr.loadAt t v) e := by
  unfold evLoadO at he
  split at he
  · exact evGout_sound r hid he hvc hv
  · subst he
    exact (evLoad_sound r hvc hv).runs r
theorem evStoreO_sound (r : R base w0 S0 σ kn blk a w) {t : TypeId} {p d : DV} {vp vd : Value} {e : Eff} (he : evStoreO P σ.obj t p d = e) (hvc : AllP e.vc)
    (hp : Rel (rdOf w base S0 blk) kn blk p vp) (hd : Rel (rdOf w base S0 blk) kn blk d vd) :
    e.d = .any ∧ ∃ w' blk', (Instr.storeAt t vp vd).run P w = .ok () w' ∧ R base w0 S0 (σ.effH e) kn blk' a w' := by
  unfold evStoreO at he
  split at he
  · exact evGin_sound r he hvc hp hd
  · obtain ⟨h1, w', h2, h3⟩ := evStore_sound r he hvc hp hd
    exact ⟨h1, w', blk, h2, h3⟩
end
end Go.Abs
