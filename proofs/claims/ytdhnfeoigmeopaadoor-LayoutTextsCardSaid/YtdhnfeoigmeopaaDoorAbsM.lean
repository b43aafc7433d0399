/- One operation, whichever it is. -/
import Derived.Test.YtdhnfeoigmeopaaDoorAbsLG
import Derived.Test.YtdhnfeoigmeopaaDoorAbsKC
import Derived.CallsIn
import Derived.Deep.Slices
import Derived.Laws.Slices
import Derived.Laws.Strings2
import Derived.Laws.BytesArg
import Derived.Deep.OwnRows
import Derived.OrdersIn
namespace Go.Abs
open Go.RowKit
abbrev FW (ro : Option Nat) : Fence := { Fence.wide with round := ro }
theorem callsFW {ro : Option Nat} {m : Nat} {P : Program} {f : FuncId} {vs : Array Value} {w : World} {R : Ending → World → Prop} (h : Calls P f vs w R) : CallsIn (FW ro) m P f vs w R :=
  have h' : CallsIn Fence.wide m P f vs w R := callsIn_wide.2 h
  h'
section
variable {P : Program} {ro : Option Nat} {m : Nat} {base : Nat} {w0 w w' : World} {S0 : Env} {σ σ' : St} {kn : Nat → Prop} {blk : Nat → Option Loc} {a : Act}
def After (base : Nat) (w0 : World) (S0 : Env) (σ : St) (kn : Nat → Prop) (id : Nat) (a : Act) (w : World) : Prop :=
  ∃ kn' blk', R base w0 S0 σ kn' blk' a w ∧ ∀ i, kn' i → kn i ∨ i = id
theorem look_inM {α : Type} : ∀ {l : List (Nat × α)} {i : Nat} {v : α}, look l i = some v → (i, v) ∈ l
  | (k, u) :: r, i, v, h => by
    rw [look_cons] at h
    split at h
    · rename_i e; cases h; subst e; exact List.mem_cons_self
    · exact List.mem_cons_of_mem _ (look_inM h)
theorem R.ev (r : R base w0 S0 σ kn blk a w) (y : Operand) : Rel (rdOf w base S0 blk) kn blk (σ.ev y) (a.eval y) := by
  cases y with
  | tmp t => exact r.tmps t
  | const v => exact .val v
  | global g =>
    show Rel _ kn blk (match look gl g with | some cs => DV.cptr cs | none => DV.any) _
    cases hl : look gl g with
    | none => exact .any _
    | some cs => exact r.shp _ _ (List.mem_append_left _ (shG_mem (look_inM hl)))
  | func f => exact .val _
theorem condVC_spec : ∀ {l : List Operand}, AllP (condVC σ l) → ∀ y ∈ l, ∀ b, (σ.ev y).cond? = some b → b = true
  | [], _, y, hy => by cases hy
  | x :: l, h, y, hy => by
    intro b hb
    simp only [condVC] at h
    cases hx : (σ.ev x).cond? with
    | none =>
      simp only [hx] at h
      rcases List.mem_cons.1 hy with rfl | hy
      · rw [hx] at hb; cases hb
      · exact condVC_spec h y hy b hb
    | some c =>
      simp only [hx] at h
      rcases List.mem_cons.1 hy with rfl | hy
      · rw [hx] at hb; cases hb; exact h.hd
      · exact condVC_spec h.tl y hy b hb
theorem R.put_eff {e : Eff} (r : R base w0 S0 (σ.effH e) kn blk a w) {dst : Option Tmp} {v : Value} (hdst : dstOK σ.nt σ.lo dst = true) (hv : Rel (rdOf w base S0 blk) kn blk e.d v) :
    R base w0 S0 (σ.eff dst e) kn blk (a.put dst v) w := by
  cases dst with
  | none => exact r
  | some t =>
    obtain ⟨ht, hlo⟩ : t < σ.nt ∧ σ.lo ≤ t := by
      simp only [dstOK] at hdst
      cases h : Nat.ble σ.lo t
      · simp [h] at hdst
      · simp only [h, cond_true] at hdst
        exact ⟨Nat.le_of_ble_eq_true (show Nat.ble (t + 1) σ.nt = true from hdst), Nat.le_of_ble_eq_true h⟩
    exact R.put r ht hlo hv
theorem wp_runs {o : Oper} (hnd : ∀ c, o.op ≠ .defer c) {K : Act → World → Prop} {Q : Exit → Act → World → Prop} {s : Sem Value} {id : Nat} {e : Eff} (hex : execOp a.eval o = (do pure (.value (← s)))) (h : Runs P base w0 S0 σ kn a w id s e)
    (hdst : dstOK σ.nt σ.lo o.dst = true) (hK : ∀ a' w', After base w0 S0 (σ.eff o.dst e) kn id a' w' → K a' w') : o.wpIn (FW ro) m P a w K Q := by
  obtain ⟨v, w', hr, kn', blk', hR, hv, hk⟩ := h
  unfold Oper.wpIn
  refine ⟨fun _ _ => trivial, ?_⟩
  rw [Oper.semAt_eq _ _ _ hnd, hex]
  simp only [Sem.run_bind, hr, Result.andThen_ok, Sem.run_pure]
  exact hK _ _ ⟨kn', blk', R.put_eff hR hdst hv, hk⟩
theorem wp_value {o : Oper} (hnd : ∀ c, o.op ≠ .defer c) {K : Act → World → Prop} {Q : Exit → Act → World → Prop} {id : Nat} {e : Eff} {v : Value} (r : R base w0 S0 σ kn blk a w) (hw : e.hw = []) (hex : execOp a.eval o = pure (.value v)) (hv : Rel (rdOf w base S0 blk) kn blk e.d v)
    (hdst : dstOK σ.nt σ.lo o.dst = true) (hK : ∀ a' w', After base w0 S0 (σ.eff o.dst e) kn id a' w' → K a' w') : o.wpIn (FW ro) m P a w K Q := by
  have h : σ.effH e = σ := by unfold St.effH; rw [hw]; rfl
  unfold Oper.wpIn
  refine ⟨fun _ _ => trivial, ?_⟩
  rw [Oper.semAt_eq _ _ _ hnd, hex]
  exact hK _ _ ⟨kn, blk, R.put_eff (by rw [h]; exact r) hdst hv, fun _ h => .inl h⟩
theorem parts_of {x : Operand → DV} {rd : Rd} : ∀ (l : List (Nat × Operand)), (∀ p ∈ l, Rel rd kn blk (x p.2) (a.eval p.2)) → Parts rd kn blk (l.map fun p => (p.1, x p.2)) (l.map fun p => (p.1, a.eval p.2))
  | [], _ => .nil
  | p :: l, h => .cons (h p List.mem_cons_self) (parts_of l fun q hq => h q (List.mem_cons_of_mem _ hq))
theorem callFunc_run {f : FuncId} {vs : Array Value} (h : Callable P f) (w : World) : (callFunc f vs).run P w = .ok (.enter f vs) w := by
  obtain ⟨fn, h1, h2, h3⟩ := h
  simp only [callFunc, Sem.run_bind, run_program, Result.andThen_ok, h1, h3, h2, Bool.false_eq_true, if_false]
  rfl
theorem wp_call {o : Oper} (hnd : ∀ c, o.op ≠ .defer c) {K : Act → World → Prop} {Q : Exit → Act → World → Prop} {id : Nat} {e : Eff} {f : FuncId} {vs : Array Value} (hex : (execOp a.eval o).run P w = .ok (.enter f vs) w)
    (hc : Callable P f ∧ Calls P f vs w fun en w' => ∃ v kn' blk', en = .returned v ∧ R base w0 S0 (σ.effH e) kn' blk' a w' ∧ Rel (rdOf w' base S0 blk') kn' blk' e.d v ∧ ∀ i, kn' i → kn i ∨ i = id)
    (hdst : dstOK σ.nt σ.lo o.dst = true) (hK : ∀ a' w', After base w0 S0 (σ.eff o.dst e) kn id a' w' → K a' w') : o.wpIn (FW ro) m P a w K Q := by
  obtain ⟨_, hc⟩ := hc
  unfold Oper.wpIn
  refine ⟨fun _ _ => trivial, ?_⟩
  rw [Oper.semAt_eq _ _ _ hnd, hex, Oper.uponIn_enter]
  refine ⟨fun h => (by cases h), CallsIn.mono (callsFW hc) fun en w' hx => ?_⟩
  obtain ⟨v, kn', blk', hen, hR, hrel, hkn⟩ := hx
  subst hen
  exact hK _ _ ⟨kn', blk', R.put_eff hR hdst hrel, hkn⟩
theorem evMakeSlice_sound (r : R base w0 S0 σ kn blk a w) {id : Nat} (hid : ¬ kn id) {t : TypeId} {d1 d2 : DV} {v1 v2 : Value} {e : Eff} (he : evMakeSlice P id t d1 d2 = e) (hvc : AllP e.vc)
    (h1 : Rel (rdOf w base S0 blk) kn blk d1 v1) (h2 : Rel (rdOf w base S0 blk) kn blk d2 v2) : Runs P base w0 S0 σ kn a w id (Instr.makeSlice t v1 v2) e := by
  unfold evMakeSlice at he
  split at he
  · rename_i k n k' c
    cases h1; cases h2
    split at he
    · rename_i el hu
      split at he
      · rename_i i cs hi hz
        cases hb : (Nat.beq cs.length i.size && Nat.ble 1 cs.length) with
        | false => simp only [hb, cond_false] at he; subst he; exact bad_vc hvc
        | true =>
          simp only [hb, cond_true] at he
          simp only [Bool.and_eq_true] at hb
          subst he
          obtain ⟨g0, rfl, g2, g3⟩ := hvc.one
          have hsz := Nat.eq_of_beq_eq_true hb.1
          have h1s := Nat.le_of_ble_eq_true hb.2
          unfold tZero at hz
          rw [hi] at hz
          simp only at hz
          cases hzz : i.zero with
          | none => rw [hzz] at hz; cases hz
          | some z =>
            rw [hzz] at hz
            simp only at hz
            obtain ⟨q1, q2, q3⟩ := (Rel.val (rd := rdOf w base S0 blk) (kn := fun _ => False) (blk := fun _ => none) z).cells hz
            have hrun := run_make (P := P) (w := w) t el i z hu hi hzz k k' n n g0 (Int.le_refl _) (by have : (n.toNat : Int) = n := Int.toNat_of_nonneg g0; rw [← this, ← Int.natCast_mul]; exact Int.ofNat_le.2 g3) (by omega)
            refine newRowRuns r hid (by simp) (by rw [size_madeCells, hsz]) (fun a b f ha hbf => ?_) hrun
            have hlen : (cs.map fun d (_ : Nat) => d).length = cs.length := by simp
            rw [hlen]
            have hblt : b < cs.length := by
              have := (List.getElem?_eq_some_iff.1 hbf).1
              simpa using this
            rw [List.getElem?_map, List.getElem?_eq_getElem hblt] at hbf
            simp only [Option.map_some, Option.some.injEq] at hbf
            subst hbf
            have hzb : b < z.cells.size := by omega
            have hin : a * cs.length + b < n.toNat * i.size := by
              rw [← hsz]
              calc a * cs.length + b < a * cs.length + cs.length := by omega
                _ = (a + 1) * cs.length := by rw [Nat.add_mul]; omega
                _ ≤ n.toNat * cs.length := Nat.mul_le_mul_right _ ha
            have hmod : (a * cs.length + b) % z.cells.size = b := by
              rw [q1, Nat.mul_comm, Nat.mul_add_mod, Nat.mod_eq_of_lt hblt]
            refine ⟨z.cells[b], ?_, q3 _ (by simp), q2 b _ _ (List.getElem?_eq_getElem hblt) (by simp)⟩
            simp only [madeCells]
            rw [Array.getElem?_map, Array.getElem?_range, if_pos hin]
            simp only [Option.map_some, hmod]
            rw [getElem!_pos z.cells b hzb]
      · subst he; exact bad_vc hvc
    · subst he; exact bad_vc hvc
  · subst he; exact bad_vc hvc
theorem evMakeSliceO_sound (r : R base w0 S0 σ kn blk a w) {id : Nat} (hid : ¬ kn id) {t : TypeId} {oc : Orc} {d1 d2 : DV} {v1 v2 : Value} {e : Eff} (he : evMakeSliceO P oc id t d1 d2 = e) (hvc : AllP e.vc)
    (h1 : Rel (rdOf w base S0 blk) kn blk d1 v1) (h2 : Rel (rdOf w base S0 blk) kn blk d2 v2) : Runs P base w0 S0 σ kn a w id (Instr.makeSlice t v1 v2) e := by
  unfold evMakeSliceO at he
  split at he
  · exact evMakeGrid_sound r hid he hvc h1 h2
  · exact evMakeSlice_sound r hid he hvc h1 h2
set_option maxHeartbeats 4000000 in
theorem slice_run {P : Program} {w : World} {t e : TypeId} {s len c : Nat} {A : Option Addr} {vlo vhi : Option Value} {l h : Int} (hu : P.underlying t = some (.slice e)) (hsz : tSize P e = some s)
    (hlo : (vlo = none ∧ l = 0) ∨ ∃ k, vlo = some (.int k l)) (hhi : (vhi = none ∧ h = len) ∨ ∃ k, vhi = some (.int k h)) (h0 : 0 ≤ l) (h1 : l ≤ h) (h2 : h ≤ len) (h3 : len ≤ c) :
    (Instr.sliceAt t (.slice A len c) vlo vhi none).run P w = .ok (sliced A l.toNat h.toNat c s) w := by
  have he : P.elem t = e := by simp [Program.elem, hu]
  have ht : P.underlying t = some (.slice (P.elem t)) := by rw [he, hu]
  rw [run_sliceAt_slice w t _ _ _ _ ht]
  have hz := tSize_run hsz w
  rcases hlo with ⟨rfl, rfl⟩ | ⟨kl, rfl⟩ <;> rcases hhi with ⟨rfl, rfl⟩ | ⟨kh, rfl⟩
  · rw [run_slice_all w t A len c ht, he, hz]; simp [Result.andThen]
  · rw [run_slice_h w t A len c ht kh h h1 (by omega), he, hz]; simp [Result.andThen]
  · rw [run_slice_l w t A len c ht kl l h0 h1, he, hz]; simp [Result.andThen]
  · rw [run_slice_lh w t A len c ht kl kh l h h0 h1 (by omega), he, hz]; simp [Result.andThen]
theorem sliceStr_run {P : Program} {w : World} {t : TypeId} {s : ByteArray} {vlo vhi : Option Value} {l h : Int} (hu : P.underlying t = some .string)
    (hlo : (vlo = none ∧ l = 0) ∨ ∃ k, vlo = some (.int k l)) (hhi : (vhi = none ∧ h = (s.size : Int)) ∨ ∃ k, vhi = some (.int k h)) (h0 : 0 ≤ l) (h1 : l ≤ h) (h2 : h ≤ (s.size : Int)) :
    (Instr.sliceAt t (.string s) vlo vhi none).run P w = .ok (.string (s.extract l.toNat h.toNat)) w := by
  rw [run_sliceAt_string w t _ _ _ _ hu]
  rcases hlo with ⟨rfl, rfl⟩ | ⟨kl, rfl⟩ <;> rcases hhi with ⟨rfl, rfl⟩ | ⟨kh, rfl⟩
  · rw [run_slice_string_all w t s hu]; rfl
  · rw [run_slice_string_h w t s hu kh h h1 h2]; rfl
  · rw [run_slice_string_l w t s hu kl l h0 h1]; rfl
  · rw [run_slice_string w t s kl kh l h hu h0 h1 h2]
theorem bnd_sound {rd : Rd} {kn : Nat → Prop} {blk : Nat → Option Loc} {lo : Option DV} {vlo : Option Value} {n l : Int} (hr : (lo = none ∧ vlo = none) ∨ ∃ d u, lo = some d ∧ vlo = some u ∧ Rel rd kn blk d u) (h : bnd n lo = some l) :
    (vlo = none ∧ l = n) ∨ ∃ k, vlo = some (.int k l) := by
  rcases hr with ⟨rfl, rfl⟩ | ⟨d, u, rfl, rfl, hd⟩
  · cases h; exact .inl ⟨rfl, rfl⟩
  · cases hd <;> try (cases h)
    cases u <;> try (cases h)
    exact .inr ⟨_, rfl⟩
theorem evSlice_sound (r : R base w0 S0 σ kn blk a w) {t : TypeId} {x : DV} {v : Value} {lo hi : Option DV} {vlo vhi : Option Value} {e : Eff} (he : evSlice P σ.obj t x lo hi = e) (hvc : AllP e.vc)
    (hlo : (lo = none ∧ vlo = none) ∨ ∃ d u, lo = some d ∧ vlo = some u ∧ Rel (rdOf w base S0 blk) kn blk d u) (hhi : (hi = none ∧ vhi = none) ∨ ∃ d u, hi = some d ∧ vhi = some u ∧ Rel (rdOf w base S0 blk) kn blk d u)
    (hv : Rel (rdOf w base S0 blk) kn blk x v) : Still P base S0 kn blk w (Instr.sliceAt t v vlo vhi none) e := by
  unfold evSlice at he
  split at he
  · rename_i el hu
    split at he
    · rename_i s hsz
      split at he
      · rename_i s' id off len
        cases hb : Nat.beq s s' && isRow σ.obj id s
        · simp only [hb, cond_false] at he; subst he; exact bad_vc hvc
        · simp only [hb, cond_true] at he
          simp only [Bool.and_eq_true] at hb
          obtain rfl := Nat.eq_of_beq_eq_true hb.1
          split at he
          · rename_i l h hl hh
            subst he
            obtain ⟨h0, h1, h2⟩ : 0 ≤ l ∧ l ≤ h ∧ h ≤ (len : Int) := hvc.one
            have bl := bnd_sound hlo hl
            have bh := bnd_sound hhi hh
            obtain ⟨hkn, ⟨rfl, rfl, rfl, hln⟩ | ⟨g, C, rfl, hC, hlg⟩ | ⟨ho, rfl, p, c, rfl⟩⟩ := row_val r hb.2 hv
            · have hrun := slice_run (w := w) (c := 0) (A := none) hu hsz bl bh h0 h1 h2 (Nat.le_refl _)
              refine ⟨rfl, _, hrun, .row hkn ⟨none, 0 - l.toNat, ?_, fun _ => by omega⟩ (fun _ => ?_) (fun g C e => ?_) (fun g o C e => by rw [hln] at e; cases e)⟩
              · simp [sliced]
              · have e1 : l.toNat = 0 := by omega
                have e2 : h.toNat = 0 := by omega
                simp [sliced, e1, e2]
              · rw [hln] at e; cases e
            · have hrun := slice_run (w := w) (c := C - off) (A := some ⟨g, off * s, none⟩) hu hsz bl bh h0 h1 h2 (by omega)
              refine ⟨rfl, _, hrun, .row hkn ⟨if C - off = l.toNat then some ⟨g, off * s, none⟩ else some (Addr.add ⟨g, off * s, none⟩ (l.toNat * s)), C - off - l.toNat, ?_, fun h => by split at h <;> cases h⟩ (fun e => ?_) (fun g' C' e => ?_) (fun g' o' C' e => by rw [hlg] at e; cases e)⟩
              · simp only [sliced]
                split <;> rfl
              · rw [hlg] at e; cases e
              · rw [hlg] at e
                cases e
                by_cases hcl : C - off = l.toNat
                · by_cases hl0 : l.toNat = 0
                  · left
                    simp only [sliced, hl0, Nat.add_zero, Nat.sub_zero]
                    refine ⟨?_, by omega⟩
                    rw [if_pos (by omega)]
                  · right; omega
                · left
                  simp only [sliced, if_neg hcl, Option.map_some]
                  refine ⟨?_, by omega⟩
                  rw [add_off, ← Nat.add_mul, Nat.sub_sub]
            · have hrun := slice_run (w := w) (c := c) (A := p) hu hsz bl bh h0 h1 h2 (Nat.zero_le _)
              have e1 : l.toNat = 0 := by omega
              have e2 : h.toNat = 0 := by omega
              refine ⟨rfl, _, hrun, .row hkn ⟨if c = 0 then p else p.map (·.add (0 * s)), c - 0, ?_, fun _ => by omega⟩ (fun e => ?_) (fun g C e => .inr ⟨by omega, by omega⟩) (fun g o C e => .inr ⟨by omega, by omega⟩)⟩
              · simp only [sliced, e1, e2]
              · cases hv with
                | row _ _ hz _ _ =>
                  obtain ⟨_, hz2, _⟩ := hz e
                  omega
          · subst he; exact bad_vc hvc
      · rename_i n cols
        cases hb : Nat.beq cols.length s
        · simp only [hb, cond_false] at he; subst he; exact bad_vc hvc
        · simp only [hb, cond_true] at he
          obtain rfl := Nat.eq_of_beq_eq_true hb
          split at he
          · rename_i l h hl hh
            subst he
            obtain ⟨h0, h1, h2⟩ : 0 ≤ l ∧ l ≤ h ∧ h ≤ (n : Int) := hvc.one
            have bl := bnd_sound hlo hl
            have bh := bnd_sound hhi hh
            cases hv with
            | lst U hc ha hn hone hr =>
              rename_i A c
              have hrun := slice_run (w := w) (c := c) (A := A) hu hsz bl bh h0 h1 h2 hc
              have get : ∀ (j : Nat) (f : Nat → DV), (cols.map fun c i => c (i + l.toNat))[j]? = some f → ∃ f', cols[j]? = some f' ∧ f = fun i => f' (i + l.toNat) := fun j f hf => by
                rw [List.getElem?_map] at hf
                cases hcj : cols[j]? with
                | none => simp [hcj] at hf
                | some f' => simp only [hcj, Option.map_some, Option.some.injEq] at hf; exact ⟨f', rfl, hf.symm⟩
              refine ⟨rfl, _, hrun, .lst (fun i j => U (i + l.toNat) j) (by omega) (fun i j f hi hf => ?_) (fun hp => ?_) (fun i j f hi hf => ?_) fun i j f hi hf => ?_⟩
              · obtain ⟨f', hf', _⟩ := get j f hf
                obtain ⟨ad, rfl, hrd⟩ := ha (i + l.toNat) j f' (by omega) hf'
                refine ⟨ad.add (l.toNat * cols.length), ?_, ?_⟩
                · rw [if_neg (by omega)]; rfl
                · rw [List.length_map, Go.Deep.add_add, ← Nat.add_assoc, Nat.add_comm (l.toNat * cols.length), ← Nat.add_mul]
                  exact hrd
              · have := hn (by omega)
                cases A with
                | none => exact absurd rfl this
                | some ad => split <;> simp
              · obtain ⟨f', hf', _⟩ := get j f hf
                exact hone _ _ f' (by omega) hf'
              · obtain ⟨f', hf', rfl⟩ := get j f hf
                exact hr _ _ f' (by omega) hf'
          · subst he; exact bad_vc hvc
      · split at he
        · rename_i l h hl hh
          subst he
          obtain ⟨rfl, rfl⟩ : l = 0 ∧ h = 0 := hvc.one
          cases hv
          have hrun := slice_run (w := w) (c := 0) (len := 0) (A := none) hu hsz (bnd_sound hlo hl) (bnd_sound hhi hh) (Int.le_refl _) (Int.le_refl _) (by omega) (Nat.le_refl _)
          refine ⟨rfl, _, hrun, ?_⟩
          exact .val _
        · subst he; exact bad_vc hvc
      · subst he; exact bad_vc hvc
    · subst he; exact bad_vc hvc
  · rename_i hu
    split at he
    · rename_i s
      split at he
      · rename_i l h hl hh
        subst he
        obtain ⟨h0, h1, h2⟩ : 0 ≤ l ∧ l ≤ h ∧ h ≤ (s.size : Int) := hvc.one
        cases hv
        exact ⟨rfl, _, sliceStr_run hu (bnd_sound hlo hl) (bnd_sound hhi hh) h0 h1 h2, .val _⟩
      · subst he; exact bad_vc hvc
    · subst he; exact bad_vc hvc
  · subst he; exact bad_vc hvc
theorem evConvS_sound (r : R base w0 S0 σ kn blk a w) {src dst : TypeId} {d : DV} {v : Value} {e : Eff} (he : evConvS P σ.obj src dst d = e) (hvc : AllP e.vc) (hv : Rel (rdOf w base S0 blk) kn blk d v) :
    Still P base S0 kn blk w (convert src dst v) e := by
  unfold evConvS at he
  split at he
  · rename_i el hu
    split at he
    · rename_i hel hds
      split at he
      · rename_i s id off len
        unfold convRow at he
        split at he
        · rename_i n c hob
          split at he
          · rename_i l hal
            subst he
            have hln : len ≤ n := hvc.one
            have hcs := allInts_sound hal
            have hlen : l.length = len := by have := congrArg List.length hcs; simpa using this.symm
            have hget : ∀ i, i < len → c i = .val (.int .u8 (l.getD i 0)) := fun i hi => by
              have h1 : ((List.range len).map c)[i]? = some (c i) := by simp [hi]
              have h2 : (l.map fun n => DV.val (.int .u8 n))[i]? = some (.val (.int .u8 (l.getD i 0))) := by
                have hil : i < l.length := by omega
                simp [List.getElem?_eq_getElem hil, List.getD]
              rw [hcs, h2] at h1
              exact (Option.some.inj h1).symm
            have hne : 0 < len := by
              rcases Nat.eq_zero_or_pos len with h0 | h0
              · subst h0; simp [allInts] at hal
              · exact h0
            have hisr : isRow σ.obj id 1 = true := by unfold isRow; rw [hob]; rfl
            obtain ⟨hkn, ⟨rfl, _, h0, _⟩ | ⟨g, C, rfl, hC, hlg⟩ | ⟨h0, h1, _⟩⟩ := row_val r hisr hv
            · omega
            · obtain ⟨_, hor⟩ := r.objs _ _ hob
              rcases hor with ⟨hl2, _⟩ | ⟨g', C', cv, T, hl2, hh, hsz, hn2, hcells⟩
              · rw [hlg] at hl2; cases hl2
              · rw [hlg] at hl2
                cases hl2
                refine ⟨rfl, _, run_convert_bytes_arg w src el hu hel g 0 len (C - 0) l hlen (fun i hi => ?_) dst hds, .val _⟩
                obtain ⟨u, hu2, _, hr⟩ := hcells i 0 c (by omega) rfl
                rw [hget i hi] at hr
                cases hr
                have hu3 : cv[i]? = some (.int .u8 (l.getD i 0)) := by simpa using hu2
                show w.cell? ⟨g, 0 + i, none⟩ = _
                rw [Nat.zero_add]
                simp [World.cell?, hh, hu3]
            · omega
          · subst he; exact bad_vc hvc
        · subst he; exact bad_vc hvc
      · subst he; exact bad_vc hvc
    · subst he; exact bad_vc hvc
  · rename_i q hq _
    exact evConv_sound ⟨q, by assumption⟩ he hvc hv
  · subst he; exact bad_vc hvc
theorem baseEff_sound (r : R base w0 S0 σ kn blk a w) {id q s s' len n : Nat} {cols : List (Nat → DV)} (hid : ¬ kn id) {t el : TypeId} {v : Value} {lo : Option DV} {vlo : Option Value} {e : Eff} (hu : P.underlying t = some (.slice el)) (hsz : tSize P el = some s)
    (hob : σ.obj q = some (.row n cols) ∨ σ.obj q = some (.srow n cols)) (he : baseEff s s' id q len n cols (bnd 0 lo) = e) (hvc : AllP e.vc)
    (hlo : (lo = none ∧ vlo = none) ∨ ∃ d u, lo = some d ∧ vlo = some u ∧ Rel (rdOf w base S0 blk) kn blk d u) (hv : Rel (rdOf w base S0 blk) kn blk (.row s' q 0 len) v) : Runs P base w0 S0 σ kn a w id (Instr.sliceAt t v vlo none none) e := by
  unfold baseEff at he
  split at he
  · rename_i l hl
    cases hbb : (Nat.beq s s' && Nat.beq cols.length s)
    · simp only [hbb, cond_false] at he; subst he; exact bad_vc hvc
    · simp only [hbb, cond_true] at he
      simp only [Bool.and_eq_true] at hbb
      obtain rfl := Nat.eq_of_beq_eq_true hbb.1
      have hcl := Nat.eq_of_beq_eq_true hbb.2
      subst he
      obtain ⟨h0, h1, hln⟩ := hvc.one
      have bl := bnd_sound hlo hl
      have hisr : isRowA σ.obj q s = true := by
        unfold isRowA
        rcases hob with hob | hob <;> rw [hob] <;> exact hbb.2
      obtain ⟨hkq, hrow⟩ := row_valA r hisr hv
      have hor : (blk q = some .nil ∧ n = 0) ∨ ∃ g o C cv T, (blk q = some (.sub g o C) ∨ (blk q = some (.at_ g C) ∧ o = 0)) ∧ w.heap[g]? = some (.cells cv T (0, 0)) ∧ o + C * cols.length ≤ cv.size ∧ n ≤ C ∧
          ∀ (i j : Nat) (f : Nat → DV), i < n → cols[j]? = some f → ∃ u, cv[o + (i * cols.length + j)]? = some u ∧ oneV u = true ∧ RelC (rdOf w base S0 blk) (f i) u := by
        rcases hob with hob | hob
        · rcases (r.objs _ _ hob).2 with h | ⟨g, C, cv, T, x1, x2, x3, x4, x5⟩
          · exact .inl h
          · exact .inr ⟨g, 0, C, cv, T, .inr ⟨x1, rfl⟩, x2, by rw [Nat.zero_add, x3]; exact Nat.le_refl _, x4, fun i j f a b => by rw [Nat.zero_add]; exact x5 i j f a b⟩
        · exact (r.objs _ _ hob).2
      have hq : ∀ l, blk q = some l → l = .nil ∨ ∃ g, l.atG g := fun l e => by
        rcases hor with ⟨h, _⟩ | ⟨g, o, C, _, _, h, _⟩
        · rw [e] at h; cases h; exact .inl rfl
        · rcases h with h | ⟨h, _⟩ <;> rw [e] at h <;> cases h
          · exact .inr ⟨_, .inr ⟨_, _, rfl⟩⟩
          · exact .inr ⟨_, .inl ⟨_, rfl⟩⟩
      have mv := r.moverS (q := q) (o := .srow (len - l.toNat) (cols.map fun c i => c (i + l.toNat))) hid hq (D := blkE blk q) (fun g hg => blkE_some hg)
      rcases hrow with ⟨rfl, _, rfl, hb0⟩ | ⟨g, o, C, rfl, hC, hb0⟩ | ⟨hx, _⟩
      rotate_left 2
      · omega
      · have hrun := slice_run (P := P) (w := w) (c := 0) (A := none) (vlo := vlo) (vhi := none) (h := ((0 : Nat) : Int)) hu hsz bl (.inl ⟨rfl, rfl⟩) h0 h1 (Int.le_refl _) (Nat.le_refl _)
        have e1 : l.toNat = 0 := by omega
        refine ⟨_, w, hrun, _, _, mv .nil w (.inl rfl) (Nat.le_refl _) rfl rfl rfl (fun _ => Nat.le_refl _) (fun _ _ _ => rfl) (fun _ => .inl ⟨rfl, by omega⟩), .row (.inr rfl) ⟨none, 0, ?_, fun _ => by omega⟩ (fun _ => ⟨?_, rfl, by omega⟩) (fun g C h => by simp at h) (fun g o C h => by simp at h), fun _ h => h⟩
        · simp [sliced, e1]
        · simp [sliced, e1]
      · rcases hor with ⟨h4, _⟩ | ⟨g', o', C', cv, T, h4, hh, hsz', hn', hrel⟩
        · rcases hb0 with h3 | ⟨h3, _⟩ <;> rw [h3] at h4 <;> cases h4
        · have hqq : g' = g ∧ o' = o ∧ C' = C ∧ blkE blk q = some g := by
            rcases hb0 with h3 | ⟨h3, rfl⟩ <;> rcases h4 with h4 | ⟨h4, rfl⟩ <;> rw [h3] at h4 <;> cases h4 <;> exact ⟨rfl, rfl, rfl, by simp only [blkE, h3]⟩
          obtain ⟨rfl, rfl, rfl, hbe⟩ := hqq
          have hrun := slice_run (P := P) (w := w) (c := C' - 0) (A := some ⟨g', o' + 0 * s, none⟩) (vlo := vlo) (vhi := none) (h := ((len : Nat) : Int)) hu hsz bl (.inl ⟨rfl, rfl⟩) h0 h1 (Int.le_refl _) (by omega)
          simp only [Nat.zero_mul, Nat.add_zero, Nat.sub_zero, Int.toNat_natCast] at hrun
          simp only [Nat.zero_mul, Nat.add_zero, Nat.sub_zero]
          have hlC : l.toNat ≤ C' := by omega
          by_cases hcl2 : C' = l.toNat
          · have hlen : len - l.toNat = 0 := by omega
            refine ⟨_, w, hrun, _, _, mv (.sub g' o' 0) w (.inr ⟨g', .inr ⟨_, _, rfl⟩, .inl hbe⟩) (Nat.le_refl _) rfl rfl rfl (fun _ => Nat.le_refl _) (fun _ _ _ => rfl) (fun mono => .inr ⟨g', o', 0, cv, T, .inl rfl, hh, by omega, by omega, fun i j f hi => by omega⟩), .row (.inr rfl) ⟨_, _, rfl, fun h => by split at h <;> cases h⟩ (fun h => by simp at h) (fun g C h => by simp at h) (fun g o C h => ?_), fun _ h => h⟩
            simp only [if_true, Option.some.injEq, Loc.sub.injEq] at h
            obtain ⟨rfl, rfl, rfl⟩ := h
            left
            simp only [sliced, if_pos hcl2]
            refine ⟨?_, by omega⟩
            simp [hcl2]
          · refine ⟨_, w, hrun, _, _, mv (.sub g' (o' + l.toNat * s) (C' - l.toNat)) w (.inr ⟨g', .inr ⟨_, _, rfl⟩, .inl hbe⟩) (Nat.le_refl _) rfl rfl rfl (fun _ => Nat.le_refl _) (fun _ _ _ => rfl) (fun mono => .inr ⟨g', _, _, cv, T, .inl rfl, hh, ?_, by omega, fun i j f hi hj => ?_⟩), .row (.inr rfl) ⟨_, _, rfl, fun h => by split at h <;> cases h⟩ (fun h => by simp at h) (fun g C h => by simp at h) (fun g o C h => ?_), fun _ h => h⟩
            · simp only [List.length_map, hcl]
              rw [hcl] at hsz'
              have : l.toNat * s + (C' - l.toNat) * s = C' * s := by rw [← Nat.add_mul]; congr 1; omega
              omega
            · rw [List.getElem?_map] at hj
              cases hcj : cols[j]? with
              | none => simp [hcj] at hj
              | some f' =>
                simp only [hcj, Option.map_some, Option.some.injEq] at hj
                subst hj
                obtain ⟨u, hu1, ho, hre⟩ := hrel (i + l.toNat) j f' (by omega) hcj
                refine ⟨u, ?_, ho, mono hre⟩
                rw [← hu1]
                congr 1
                simp only [List.length_map, hcl]
                rw [Nat.add_mul]; omega
            · simp only [if_true, Option.some.injEq, Loc.sub.injEq] at h
              obtain ⟨rfl, rfl, rfl⟩ := h
              left
              simp only [sliced, if_neg hcl2, Option.map_some]
              refine ⟨?_, by omega⟩
              rw [add_off]
              simp
  · subst he; exact bad_vc hvc
theorem evSliceO_sound (r : R base w0 S0 σ kn blk a w) {oc : Orc} {id : Nat} (hid : ¬ kn id) {t : TypeId} {x : DV} {v : Value} {lo hi : Option DV} {vlo vhi : Option Value} {e : Eff} (he : evSliceO P oc id σ.obj t x lo hi = e) (hvc : AllP e.vc)
    (hlo : (lo = none ∧ vlo = none) ∨ ∃ d u, lo = some d ∧ vlo = some u ∧ Rel (rdOf w base S0 blk) kn blk d u) (hhi : (hi = none ∧ vhi = none) ∨ ∃ d u, hi = some d ∧ vhi = some u ∧ Rel (rdOf w base S0 blk) kn blk d u)
    (hv : Rel (rdOf w base S0 blk) kn blk x v) : Runs P base w0 S0 σ kn a w id (Instr.sliceAt t v vlo vhi none) e := by
  unfold evSliceO at he
  split at he
  · unfold evSliceB at he
    split at he
    · rcases hhi with ⟨_, rfl⟩ | ⟨d, u, h, _⟩
      · split at he
        · rename_i el hu
          split at he
          · rename_i s hsz
            split at he
            · rename_i s' q len
              split at he
              · rename_i n cols hob; exact baseEff_sound r hid hu hsz (.inl hob) he hvc hlo hv
              · rename_i n cols hob; exact baseEff_sound r hid hu hsz (.inr hob) he hvc hlo hv
              · subst he; exact bad_vc hvc
            · subst he; exact bad_vc hvc
          · subst he; exact bad_vc hvc
        · subst he; exact bad_vc hvc
      · cases h
    · subst he; exact bad_vc hvc
  · exact (evSlice_sound r he hvc hlo hhi hv).runs r
theorem obj_effH (σ : St) (e : Eff) (id : Nat) : (σ.effH e).obj id = match look e.hw id with | some o => o | none => σ.obj id := by
  have go : ∀ (l m : List (Nat × Option AObj)), look (l ++ m) id = match look l id with | some v => some v | none => look m id := fun l m => by
    induction l with
    | nil => rfl
    | cons p l ih =>
      obtain ⟨k, v⟩ := p
      simp only [List.cons_append, look]
      cases Nat.beq k id
      · exact ih
      · rfl
  unfold St.effH St.obj
  rw [go]
  cases look e.hw id <;> rfl
theorem Runs.frz {id : Nat} {s : Sem Value} {e : Eff} (h : Runs P base w0 S0 σ kn a w id s e) (hvc : AllP (frzEff e).vc) : Runs P base w0 S0 σ kn a w id s (frzEff e) := by
  obtain ⟨v, w', hrun, kn', blk', r, hv, hk⟩ := h
  unfold frzEff at hvc ⊢
  cases hl : lend (hwHeap e.hw) e.d with
  | none => rw [hl] at hvc; exact bad_vc hvc
  | some p =>
    obtain ⟨d, vc⟩ := p
    rw [hl] at hvc
    obtain ⟨_, hv2⟩ := AllP.app hvc
    have hl2 : lend (σ.effH e).obj e.d = some (d, vc) := by
      cases hd : e.d with
      | row s' i off len =>
        rw [hd] at hl
        simp only [lend, hwHeap, obj_effH] at hl ⊢
        cases hlk : look e.hw i with
        | none => simp [hlk] at hl
        | some o => simp only [hlk] at hl ⊢; exact hl
      | mph i =>
        rw [hd] at hl
        simp only [lend, hwHeap, obj_effH] at hl ⊢
        cases hlk : look e.hw i with
        | none => simp [hlk] at hl
        | some o => simp only [hlk] at hl ⊢; exact hl
      | _ => rw [hd] at hl; exact hl
    obtain ⟨blk2, r2, hsub, hgone⟩ := r.dropRows [e.d] (fun d' id v hm => by rw [List.mem_singleton.1 hm]; exact lend_is r hl2 id v)
    refine ⟨v, w', hrun, kn', blk2, ?_, ?_, hk⟩
    · have e1 : σ.effH { d := d, hw := Abs.dropRows [e.d] ++ e.hw, vc := e.vc ++ vc } = { (σ.effH e) with h := Abs.dropRows [e.d] ++ (σ.effH e).h } := by
        simp only [St.effH, List.append_assoc]
      rw [e1]; exact r2
    · have k1 := (lend_rd (rd' := rdOf w' base S0 blk2) r (fun ad u ⟨x, y, z, q⟩ => ⟨x, fun id l e => y id l (hsub _ _ e), z, q⟩)
        (fun i l g hi hbk hg ad u e' hu => ⟨hu, fun id' l' e2 hg' => (by
          have e3 := hsub _ _ e2
          rw [e'] at hg'
          have := r.inj _ _ _ _ _ e3 hbk hg' hg
          rw [this, hgone e.d i List.mem_cons_self hi] at e2
          cases e2), e' ▸ own_S r hbk hg, e' ▸ own_low r hbk hg⟩) hl2 hv2 hv).1
      exact relC_open k1
theorem frzO_runs {id : Nat} {s : Sem Value} {oc : Orc} {e e' : Eff} (he : frzO oc e = e') (hvc : AllP e'.vc) (h : AllP e.vc → Runs P base w0 S0 σ kn a w id s e) : Runs P base w0 S0 σ kn a w id s e' := by
  unfold frzO at he
  split at he
  · subst he
    refine Runs.frz (h ?_) hvc
    unfold frzEff at hvc
    split at hvc
    · exact (AllP.app hvc).1
    · exact bad_vc hvc
  · subst he; exact h hvc
theorem lends_len {ob : Heap} : ∀ {ds es : List DV} {vc : List Prop}, lends ob ds = some (es, vc) → es.length = ds.length
  | [], es, vc, h => by
    simp only [lends, Option.some.injEq, Prod.mk.injEq] at h
    rw [← h.1]
  | d :: r, es, vc, h => by
    simp only [lends] at h
    split at h
    · rename_i e v1 es1 vcs h1 h2
      simp only [Option.some.injEq, Prod.mk.injEq] at h
      rw [← h.1, List.length_cons, List.length_cons, lends_len h2]
    · cases h
theorem lendA_rd (r : R base w0 S0 σ kn blk a w) {rd' : Rd} (hmono : ∀ a u, rdOf w base S0 blk a u → rd' a u) {d d' : DV} {vc : List Prop} {cs : List DV} {v : Value}
    (hown : ∀ d id l g, d ∈ cs → id ∈ ownIds d → blk id = some l → l.has g → ∀ ad u, ad.block = g → rdw w ad u → rd' ad u) (h : lendA σ.obj d = some (d', vc, cs)) (hvc : AllP vc) (hv : Rel (rdOf w base S0 blk) kn blk d v) : RelC rd' d' v := by
  unfold lendA at h
  split at h
  · rename_i cs'
    split at h
    · rename_i es vc' hl
      simp only [Option.some.injEq, Prod.mk.injEq] at h
      obtain ⟨rfl, rfl, rfl⟩ := h
      cases hv with
      | agg hs hr =>
        rename_i vs
        have hlen := (lends_len hl).symm
        have k := lends_rd r hmono hown hl hvc (vs := vs.toList) (by simpa using hs) (fun j d v hd hv => hr j d v hd (by simpa using hv))
        exact .agg (by rw [hs, hlen]) fun j d u hd hu => k j d u hd (by simpa using hu)
    · cases h
  · cases hc : d.closed
    · simp [hc] at h
    · simp only [hc, cond_true, Option.some.injEq, Prod.mk.injEq] at h
      obtain ⟨rfl, rfl, rfl⟩ := h
      exact (hv.close hc).mono hmono (fun _ h => h) fun _ _ h => h.elim
theorem lendParts_rd (r : R base w0 S0 σ kn blk a w) {rd' : Rd} (hmono : ∀ a u, rdOf w base S0 blk a u → rd' a u) {kn' : Nat → Prop} {blk' : Nat → Option Loc} : ∀ {ps es : List (Nat × DV)} {vc : List Prop} {cs : List DV} {vs : List (Nat × Value)},
    (∀ d id l g, d ∈ cs → id ∈ ownIds d → blk id = some l → l.has g → ∀ ad u, ad.block = g → rdw w ad u → rd' ad u) → lendParts σ.obj ps = some (es, vc, cs) → AllP vc → Parts (rdOf w base S0 blk) kn blk ps vs → Parts rd' kn' blk' es vs
  | [], es, vc, cs, vs, _, h, _, hp => by
    simp only [lendParts, Option.some.injEq, Prod.mk.injEq] at h
    obtain ⟨rfl, rfl, rfl⟩ := h
    cases hp
    exact .nil
  | (i, d) :: ps, es, vc, cs, vs, hown, h, hvc, hp => by
    simp only [lendParts] at h
    split at h
    · rename_i e vc1 c1 es1 vcs1 ds1 h1 h2
      simp only [Option.some.injEq, Prod.mk.injEq] at h
      obtain ⟨rfl, rfl, rfl⟩ := h
      obtain ⟨hv1, hv2⟩ := AllP.app hvc
      cases hp with
      | cons hv hp =>
        exact .cons (relC_open (lendA_rd r hmono (fun d id l g hm => hown d id l g (List.mem_append_left _ hm)) h1 hv1 hv)) (lendParts_rd r hmono (fun d id l g hm => hown d id l g (List.mem_append_right _ hm)) h2 hv2 hp)
    · cases h
theorem lendParts_is (r : R base w0 S0 σ kn blk a w) : ∀ {ps es : List (Nat × DV)} {vc : List Prop} {cs : List DV}, lendParts σ.obj ps = some (es, vc, cs) → ∀ d id v, d ∈ cs → id ∈ ownIds d → blk id ≠ some (.is v)
  | [], es, vc, cs, h, d, id, v, hd, _ => by
    simp only [lendParts, Option.some.injEq, Prod.mk.injEq] at h
    obtain ⟨rfl, rfl, rfl⟩ := h
    cases hd
  | (i, d0) :: ps, es, vc, cs, h, d, id, v, hd, hi => by
    simp only [lendParts] at h
    split at h
    · rename_i e vc1 c1 es1 vcs1 ds1 h1 h2
      simp only [Option.some.injEq, Prod.mk.injEq] at h
      obtain ⟨rfl, rfl, rfl⟩ := h
      rcases List.mem_append.1 hd with hd | hd
      · unfold lendA at h1
        split at h1
        · rename_i cs'
          split at h1
          · rename_i hl
            simp only [Option.some.injEq, Prod.mk.injEq] at h1
            obtain ⟨_, _, rfl⟩ := h1
            exact lends_is r hl d id v hd hi
          · cases h1
        · cases hc : d0.closed
          · simp [hc] at h1
          · simp only [hc, cond_true, Option.some.injEq, Prod.mk.injEq] at h1
            obtain ⟨_, _, rfl⟩ := h1
            cases hd
      · exact lendParts_is r h2 d id v hd hi
    · cases h
theorem evBuildSliceF_sound (r : R base w0 S0 σ kn blk a w) {id : Nat} (hid : ¬ kn id) {oc : Orc} {t : TypeId} {len : Nat} {parts : List (Nat × DV)} {vparts : Array (Nat × Value)} {e : Eff} (he : evBuildSliceF P oc id t len σ.obj parts = e) (hvc : AllP e.vc)
    (hp : Parts (rdOf w base S0 blk) kn blk parts vparts.toList) : Runs P base w0 S0 σ kn a w id (Instr.buildSlice t len vparts) e := by
  unfold evBuildSliceF at he
  split at he
  · cases hl : lendParts σ.obj parts with
    | none => rw [hl] at he; subst he; exact bad_vc hvc
    | some q =>
      obtain ⟨ps, vc, ds⟩ := q
      rw [hl] at he
      subst he
      obtain ⟨hv1, hv2⟩ := AllP.app hvc
      obtain ⟨blk2, r2, hsub, hgone⟩ := r.dropRows ds (lendParts_is r hl)
      have hp2 : Parts (rdOf w base S0 blk2) kn blk2 ps vparts.toList := lendParts_rd r (fun ad u ⟨x, y, z, q⟩ => ⟨x, fun id l e => y id l (hsub _ _ e), z, q⟩)
        (fun d i l g hm hi hbk hg ad u e' hu => ⟨hu, fun id' l' e2 hg' => (by
          have e3 := hsub _ _ e2
          rw [e'] at hg'
          have := r.inj _ _ _ _ _ e3 hbk hg' hg
          rw [this, hgone d i hm hi] at e2
          cases e2), e' ▸ own_S r hbk hg, e' ▸ own_low r hbk hg⟩) hl hv1 hp
      obtain ⟨v, w', hrun, kn', blk', r3, hv, hk⟩ := evBuildSlice_sound (vparts := vparts) r2 hid rfl hv2 hp2
      refine ⟨v, w', hrun, kn', blk', ?_, hv, hk⟩
      have e1 : σ.effH (partsEff P id t len (some (ps, vc, ds))) = St.effH { σ with h := Abs.dropRows ds ++ σ.h } (evBuildSlice P id t len ps) := by
        simp only [St.effH, partsEff, List.append_assoc]
      rw [e1]; exact r3
  · exact frzO_runs he hvc fun hvc => evBuildSlice_sound (vparts := vparts) r hid rfl hvc hp
theorem evOp_sound (r : R base w0 S0 σ kn blk a w) {id : Nat} (hid : ¬ kn id) {oc : Orc} {o : Oper} {e : Eff} {x : Operand → DV} (he : evOp P oc id o x σ.obj = e) (hwb : S0.wb = none ∨ ((∀ t rs, o.op ≠ .makeMap t rs) ∧ ∀ c y, o.op = .call c → c.callee = .value y → e.d.plain = true)) (hvc : AllP e.vc)
    (hx : ∀ y ∈ o.op.operands.toList, Rel (rdOf w base S0 blk) kn blk (x y) (a.eval y)) {K : Act → World → Prop} {Q : Exit → Act → World → Prop}
    (hdst : dstOK σ.nt σ.lo o.dst = true) (hK : ∀ a' w', After base w0 S0 (σ.eff o.dst e) kn id a' w' → K a' w') : o.wpIn (FW ro) m P a w K Q := by
  unfold evOp at he
  cases ho : o.op with
  | move y =>
    simp only [ho] at he hx; subst he
    exact wp_value (fun c h => by rw [ho] at h; cases h) r rfl (by unfold execOp; rw [ho]) (hx y (by simp [Op.operands])) hdst hK
  | assign y =>
    simp only [ho] at he hx; subst he
    exact wp_value (fun c h => by rw [ho] at h; cases h) r rfl (by unfold execOp; rw [ho]) (hx y (by simp [Op.operands])) hdst hK
  | alloc t =>
    simp only [ho] at he
    exact wp_runs (fun c h => by rw [ho] at h; cases h) (by unfold execOp; rw [ho]) (evAlloc_sound r hid he hvc) hdst hK
  | box t y =>
    simp only [ho] at he hx
    exact wp_runs (fun c h => by rw [ho] at h; cases h) (by unfold execOp; rw [ho]) (evBox_sound r hid he hvc (hx y (by simp [Op.operands]))) hdst hK
  | build t parts =>
    simp only [ho] at he hx
    have hp : Parts (rdOf w base S0 blk) kn blk (parts.toList.map fun p => (p.1, x p.2)) (parts.map fun p => (p.1, a.eval p.2)).toList := by
      rw [Array.toList_map]
      exact parts_of parts.toList fun p hp => hx p.2 (by simp only [Op.operands]; exact List.mem_map_of_mem hp)
    have hex : execOp a.eval o = (do pure (.value (← Instr.build t (parts.map fun p => (p.1, a.eval p.2))))) := by unfold execOp; rw [ho]
    generalize parts.map (fun p => (p.1, a.eval p.2)) = vp at hp hex
    have hs := evBuild_sound (vparts := vp) he hvc hp
    exact wp_runs (fun c h => by rw [ho] at h; cases h) hex (hs.runs r) hdst hK
  | buildSlice t len parts =>
    simp only [ho] at he hx
    have hp : Parts (rdOf w base S0 blk) kn blk (parts.toList.map fun p => (p.1, x p.2)) (parts.map fun p => (p.1, a.eval p.2)).toList := by
      rw [Array.toList_map]
      exact parts_of parts.toList fun p hp => hx p.2 (by simp only [Op.operands]; exact List.mem_map_of_mem hp)
    have hex : execOp a.eval o = (do pure (.value (← Instr.buildSlice t len (parts.map fun p => (p.1, a.eval p.2))))) := by unfold execOp; rw [ho]
    generalize parts.map (fun p => (p.1, a.eval p.2)) = vp at hp hex
    have hs := evBuildSliceF_sound (vparts := vp) r hid he hvc hp
    exact wp_runs (fun c h => by rw [ho] at h; cases h) hex hs hdst hK
  | makeSlice t y z =>
    simp only [ho] at he hx
    exact wp_runs (fun c h => by rw [ho] at h; cases h) (by unfold execOp; rw [ho]) (evMakeSliceO_sound r hid he hvc (hx y (by simp [Op.operands])) (hx z (by simp [Op.operands]))) hdst hK
  | slice t y lo hi mx =>
    simp only [ho] at he hx
    cases mx with
    | some m => subst he; exact bad_vc hvc
    | none =>
      have bd : ∀ z : Option Operand, (∀ y', z = some y' → y' ∈ (Op.slice t y lo hi none).operands.toList) → ((z.map x = none ∧ z.map a.eval = none) ∨ ∃ d u, z.map x = some d ∧ z.map a.eval = some u ∧ Rel (rdOf w base S0 blk) kn blk d u) := fun z hz => by
        cases z with
        | none => exact .inl ⟨rfl, rfl⟩
        | some y' => exact .inr ⟨_, _, rfl, rfl, hx y' (hz y' rfl)⟩
      exact wp_runs (fun c h => by rw [ho] at h; cases h) (by unfold execOp; rw [ho]; rfl) (evSliceO_sound r hid he hvc (bd lo fun y' e => by subst e; simp [Op.operands]) (bd hi fun y' e => by subst e; simp [Op.operands]) (hx y (by simp [Op.operands]))) hdst hK
  | load t y =>
    simp only [ho] at he hx
    exact wp_runs (fun c h => by rw [ho] at h; cases h) (by unfold execOp; rw [ho]) (evLoadO_sound r hid he hvc (hx y (by simp [Op.operands]))) hdst hK
  | store t p y =>
    simp only [ho] at he hx
    obtain ⟨hd, w', blk', hrun, hR⟩ := evStoreO_sound r he hvc (hx p (by simp [Op.operands])) (hx y (by simp [Op.operands]))
    unfold Oper.wpIn
    refine ⟨fun _ _ => trivial, ?_⟩
    rw [Oper.semAt_eq _ _ _ (fun c h => by rw [ho] at h; cases h)]
    unfold execOp
    rw [ho]
    simp only [Sem.run_bind, hrun, Result.andThen_ok, Sem.run_pure]
    exact hK _ _ ⟨kn, blk', R.put_eff hR hdst (by rw [hd]; exact .any _), fun _ h => .inl h⟩
  | makeMap t rs =>
    simp only [ho] at he hx
    cases rs with
    | some y => subst he; exact bad_vc hvc
    | none => exact wp_runs (fun c h => by rw [ho] at h; cases h) (by unfold execOp; rw [ho]; rfl) (evMakeMap_sound r (hwb.resolve_right fun h => h.1 t none ho) hid he hvc) hdst hK
  | lookup t y i ok =>
    simp only [ho] at he hx
    exact wp_runs (fun c h => by rw [ho] at h; cases h) (by unfold execOp; rw [ho]) (evLookup_sound r hid he hvc (hx y (by simp [Op.operands])) (hx i (by simp [Op.operands]))) hdst hK
  | mapUpdate t p k y =>
    simp only [ho] at he hx
    obtain ⟨hd, w', blk', hrun, hR⟩ := evMapUpdate_sound r he hvc (hx p (by simp [Op.operands])) (hx k (by simp [Op.operands])) (hx y (by simp [Op.operands]))
    unfold Oper.wpIn
    refine ⟨fun _ _ => trivial, ?_⟩
    rw [Oper.semAt_eq _ _ _ (fun c h => by rw [ho] at h; cases h)]
    unfold execOp
    rw [ho]
    simp only [Sem.run_bind, hrun, Result.andThen_ok, Sem.run_pure]
    exact hK _ _ ⟨kn, blk', R.put_eff hR hdst (by rw [hd]; exact .any _), fun _ h => .inl h⟩
  | mapEntry t p k =>
    simp only [ho] at he hx
    exact wp_runs (fun c h => by rw [ho] at h; cases h) (by unfold execOp; rw [ho]) (evMapEntry_sound r hid he hvc (hx p (by simp [Op.operands])) (hx k (by simp [Op.operands]))) hdst hK
  | entryStore t p s y =>
    simp only [ho] at he hx
    obtain ⟨hd, w', blk', hrun, hR⟩ := evEntryStore_sound (P := P) (t := t) r he hvc (hx p (by simp [Op.operands])) (hx s (by simp [Op.operands])) (hx y (by simp [Op.operands]))
    unfold Oper.wpIn
    refine ⟨fun _ _ => trivial, ?_⟩
    rw [Oper.semAt_eq _ _ _ (fun c h => by rw [ho] at h; cases h)]
    unfold execOp
    rw [ho]
    simp only [Sem.run_bind, hrun, Result.andThen_ok, Sem.run_pure]
    exact hK _ _ ⟨kn, blk', R.put_eff hR hdst (by rw [hd]; exact .any _), fun _ h => .inl h⟩
  | nilCheck y =>
    simp only [ho] at he hx
    have hy := hx y (by simp [Op.operands])
    have go : e.hw = [] → e.d = x y → nilOK (x y) → o.wpIn (FW ro) m P a w K Q := by
      intro h1 h2 h3
      refine wp_value (fun c h => by rw [ho] at h; cases h) r h1 (v := a.eval y) ?_ (by rw [h2]; exact hy) hdst hK
      unfold execOp
      rw [ho]
      rcases evNil_sound hy h3 with ⟨ad, h⟩ | ⟨f, fs, cs, h⟩
      · simp only [h]
      · simp only [h]
    split at he
    · rename_i h; subst he; exact go rfl h.symm (by rw [h]; trivial)
    · rename_i h; subst he; exact go rfl h.symm (by rw [h]; trivial)
    · rename_i h; subst he; exact go rfl h.symm (by rw [h]; trivial)
    · rename_i h; subst he; exact go rfl h.symm (by rw [h]; trivial)
    · rename_i h; subst he; exact go rfl h.symm (by rw [h]; trivial)
    · rename_i h; subst he; exact go rfl h.symm (by rw [h]; trivial)
    · subst he; exact bad_vc hvc
  | binOp op t y z ty =>
    simp only [ho] at he hx
    have hy := hx y (by simp [Op.operands])
    have hz := hx z (by simp [Op.operands])
    have hex : execOp a.eval o = (do pure (.value (← (do eqGuard op t y z (a.eval y) (a.eval z); binOp op t (a.eval y) (a.eval z))))) := by unfold execOp; rw [ho]
    split at he
    · rename_i h1 h2
      rw [h1] at hy
      rw [h2] at hz
      exact wp_runs (fun c h => by rw [ho] at h; cases h) hex ((evEq_sound (neg := false) rfl he hvc hy hz).runs r) hdst hK
    · rename_i h1 h2
      rw [h1] at hy
      rw [h2] at hz
      exact wp_runs (fun c h => by rw [ho] at h; cases h) hex ((evEq_sound (neg := true) rfl he hvc hy hz).runs r) hdst hK
    · rename_i h1 h2
      rw [h1] at hy
      rw [h2] at hz
      have hzv : a.eval z = .nilIface := by
        generalize a.eval z = q at hz
        cases hz; rfl
      rw [hzv] at hex
      exact wp_runs (fun c h => by rw [ho] at h; cases h) hex ((evErr_sound he hvc hy).runs r) hdst hK
    · split at he
      · exact wp_runs (fun c h => by rw [ho] at h; cases h) hex ((evEqA_sound he hvc hy hz).runs r) hdst hK
      · exact wp_runs (fun c h => by rw [ho] at h; cases h) hex ((evBin_sound he hvc hy hz).runs r) hdst hK
  | unOp op t y =>
    simp only [ho] at he hx
    exact wp_runs (fun c h => by rw [ho] at h; cases h) (by unfold execOp; rw [ho]) ((evUn_sound he hvc (hx y (by simp [Op.operands]))).runs r) hdst hK
  | convert src dst y =>
    simp only [ho] at he hx
    exact wp_runs (fun c h => by rw [ho] at h; cases h) (by unfold execOp; rw [ho]) ((evConvS_sound r he hvc (hx y (by simp [Op.operands]))).runs r) hdst hK
  | fieldAddr s y f =>
    simp only [ho] at he hx
    exact wp_runs (fun c h => by rw [ho] at h; cases h) (by unfold execOp; rw [ho]) ((evFieldAddr_sound he hvc (hx y (by simp [Op.operands]))).runs r) hdst hK
  | field s y f =>
    simp only [ho] at he hx
    exact wp_runs (fun c h => by rw [ho] at h; cases h) (by unfold execOp; rw [ho]) ((evField_sound he hvc (hx y (by simp [Op.operands]))).runs r) hdst hK
  | indexAddr t y i =>
    simp only [ho] at he hx
    exact wp_runs (fun c h => by rw [ho] at h; cases h) (by unfold execOp; rw [ho]) ((evIndexAddr_sound r he hvc (hx y (by simp [Op.operands])) (hx i (by simp [Op.operands]))).runs r) hdst hK
  | index t y i =>
    simp only [ho] at he hx
    exact wp_runs (fun c h => by rw [ho] at h; cases h) (by unfold execOp; rw [ho]) ((evIndex_sound he hvc (hx y (by simp [Op.operands])) (hx i (by simp [Op.operands]))).runs r) hdst hK
  | extract y i =>
    simp only [ho] at he hx
    exact wp_runs (fun c h => by rw [ho] at h; cases h) (by unfold execOp; rw [ho]) ((evExtract_sound he hvc (hx y (by simp [Op.operands]))).runs r) hdst hK
  | makeFunc fn first cap =>
    cases fn with
    | func f =>
      simp only [ho] at he hx
      split at he
      · rename_i hf
        subst he
        have hfirst : first = #[] := Array.ext' (by simpa using hf)
        subst hfirst
        refine wp_runs (fun c h => by rw [ho] at h; cases h) (s := Instr.makeFunc (.func f) (#[].map a.eval) (cap.map a.eval)) (by unfold execOp; rw [ho]) (Still.runs r ⟨rfl, .func (.func f) #[] (cap.map a.eval), by simp [Instr.makeFunc], .clo (by simp) fun j d u hd hu => ?_⟩) hdst hK
        · rw [List.getElem?_map] at hd
          rw [Array.getElem?_map] at hu
          cases hc : cap[j]? with
          | none => simp [hc] at hu
          | some y =>
            have hc' : cap.toList[j]? = some y := by simpa using hc
            simp only [hc', Option.map_some, Option.some.injEq] at hd
            simp only [hc, Option.map_some, Option.some.injEq] at hu
            subst hd hu
            exact hx y (by simp only [Op.operands]; simp; exact Array.mem_of_getElem? hc)
      · split at he
        · rename_i hf
          subst he
          have hcap : cap = #[] := Array.ext' (by simpa using hf)
          subst hcap
          refine wp_runs (fun c h => by rw [ho] at h; cases h) (s := Instr.makeFunc (.func f) (first.map a.eval) (#[].map a.eval)) (by unfold execOp; rw [ho]) (Still.runs r ⟨rfl, .func (.func f) (first.map a.eval) #[], by simp [Instr.makeFunc], .bnd (by simp) fun j d u hd hu => ?_⟩) hdst hK
          rw [List.getElem?_map] at hd
          rw [Array.getElem?_map] at hu
          cases hc : first[j]? with
          | none => simp [hc] at hu
          | some y =>
            have hc' : first.toList[j]? = some y := by simpa using hc
            simp only [hc', Option.map_some, Option.some.injEq] at hd
            simp only [hc, Option.map_some, Option.some.injEq] at hu
            subst hd hu
            exact hx y (by simp only [Op.operands]; simp; exact Array.mem_of_getElem? hc)
        · subst he; exact bad_vc hvc
    | _ => simp only [ho] at he; subst he; exact bad_vc hvc
  | call c =>
    simp only [ho] at he hx
    have hargs : ∀ y ∈ c.args.toList, Rel (rdOf w base S0 blk) kn blk (x y) (a.eval y) := fun y hy => hx y (by simp only [Op.operands, Call.operands]; simp; exact .inr (by simpa using hy))
    split at he
    · -- len
      rename_i hcal
      split at he
      · rename_i y t h1 h2
        have e1 : c.args = #[y] := Array.ext' (by simpa using h1)
        have e2 : c.argTypes = #[t] := Array.ext' (by simpa using h2)
        refine wp_runs (fun c h => by rw [ho] at h; cases h) (s := Builtin.len_ #[t] o.type #[a.eval y]) ?_ ((evLen_sound r he hvc (hargs y (by rw [h1]; exact List.mem_cons_self))).runs r) hdst hK
        unfold execOp
        rw [ho]
        simp [resolve, hcal, invoke, builtin, e1, e2]
      · subst he; exact bad_vc hvc
    · -- append
      rename_i hcal
      split at he
      · rename_i y z t t' h1 h2
        cases hb : Nat.beq t t'
        · simp only [hb, cond_false] at he; subst he; exact bad_vc hvc
        · simp only [hb, cond_true] at he
          obtain rfl := Nat.eq_of_beq_eq_true hb
          have e1 : c.args = #[y, z] := Array.ext' (by simpa using h1)
          have e2 : c.argTypes = #[t, t] := Array.ext' (by simpa using h2)
          refine wp_runs (fun c h => by rw [ho] at h; cases h) (s := Builtin.append_ #[t, t] o.type #[a.eval y, a.eval z]) ?_ (frzO_runs he hvc fun hvc => evAppend_sound r hid rfl hvc (hargs y (by rw [h1]; exact List.mem_cons_self)) (hargs z (by rw [h1]; exact List.mem_cons_of_mem _ List.mem_cons_self))) hdst hK
          unfold execOp
          rw [ho]
          simp [resolve, hcal, invoke, builtin, e1, e2]
      · subst he; exact bad_vc hvc
    · -- delete
      rename_i hcal
      split at he
      · rename_i y z t ts h1 h2
        have e1 : c.args = #[y, z] := Array.ext' (by simpa using h1)
        have e2 : c.argTypes[0]? = some t := by
          have : c.argTypes.toList[0]? = some t := by rw [h2]; rfl
          simpa using this
        obtain ⟨w', v, hrun, hR, hrel⟩ := evDelete_sound (ty := o.type) r he hvc (hargs y (by rw [h1]; exact List.mem_cons_self)) (hargs z (by rw [h1]; exact List.mem_cons_of_mem _ List.mem_cons_self)) e2
        refine wp_runs (fun c h => by rw [ho] at h; cases h) (s := Builtin.delete_ c.argTypes o.type #[a.eval y, a.eval z]) ?_ ⟨v, w', hrun, kn, blk, hR, hrel, fun _ h => .inl h⟩ hdst hK
        unfold execOp
        rw [ho]
        simp [resolve, hcal, invoke, builtin, e1]
      · subst he; exact bad_vc hvc
    · -- clear
      rename_i hcal
      split at he
      · rename_i y t ts h1 h2
        have e1 : c.args = #[y] := Array.ext' (by simpa using h1)
        have e2 : c.argTypes[0]? = some t := by
          have : c.argTypes.toList[0]? = some t := by rw [h2]; rfl
          simpa using this
        obtain ⟨w', v, hrun, hR, hrel⟩ := evClear_sound (ty := o.type) r he hvc (hargs y (by rw [h1]; exact List.mem_cons_self)) e2
        refine wp_runs (fun c h => by rw [ho] at h; cases h) (s := Builtin.clear_ c.argTypes o.type #[a.eval y]) ?_ ⟨v, w', hrun, kn, blk, hR, hrel, fun _ h => .inl h⟩ hdst hK
        unfold execOp
        rw [ho]
        simp [resolve, hcal, invoke, builtin, e1]
      · subst he; exact bad_vc hvc
    · -- min
      rename_i hcal
      split at he
      · rename_i n l h1
        subst he
        have hl := intsOf_sound h1
        have hvals : (c.args.map a.eval).toList = (n :: l).map fun n => Value.int .i64 n := by
          rw [Array.toList_map]
          apply List.ext_getElem?
          intro j
          rw [List.getElem?_map, List.getElem?_map]
          have hj : (c.args.toList.map x)[j]? = ((n :: l).map fun n => DV.val (.int .i64 n))[j]? := by rw [hl]
          rw [List.getElem?_map, List.getElem?_map] at hj
          cases hc : c.args.toList[j]? with
          | none =>
            rw [hc] at hj
            cases hn : (n :: l)[j]? with
            | none => simp
            | some q => rw [hn] at hj; simp at hj
          | some y =>
            rw [hc] at hj
            cases hn : (n :: l)[j]? with
            | none => rw [hn] at hj; simp at hj
            | some q =>
              rw [hn] at hj
              simp only [Option.map_some, Option.some.injEq] at hj
              have := hargs y (List.mem_of_getElem? hc)
              rw [hj] at this
              simp [this.val_eq]
        refine wp_runs (fun c h => by rw [ho] at h; cases h) (s := Builtin.min_ c.argTypes o.type (c.args.map a.eval)) ?_ (Still.runs r ⟨rfl, .int .i64 (mins n l), ?_, .val _⟩) hdst hK
        · unfold execOp
          rw [ho]
          simp [resolve, hcal, invoke, builtin]
        · simp only [Builtin.min_, hvals, List.map_cons]
          exact run_mins l n
      · subst he; exact bad_vc hvc
    · -- max
      rename_i hcal
      split at he
      · rename_i n l h1
        subst he
        have hl := intsOf_sound h1
        have hvals : (c.args.map a.eval).toList = (n :: l).map fun n => Value.int .i64 n := by
          rw [Array.toList_map]
          apply List.ext_getElem?
          intro j
          rw [List.getElem?_map, List.getElem?_map]
          have hj : (c.args.toList.map x)[j]? = ((n :: l).map fun n => DV.val (.int .i64 n))[j]? := by rw [hl]
          rw [List.getElem?_map, List.getElem?_map] at hj
          cases hc : c.args.toList[j]? with
          | none =>
            rw [hc] at hj
            cases hn : (n :: l)[j]? with
            | none => simp
            | some q => rw [hn] at hj; simp at hj
          | some y =>
            rw [hc] at hj
            cases hn : (n :: l)[j]? with
            | none => rw [hn] at hj; simp at hj
            | some q =>
              rw [hn] at hj
              simp only [Option.map_some, Option.some.injEq] at hj
              have := hargs y (List.mem_of_getElem? hc)
              rw [hj] at this
              simp [this.val_eq]
        refine wp_runs (fun c h => by rw [ho] at h; cases h) (s := Builtin.max_ c.argTypes o.type (c.args.map a.eval)) ?_ (Still.runs r ⟨rfl, .int .i64 (maxs n l), ?_, .val _⟩) hdst hK
        · unfold execOp
          rw [ho]
          simp [resolve, hcal, invoke, builtin]
        · simp only [Builtin.max_, hvals, List.map_cons]
          exact run_maxs l n
      · subst he; exact bad_vc hvc
    · -- a function value
      rename_i y hcal
      have hwbc : S0.wb = none ∨ e.d.plain = true := hwb.imp (fun h => h) fun h => h.2 c y ho hcal
      have hy := hx y (by simp only [Op.operands, Call.operands, hcal]; simp)
      have args : ∀ (j : Nat) (d : DV) (v : Value), (c.args.toList.map x)[j]? = some d → (c.args.toList.map a.eval)[j]? = some v → Rel (rdOf w base S0 blk) kn blk d v := by
        intro j d v hd hv
        rw [List.getElem?_map] at hd hv
        cases hc : c.args.toList[j]? with
        | none => simp [hc] at hd
        | some z =>
          simp only [hc, Option.map_some, Option.some.injEq] at hd hv
          subst hd hv
          exact hargs z (List.mem_of_getElem? hc)
      split at he
      · rename_i f first cap hval
        split at he
        · rename_i hf1 hf2
          have e1 : first = #[] := Array.ext' (by simpa using hf1)
          have e2 : cap = #[] := Array.ext' (by simpa using hf2)
          subst e1 e2
          rw [hval] at hy
          have hyv := hy.val_eq
          have hs := evCall_sound (vs := c.args.toList.map a.eval) r hid he hwbc hvc (by simp) args
          refine wp_call (fun c h => by rw [ho] at h; cases h) (f := f) (vs := (c.args.toList.map a.eval).toArray) ?_ hs hdst hK
          unfold execOp
          rw [ho]
          simp [resolve, hcal, hyv, Deferred.ofValue, invoke, callFunc_run hs.1]
          exact Array.ext' (by simp)
        · subst he; exact bad_vc hvc
      · rename_i f cap hval
        rw [hval] at hy
        generalize hyv : a.eval y = vy at hy
        cases hy with
        | clo hsz hr =>
          rename_i vs
          cases hfl : flatCaps cap with
          | false => simp only [hfl, cond_false] at he; subst he; exact bad_vc hvc
          | true =>
          simp only [hfl, cond_true] at he
          have hs := evCall_sound (vs := c.args.toList.map a.eval ++ vs.toList) r hid he hwbc hvc (by simp [hsz]) (fun j d v hd hv => by
            by_cases hj : j < c.args.toList.length
            · rw [List.getElem?_append_left (by simpa using hj)] at hd hv
              exact args j d v hd hv
            · rw [List.getElem?_append_right (by simpa using hj)] at hd hv
              simp only [List.length_map] at hd hv
              exact hr _ d v hd (by simpa using hv))
          have hex : (execOp a.eval o).run P w = .ok (.enter f (c.args.toList.map a.eval ++ vs.toList).toArray) w := by
            unfold execOp
            rw [ho]
            simp [resolve, hcal, hyv, Deferred.ofValue, invoke, callFunc_run hs.1]
          exact wp_call (fun c h => by rw [ho] at h; cases h) (base := base) (w0 := w0) (S0 := S0) (σ := σ) (kn := kn) (id := id) (e := e) hex hs hdst hK
      · subst he; exact bad_vc hvc
    · subst he; exact bad_vc hvc
  | _ => simp only [ho] at he; subst he; exact bad_vc hvc
theorem evOpR_sound (r : R base w0 S0 σ kn blk a w) {id : Nat} (hid : ¬ kn id) {oc : Orc} {o : Oper} {e : Eff} {x : Operand → DV} (he : evOpR P oc id o x σ.obj σ.rn = e) (hvc : AllP e.vc)
    (hx : ∀ y ∈ o.op.operands.toList, Rel (rdOf w base S0 blk) kn blk (x y) (a.eval y)) {K : Act → World → Prop} {Q : Exit → Act → World → Prop}
    (hdst : dstOK σ.nt σ.lo o.dst = true) (hK : ∀ a' w', After base w0 S0 (σ.eff o.dst e) kn id a' w' → K a' w') : o.wpIn (FW ro) m P a w K Q := by
  cases hrn : σ.rn with
  | false =>
    have hwb : S0.wb = none := Decidable.byContradiction fun h => by
      have := r.rnd h
      rw [hrn] at this; cases this
    rw [hrn] at he
    exact evOp_sound r hid he (.inl hwb) hvc hx hdst hK
  | true =>
    rw [hrn] at he
    unfold evOpR at he
    split at he
    · rename_i h; cases h
    · split at he
      · subst he; exact bad_vc hvc
      · rename_i c hc
        split at he
        · rename_i y hy
          split at he
          rename_i d hw vc hev
          cases hp : d.plain
          · simp only [hp, cond_false] at he; subst he; exact hvc.hd.elim
          · simp only [hp, cond_true] at he
            subst he
            exact evOp_sound r hid hev (.inr ⟨(fun t rs h => by rw [hc] at h; cases h), fun _ _ _ _ => hp⟩) hvc hx hdst hK
        · rename_i hny
          exact evOp_sound r hid he (.inr ⟨fun t rs h => (by rw [hc] at h; cases h), fun c' y h1 h2 => by rw [hc] at h1; cases h1; exact absurd h2 (hny y)⟩) hvc hx hdst hK
      · rename_i hnm hnc
        exact evOp_sound r hid he (.inr ⟨fun t rs h => hnm t rs h, fun c y h1 _ => absurd h1 (hnc c)⟩) hvc hx hdst hK
end
end Go.Abs
