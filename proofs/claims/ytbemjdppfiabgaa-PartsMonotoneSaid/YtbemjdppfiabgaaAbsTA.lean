/- Contracts of functions that hand back a struct whose last part is a row of their own make. -/
import Derived.Test.YtbemjdppfiabgaaAbsT
set_option linter.unusedVariables false
namespace Go.Abs
open Go.RowKit

def splitLast : List DV → Option (List DV × DV)
  | [] => none
  | [d] => some ([], d)
  | d :: r => match splitLast r with
    | some (i, l) => some (d :: i, l)
    | none => none
theorem splitLast_spec : ∀ {l i : List DV} {d : DV}, splitLast l = some (i, d) → l = i ++ [d]
  | [], _, _, h => by cases h
  | [x], i, d, h => by
    simp only [splitLast, Option.some.injEq, Prod.mk.injEq] at h
    obtain ⟨rfl, rfl⟩ := h
    rfl
  | x :: y :: r, i, d, h => by
    simp only [splitLast] at h
    split at h
    · rename_i i' l' h1
      simp only [Option.some.injEq, Prod.mk.injEq] at h
      obtain ⟨rfl, rfl⟩ := h
      have : y :: r = i' ++ [l'] := splitLast_spec h1
      rw [this]; rfl
    · cases h
def apA (id : Nat) : List DV → Bool
  | [] => true
  | d :: r => bif (ownIds d).any (Nat.beq id) then false else apA id r
theorem apA_spec {id : Nat} : ∀ {l : List DV}, apA id l = true → ∀ d ∈ l, id ∉ ownIds d
  | [], _, d, hd, _ => by cases hd
  | x :: r, h, d, hd, hi => by
    simp only [apA] at h
    cases hx : (ownIds x).any (Nat.beq id)
    · simp only [hx, cond_false] at h
      rcases List.mem_cons.1 hd with rfl | hd
      · rw [List.any_eq_false] at hx
        exact hx id hi (Nat.beq_refl id)
      · exact apA_spec h d hd hi
    · simp [hx] at h
/-- What a body hands back where it is a struct whose last part is a row of the call's own. -/
def retA1 (σ : St) (pre : List DV) (n : Nat) (cols : List (Nat → DV)) (vc : List Prop) : List DV → DV → VT
  | ini, .row s id 0 len => match lends σ.obj ini with
    | some (es, vc2) => match σ.obj id with
      | some (.row n' cols') => bif Nat.beq cols'.length s && apA id ini then .done (vc ++ (vc2 ++ ((len = n ∧ len ≤ n') :: (leC (leN 2) cols' cols n ++ leN 4 (.agg es) (.agg pre))))) else .done [False]
      | _ => .done [False]
    | none => .done [False]
  | _, _ => .done [False]
def retVA (P : Program) (fn : Func) (pre : List DV) (n : Nat) (cols : List (Nat → DV)) (σ : St) : VT := match fn.results.toList with
  | [rv] => match resOf P σ rv with
    | some (.agg cs, vc) => match splitLast cs with
      | some (ini, d) => retA1 σ pre n cols vc ini d
      | none => .done [False]
    | _ => .done [False]
  | _ => .done [False]
def retKA (P : Program) (fn : Func) (pre : List DV) (n : Nat) (cols : List (Nat → DV)) : Exit → St → VT
  | .ret, σ => retVA P fn pre n cols σ
  | .normal, σ => retVA P fn pre n cols σ
  | _, _ => .done [False]
/-- A value is a struct whose last part is a new row. -/
def AggNew (S : Nat → Prop) (base : Nat) (pre : List DV) (n : Nat) (cols : List (Nat → DV)) (r : Value) (w' : World) : Prop := ∃ us v, r = .agg (us ++ [v]).toArray ∧ us.length = pre.length ∧ ((v = .slice none 0 0 ∧ n = 0 ∧ RelC (rdRes w' S base) (.agg pre) (.agg us.toArray)) ∨ ∃ g C cv T, v = .slice (some ⟨g, 0, none⟩) n C ∧ base ≤ g ∧ w'.heap[g]? = some (.cells cv T (0, 0)) ∧ cv.size = C * cols.length ∧ n ≤ C ∧
    (∀ (i j : Nat) (f : Nat → DV), i < n → cols[j]? = some f → ∃ u, cv[i * cols.length + j]? = some u ∧ oneV u = true ∧ RelC (fun a u => rdw w' a u ∧ a.block ≠ g ∧ (S a.block ∨ base ≤ a.block)) (f i) u) ∧
    RelC (fun a u => rdw w' a u ∧ a.block ≠ g ∧ (S a.block ∨ base ≤ a.block)) (.agg pre) (.agg us.toArray))

theorem retVA_sound {P : Program} {base : Nat} {w0 w : World} {S : Nat → Prop} {σ : St} {a : Act} {kn : Nat → Prop} {blk : Nat → Option Loc} (r : R base w0 ⟨S, [], w0, none, fun _ => False, fun _ => undef⟩ σ kn blk a w) {fn : Func} {pre : List DV} {n : Nat} {cols : List (Nat → DV)} (h : (retVA P fn pre n cols σ).holds) :
    ∃ v, (results fn a.tmps).run P w = .ok v w ∧ AggNew S base pre n cols v w := by
  unfold retVA at h
  split at h
  · rename_i rv hfn
    split at h
    · rename_i cs vc hres
      split at h
      · rename_i ini d hsp
        have hcs := splitLast_spec hsp
        unfold retA1 at h
        split at h
        · rename_i s id len
          split at h
          · rename_i es vc2 hls
            split at h
            · rename_i n' cols' hob
              cases hb : (Nat.beq cols'.length s && apA id ini)
              · simp only [hb, cond_false] at h; exact h.elim
              · simp only [hb, cond_true] at h
                rw [Bool.and_eq_true] at hb
                obtain ⟨hb, hap⟩ := hb
                have hisr : isRow σ.obj id s = true := by unfold isRow; rw [hob]; exact hb
                obtain ⟨h1, h2⟩ := AllP.app (AllT.all h)
                obtain ⟨hv2, h3⟩ := AllP.app h2
                obtain ⟨hlen, hle⟩ := h3.hd
                subst hlen
                obtain ⟨h4, h5⟩ := AllP.app h3.tl
                obtain ⟨k1, k2⟩ := leC_sound h4
                obtain ⟨v, hrun, hrel⟩ := results_one r hfn hres h1
                refine ⟨v, hrun, ?_⟩
                cases hrel with
                | agg hs hr =>
                rename_i vs
                rw [hcs] at hs hr
                have hvl : vs.toList.length = ini.length + 1 := by simpa using hs
                obtain ⟨us, vl, hus⟩ : ∃ us vl, vs.toList = us ++ [vl] := by
                  have hne : vs.toList ≠ [] := by intro e; rw [e] at hvl; simp at hvl
                  exact ⟨_, _, (List.dropLast_concat_getLast hne).symm⟩
                have hvs : vs = (us ++ [vl]).toArray := by rw [← hus]
                subst hvs
                have hul : us.length = ini.length := by simp at hvl; exact hvl
                have hini : ∀ (j : Nat) (d : DV) (v : Value), ini[j]? = some d → us[j]? = some v → Rel (rdOf w base ⟨S, [], w0, none, fun _ => False, fun _ => undef⟩ blk) kn blk d v := fun j d v hd hv => by
                  have hj := (List.getElem?_eq_some_iff.1 hd).1
                  refine hr j d v (by rw [List.getElem?_append_left hj]; exact hd) ?_
                  rw [List.getElem?_toArray, List.getElem?_append_left (by omega)]; exact hv
                have hlast : Rel (rdOf w base ⟨S, [], w0, none, fun _ => False, fun _ => undef⟩ blk) kn blk (.row s id 0 len) vl := by
                  refine hr ini.length _ _ (by rw [List.getElem?_append_right (Nat.le_refl _)]; simp) ?_
                  rw [List.getElem?_toArray, List.getElem?_append_right (by omega), hul]; simp
                have hel : es.length = ini.length := (lends_sound r hls hv2 hul hini).1
                have fin : ∀ {rd' : Rd}, (∀ a u, rdOf w base ⟨S, [], w0, none, fun _ => False, fun _ => undef⟩ blk a u → rd' a u) →
                    (∀ d id l g, d ∈ ini → id ∈ ownIds d → blk id = some l → l.has g → ∀ ad u, ad.block = g → rdw w ad u → rd' ad u) → RelC rd' (.agg pre) (.agg us.toArray) := fun hm ho => by
                  have := lends_rd r hm ho hls hv2 hul hini
                  exact leN_sound 4 h5 (.agg (by simp [hel, hul]) fun j d u hd hu => this j d u hd (by simpa using hu))
                have hpl : us.length = pre.length := by
                  have h9 : RelC (fun _ _ => True) (.agg pre) (.agg us.toArray) := fin (fun _ _ _ => trivial) fun _ _ _ _ _ _ _ _ _ _ _ _ => trivial
                  cases h9 with
                  | agg hs _ => simpa using hs
                refine ⟨us, vl, rfl, hpl, ?_⟩
                obtain ⟨_, ⟨rfl, _, rfl, _⟩ | ⟨g, C, rfl, hC, hl⟩ | ⟨h0, _⟩⟩ := row_val r hisr hlast
                rotate_left 2
                · omega
                · exact .inl ⟨rfl, rfl, fin (fun ad u ⟨x, y, z, _⟩ => ⟨x, z⟩) fun d id' l g hm hi hbk hg ad u e hu => ⟨hu, .inr (by rw [e]; exact (r.ge _ _ _ hbk hg).1.resolve_right fun h => h)⟩⟩
                · obtain ⟨_, hor⟩ := r.objs _ _ hob
                  rcases hor with ⟨hln, _⟩ | ⟨g', C', cv, T, hl', hh, hsz, hn', hcell⟩
                  · rw [hln] at hl; cases hl
                  · rw [hl] at hl'
                    cases hl'
                    refine .inr ⟨g, C, cv, T, by simp, ((r.ge _ _ _ hl rfl).1.resolve_right fun h => h), hh, by rw [hsz, k1], by omega, fun i j f hi hj => ?_, fin (fun ad u ⟨x, y, z, _⟩ => ⟨x, y _ _ hl, z⟩) fun d id' l g' hm hi hbk hg ad u e hu => ⟨hu, fun e2 => ?_, .inr (by rw [e]; exact (r.ge _ _ _ hbk hg).1.resolve_right fun h => h)⟩⟩
                    · have hjl : j < cols'.length := by rw [k1]; exact (List.getElem?_eq_some_iff.1 hj).1
                      have hj' := List.getElem?_eq_getElem hjl
                      obtain ⟨u, hu, ho, hr⟩ := hcell i j _ (by omega) hj'
                      refine ⟨u, by rw [← k1]; exact hu, ho, leN_sound 2 (k2 j _ f hj' hj i hi) (hr.mono (fun ad u ⟨x, y, z, _⟩ => ⟨x, y _ _ hl, z⟩) (fun _ h => h) fun _ _ h => h.elim)⟩
                    · have e3 : g' = g := by rw [← e, e2]
                      rw [e3] at hg
                      have := r.inj _ _ _ _ _ hl hbk rfl hg
                      exact apA_spec hap d hm (this ▸ hi)
            · exact h.elim
          · exact h.elim
        · exact h.elim
      · exact h.elim
    · exact h.elim
  · exact h.elim

theorem leaves_marksA {P : Program} {fn : Func} {w0 : World} {base : Nat} {S : Nat → Prop} {σ : St} {kn : Nat → Prop} {blk : Nat → Option Loc} {pre : List DV} {n : Nat} {cols : List (Nat → DV)} (hwr : w0.heap.size ≤ base)
    (hres : (retVA P fn pre n cols σ).holds) : ∀ {ds : List Deferred} {a : Act} {w : World}, a.defers = ds → R base w0 ⟨S, [], w0, none, fun _ => False, fun _ => undef⟩ σ kn blk a w →
    LeavesInM Fence.wide 1 P fn a.tmps (fun e w' => ∃ v, e = .returned v ∧ Below base w0 w' ∧ AggNew S base pre n cols v w') ds .returning w
  | [], a, w, hd, r => by
    obtain ⟨v, hrun, hrow⟩ := retVA_sound r hres
    exact ⟨v, hrun, v, rfl, r.below.none fun _ h => h, hrow⟩
  | d :: ds, a, w, hd, r => by
    obtain ⟨D, e, hD, hh⟩ := r.dfr.2 d (by rw [hd]; exact List.mem_cons_self)
    have hnd := r.dfr.1.1
    rw [hd, List.nodup_cons] at hnd
    refine ⟨(by intro h; cases h), .inl ⟨D, _, by rw [e], run_takeDeferred hh, ?_⟩⟩
    have r' : R base w0 ⟨S, [], w0, none, fun _ => False, fun _ => undef⟩ σ kn blk { a with defers := ds } w :=
      ⟨r.below, r.xs, r.hbase, ⟨⟨hnd.2, fun h => by cases h⟩, fun x hx => r.dfr.2 x (by rw [hd]; exact List.mem_cons_of_mem _ hx)⟩, r.kpo, r.rnd, r.mlow, r.shp, r.size, r.tmps, r.objs, r.inj, r.ge, r.live, r.pin⟩
    refine leaves_marksA hwr hres (a := { a with defers := ds }) rfl (r'.grown (grownBy_putObj' w D _) fun k hk => ?_)
    cases hk
    exact ⟨hD, .inr (fun ⟨es, c, h⟩ => by rw [hh] at h; cases h), Nat.le_trans hwr hD, ⟨_, hh, rfl⟩, fun x hx e2 => hnd.1 (by rw [e, ← e2]; exact hx)⟩

theorem FnA_of {P : Program} {A : Ann} (hm : P.follows .mixedOrders = true) {f : FuncId} {fn : Func} {c : Code} {args pre : List DV} {n : Nat} {cols : List (Nat → DV)} (hf : P.funcs[f]? = some fn) (hb : fn.body = some c) (hn : (fn.name == "runtime.NumGoroutine") = false) (hlen : args.length ≤ fn.ntmps)
    (h : (evalCode P A c { t := entry args 0, h := [], nx := 0, nt := fn.ntmps } (retKA P fn pre n cols)).holds) : FnA P f args pre n cols := by
  refine ⟨⟨fn, hf, by rw [hb]; rfl, hn⟩, fun S w vs hvs hargs hglob => Calls.mono (callsIn_wide.1 (callsIn_of_wp_marks (F := Fence.wide) (n := 1) (R := fun e w' => ∃ v, e = .returned v ∧ Below w.heap.size w w' ∧ AggNew S w.heap.size pre n cols v w') hf hb trivial ?_)) fun e w' ⟨v, he, hb', us, vl, hv, hul, hrow⟩ => ⟨us, vl, by rw [he, hv], hul, hb', hrow⟩⟩
  refine evalCode_sound (A := A) (ro := none) (m := 1) (base := w.heap.size) (w0 := w) (S0 := ⟨S, [], w, none, fun _ => False, fun _ => undef⟩) hm c (.inl ⟨⟨rfl, rfl⟩, rfl, Nat.le_refl 1⟩) _ _ _ h (fun e σ' hh a' w' hf' => ?_) _ _ ?_
  · have fin : (retVA P fn pre n cols σ').holds → LeavesInM Fence.wide 1 P fn a'.tmps (fun e w' => ∃ v, e = .returned v ∧ Below w.heap.size w w' ∧ AggNew S w.heap.size pre n cols v w') a'.defers .returning w' := by
      intro hh
      obtain ⟨kn, blk, r, _⟩ := hf'
      exact leaves_marksA (Nat.le_refl _) hh rfl r
    cases e with
    | ret => exact fin hh
    | normal => exact fin hh
    | _ => exact hh.elim
  · refine ⟨fun _ => False, fun _ => none, ⟨BelowX.refl _ _ _, (fun _ h => h.elim), Nat.le_refl _, ⟨by simp, fun d hd => by cases hd⟩, ⟨Nat.le_refl _, (fun B h => by cases h), fun _ _ h _ _ => h⟩, (fun h => absurd rfl h), (fun B h => by cases h), (fun d v hd => (hglob d v (by simpa using hd)).mono (fun ad u ⟨x, y⟩ => ⟨x, (fun id l e => by cases e), .inl y, fun B h => by cases h⟩) (fun _ h => h) fun _ _ h => h.elim), ?_, fun t => ?_, fun id o ho => ?_, (fun i i' l l' g e => by cases e), (fun i l g e => by cases e), (fun i l e => by cases e), fun t ht => absurd ht (Nat.not_lt_zero t)⟩, fun i hi => hi.elim⟩
    · simp; omega
    · have hrd : ∀ {d v}, RelC (rdArg w S) d v → Rel (rdOf w w.heap.size ⟨S, [], w, none, fun _ => False, fun _ => undef⟩ fun _ => none) (fun _ => False) (fun _ => none) d v := fun hr => hr.mono (fun ad u ⟨x, y⟩ => ⟨x, (fun id l e => by cases e), .inl y, fun B h => by cases h⟩) (fun _ h => h) fun _ _ h => h.elim
      unfold St.get
      simp only [look_entry, Nat.zero_le, if_true, Nat.sub_zero]
      cases ht : args[t]? with
      | none => exact .any _
      | some d =>
        have hlt : t < vs.size := by rw [hvs]; exact (List.getElem?_eq_some_iff.1 ht).1
        have hv : vs[t]? = some vs[t] := Array.getElem?_eq_getElem hlt
        have := hrd (hargs t d _ ht hv)
        simp only [Array.getD_eq_getD_getElem?, Array.getElem?_append, hlt, if_true, hv, Option.getD_some]
        exact this
    · simp [St.obj, look] at ho

/-- What is owed for such a contract. -/
def owedA (P : Program) (A : Ann) (f : FuncId) (args pre : List DV) (n : Nat) (cols : List (Nat → DV)) : VT := match P.funcs[f]? with
  | some fn => match fn.body with
    | some c => bif (!(fn.name == "runtime.NumGoroutine")) && Nat.ble args.length fn.ntmps then
        evalCode P A c { t := entry args 0, h := [], nx := 0, nt := fn.ntmps } (retKA P fn pre n cols) else .done [False]
    | none => .done [False]
  | none => .done [False]

theorem FnA_owed {P : Program} (hm : P.follows .mixedOrders = true) {f : FuncId} {args pre : List DV} {n : Nat} {cols : List (Nat → DV)} {V : VT} (A : Ann) (e : owedA P A f args pre n cols = V) (h : V.holds) : FnA P f args pre n cols := by
  subst e
  unfold owedA at h
  split at h
  · rename_i fn hf
    split at h
    · rename_i c hb
      cases hx : ((!(fn.name == "runtime.NumGoroutine")) && Nat.ble args.length fn.ntmps) with
      | false => simp only [hx, cond_false] at h; exact h.elim
      | true =>
        simp only [hx, cond_true] at h
        simp only [Bool.and_eq_true, Bool.not_eq_true'] at hx
        exact FnA_of hm hf hb hx.1 (Nat.le_of_ble_eq_true hx.2) h
    · exact h.elim
  · exact h.elim
end Go.Abs
