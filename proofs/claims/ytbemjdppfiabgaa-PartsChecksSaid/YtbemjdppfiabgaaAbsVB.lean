/- A callee that turns the row that a variable of its caller's holds: one loop. -/
import Derived.Test.YtbemjdppfiabgaaAbsV
namespace Go.Abs
open Go.RowKit

/-- The variable and its row, as they are handed over. -/
def boH (n : Nat) (U : Nat → Int) : List (Nat × Option AObj) := [(0, some (.box [.row 1 1 0 n])), (1, some (.row n [fun i => .val (.int .i64 (U i))]))]
def retVB (P : Program) (fn : Func) (n : Nat) (U' : Nat → Int) (y : Value) (σ : St) : VT := match σ.obj 0, σ.obj 1, resList P σ fn.results.toList with
  | some (.box [.row 1 1 0 m]), some (.row m2 [c]), some (ds, vc) => .done ((m = n) :: (m2 = n) :: intCol c :: (∀ i, i < n → iOfC (c i) = U' i) :: (vc ++ leN 4 (resDV ds) (.val y)))
  | _, _, _ => .done [False]
def retKB (P : Program) (fn : Func) (n : Nat) (U' : Nat → Int) (y : Value) : Exit → St → VT
  | .ret, σ => retVB P fn n U' y σ
  | .normal, σ => retVB P fn n U' y σ
  | _, _ => .done [False]
/-- The renaming leaves the variable and its row their names. -/
def fixB (ρ : Ren) : List Prop := match look ρ 0, look ρ 1 with
  | some (some 0), some (some 1) => []
  | _, _ => [False]
theorem fixB_spec {ρ : Ren} (h : AllP (fixB ρ)) : look ρ 0 = some (some 0) ∧ look ρ 1 = some (some 1) := by
  unfold fixB at h
  split at h
  · rename_i h0 h1; exact ⟨h0, h1⟩
  · exact h.one.elim
/-- One loop, calm code ahead of it, in it and behind it. -/
def evB (P : Program) (A : Ann) (a body r : Code) (id : Nat) (C : Note) (K : Exit → St → VT) (σ0 : St) : VT := evalCode P A a σ0 fun e σ => match e with
  | .normal => .loop C.ι (C.inv σ) (C.rd σ σ) (C.at σ σ ++ fixB (C.rn σ σ (C.rd σ σ))) fun i => evalCode P A body (C.st σ i) fun e σ' => match e with
    | .normal => .done (C.at σ σ' ++ (fixB (C.rn σ σ' (C.rd σ σ')) ++ [C.inv σ (C.rd σ σ'), C.mu σ (C.rd σ σ') < C.mu σ i]))
    | .exit j => bif Nat.beq j id then evalCode P A r σ' K else .done [False]
    | _ => .done [False]
  | _ => .done [False]

def shB (gb g n C : Nat) : List (DV × Value) := [(.ptr 0 0, .pointer (some ⟨gb, 0, none⟩)), (.row 1 1 0 n, .slice (some ⟨g, 0, none⟩) n C)]

section
variable {P : Program} {base : Nat} {w0 w : World} {σ σ' : St} {a : Act}
theorem weakenB {gb g n Cc : Nat} {S0 : Env} {ρ : Ren} (hsh : S0.sh = shB gb g n Cc) (hwb : S0.wb = none) (h : AllP (weakVC ρ σ σ')) (hfix : AllP (fixB ρ)) (hf : Fits base w0 S0 σ a w) : Fits base w0 S0 σ' a w := by
  obtain ⟨kn, blk, r, hk⟩ := hf
  obtain ⟨f0, f1⟩ := fixB_spec hfix
  have b0 : blkOf ρ blk 0 = blk 0 := by unfold blkOf; rw [f0]
  have b1 : blkOf ρ blk 1 = blk 1 := by unfold blkOf; rw [f1]
  refine ⟨_, _, weakenRS (fun d v hd => ?_) (fun h => absurd hwb h) h r⟩
  have hr := r.shp d v (List.mem_append_right _ hd)
  rw [hsh] at hd
  simp only [shB, List.mem_cons, List.not_mem_nil, or_false, Prod.mk.injEq] at hd
  rcases hd with ⟨rfl, rfl⟩ | ⟨rfl, rfl⟩
  · cases hr with
    | ptr _ hv hh => exact .ptr ⟨_, f0⟩ hv fun g C e => hh g C (b0 ▸ e)
  · cases hr with
    | row _ hv h0 h1 h2 => exact .row ⟨_, f1⟩ hv (fun e => h0 (b1 ▸ e)) (fun g C e => h1 g C (b1 ▸ e)) fun g o C e => h2 g o C (b1 ▸ e)

theorem evB_sound (hm : P.follows .mixedOrders = true) {A : Ann} (hx0 : ExtsOK P A) {x body r : Code} {id : Nat} {C : Note} {K : Exit → St → VT} {Q : Exit → Act → World → Prop} {S0 : Env} {gb g n Cc : Nat} (hsh : S0.sh = shB gb g n Cc) (hwb : S0.wb = none)
    (ca : calmC A x = true) (cb : calmC A body = true) (cr : calmC A r = true) (h : (evB P A x body r id C K σ).holds) (hK : ∀ e σ', (K e σ').holds → ∀ a w, Fits base w0 S0 σ' a w → Q e a w) (hf : Fits base w0 S0 σ a w) :
    (Code.seq x (.seq (.block id (.loop body)) r)).wpIn (FW none) 1 P Q a w := by
  unfold evB at h
  refine wpIn_seq (evalCode_sound hm hx0 x (.inr ca) σ _ _ h (fun e σ1 hh a1 w1 hf1 => ?_) a w hf)
  cases e with
  | normal =>
    obtain ⟨h1, h2, h3⟩ := hh
    obtain ⟨k1, k2⟩ := AllP.app (AllT.all h1)
    refine wpIn_seq (wpIn_block (loop_ghost_in (fun n a w => ∃ i, C.mu σ1 i = n ∧ C.inv σ1 i ∧ Fits base w0 S0 (C.st σ1 i) a w) (C.mu σ1 (C.rd σ1 σ1)) ⟨_, rfl, h2, weakenB hsh hwb k1 k2 hf1⟩ fun n a w ⟨i, hi, hinv, hfi⟩ => ?_))
    subst hi
    refine evalCode_sound hm hx0 body (.inr cb) _ _ _ (h3 i hinv) (fun e σ2 hh a' w' hf' => ?_) a w hfi
    cases e with
    | normal =>
      obtain ⟨k1, k2⟩ := AllP.app (AllT.all hh)
      obtain ⟨k2, k3⟩ := AllP.app k2
      exact ⟨_, k3.tl.one, _, rfl, k3.hd, weakenB hsh hwb k1 k2 hf'⟩
    | exit j =>
      simp only [Exit.then, Exit.inBlock]
      cases hb : Nat.beq j id with
      | true =>
        simp only [hb, cond_true] at hh
        rw [if_pos (Nat.eq_of_beq_eq_true hb)]
        exact evalCode_sound hm hx0 r (.inr cr) _ _ _ hh hK _ _ hf'
      | false =>
        simp only [hb, cond_false] at hh
        exact (AllT.all hh).one.elim
    | _ => exact (AllT.all hh).one.elim
  | _ => exact (AllT.all hh).one.elim

theorem FnB_of (hm : P.follows .mixedOrders = true) {A : Ann} {f : FuncId} {fn : Func} {c body rr : Code} {id : Nat} {C : Note} {x y : Value} {n : Nat} {U U' : Nat → Int} (hf : P.funcs[f]? = some fn) (hb : fn.body = some (.seq c (.seq (.block id (.loop body)) rr))) (hn : (fn.name == "runtime.NumGoroutine") = false) (hlen : 2 ≤ fn.ntmps)
    (ca : calmC A c = true) (cb : calmC A body = true) (cr : calmC A rr = true) (h : (evB P A c body rr id C (retKB P fn n U' y) { t := entry [.val x, .ptr 0 0] 0, h := boH n U, nx := 2, nt := fn.ntmps }).holds) (hx0 : ExtsOK P A := by exact extsOK_nil rfl) : FnB P f x n U U' y := by
  refine ⟨⟨fn, hf, by rw [hb]; rfl, hn⟩, fun S w gb g Cc cb0 cv T T2 hglob hSb hSg hgb hsb hc0 hne hg hsz hnC hcv => ?_⟩
  suffices hs : Calls P f #[x, .pointer (some ⟨gb, 0, none⟩)] w fun e w' => ∃ v, e = .returned v ∧ (v = y ∧ BelowX w.heap.size (fun k => k = gb ∨ k = g) w w' ∧ (∃ cb' T', w'.heap[gb]? = some (.cells cb' T' (0, 0)) ∧ cb'.size = 1 ∧ cb'[0]? = some (.slice (some ⟨g, 0, none⟩) n Cc)) ∧ ∃ cv' T2', w'.heap[g]? = some (.cells cv' T2' (0, 0)) ∧ cv'.size = Cc ∧ ∀ i, i < n → cv'[i]? = some (.int .i64 (U' i))) from hs.mono fun e w' ⟨v, hv, hv2, hp⟩ => ⟨by rw [hv, hv2], hp⟩
  refine callsIn_wide.1 (callsIn_of_wp_marks (F := Fence.wide) (n := 1) hf hb trivial ?_)
  let blk0 : Nat → Option Loc := fun i => if i = 0 then some (.at_ gb 1) else if i = 1 then some (.at_ g Cc) else none
  have hb0 : ∀ {i : Nat} {l : Loc}, blk0 i = some l → (i = 0 ∧ l = .at_ gb 1) ∨ (i = 1 ∧ l = .at_ g Cc) := fun {i l} e => by
    have e : (if i = 0 then some (Loc.at_ gb 1) else if i = 1 then some (.at_ g Cc) else none) = some l := e
    split at e
    · rename_i h; cases e; exact .inl ⟨h, rfl⟩
    · split at e
      · rename_i h; cases e; exact .inr ⟨h, rfl⟩
      · cases e
  have rp : ∀ {rd : Rd}, Rel rd (fun i => i < 2) blk0 (.ptr 0 0) (.pointer (some ⟨gb, 0, none⟩)) := .ptr (by decide) ⟨_, rfl⟩ fun g' C' e => by cases e; rfl
  have rr0 : ∀ {rd : Rd}, Rel rd (fun i => i < 2) blk0 (.row 1 1 0 n) (.slice (some ⟨g, 0, none⟩) n Cc) := .row (by decide) ⟨_, _, rfl, fun h => by cases h⟩ (fun e => by cases e) (fun g' C' e => by cases e; exact .inl ⟨by simp, by omega⟩) (fun g' o' C' e => by cases e)
  refine evB_sound (base := w.heap.size) (w0 := w) (S0 := ⟨fun k => S k ∨ (k = gb ∨ k = g), shB gb g n Cc, w, none, fun k => k = gb ∨ k = g, fun _ => undef⟩) hm hx0 rfl rfl ca cb cr h (fun e σ' hh a' w' hf' => ?_) ⟨fun i => i < 2, blk0, ⟨BelowX.refl _ _ _, fun _ h => .inr h, Nat.le_refl _, ⟨by simp, fun d hd => by cases hd⟩, ⟨Nat.le_refl _, fun B h => (by cases h), fun k o h _ _ => h⟩, fun h => absurd rfl h, (fun B h => by cases h), ?_, ?_, fun t => ?_, fun id o ho' => ?_, fun i i' l l' k e1 e2 g1 g2 => ?_, fun i l k e hgl => ?_, fun i l e => ?_, fun t ht => absurd ht (Nat.not_lt_zero t)⟩, fun i hi => hi⟩
  · -- the end
    have fin : (retVB P fn n U' y σ').holds → LeavesInM Fence.wide 1 P fn a'.tmps (fun e w' => ∃ v, e = .returned v ∧ (v = y ∧ BelowX w.heap.size (fun k => k = gb ∨ k = g) w w' ∧ (∃ cb' T', w'.heap[gb]? = some (.cells cb' T' (0, 0)) ∧ cb'.size = 1 ∧ cb'[0]? = some (.slice (some ⟨g, 0, none⟩) n Cc)) ∧ ∃ cv' T2', w'.heap[g]? = some (.cells cv' T2' (0, 0)) ∧ cv'.size = Cc ∧ ∀ i, i < n → cv'[i]? = some (.int .i64 (U' i)))) a'.defers .returning w' := by
      intro hh
      obtain ⟨kn', blk', r, _⟩ := hf'
      unfold retVB at hh
      split at hh
      · rename_i m m2 c2 ds vc ho0 ho1 hres
        have hh := AllT.all hh
        have e1 : m = n := hh.hd
        have e2 : m2 = n := hh.tl.hd
        have hcol : intCol c2 := hh.tl.tl.hd
        have hU : ∀ i, i < n → iOfC (c2 i) = U' i := hh.tl.tl.tl.hd
        obtain ⟨v1, v2⟩ := AllP.app hh.tl.tl.tl.tl
        subst e1
        subst e2
        refine leaves_gen (base := w.heap.size) (w0 := w) (Nat.le_refl w.heap.size) (fun a w' r => ?_) rfl r
        · obtain ⟨v, hrun, hrel⟩ := results_run r hres v1
          have hv := leN_sound 4 v2 hrel
          have hvy := hv.val_eq
          refine ⟨v, hrun, hvy, r.below, ?_⟩
          have s0 := r.shp (.ptr 0 0) (.pointer (some ⟨gb, 0, none⟩)) (List.mem_append_right _ List.mem_cons_self)
          have s1 := r.shp (.row 1 1 0 m2) (.slice (some ⟨g, 0, none⟩) m2 Cc) (List.mem_append_right _ (List.mem_cons_of_mem _ List.mem_cons_self))
          obtain ⟨_, g', C', cv', T', hl', hh', hsz', hr', _⟩ := r.objs _ _ ho0
          have hgg : g' = gb := by
            cases s0 with
            | ptr _ _ q =>
              have q := q g' C' hl'
              simp at q
              exact q.symm
          subst hgg
          obtain ⟨_, hrow⟩ := r.objs _ _ ho1
          have hl1 : ∃ cv2 T2', blk' 1 = some (.at_ g Cc) ∧ w'.heap[g]? = some (.cells cv2 T2' (0, 0)) ∧ cv2.size = Cc ∧ ∀ i, i < m2 → cv2[i]? = some (.int .i64 (U' i)) := by
            rcases hrow with ⟨hn, _⟩ | ⟨g2, C2, cv2, T2', hl2, hh2, hsz2, hn2, hc2⟩
            · cases s1 with
              | row _ _ q _ _ => have q := (q hn).1; cases q
            · have hg2 : g2 = g ∧ C2 = Cc := by
                cases s1 with
                | row _ _ _ q _ =>
                  rcases q g2 C2 hl2 with ⟨q, _⟩ | ⟨q, _⟩
                  · simp at q
                    exact ⟨q.1.symm, q.2.symm⟩
                  · omega
              obtain ⟨rfl, rfl⟩ := hg2
              refine ⟨cv2, T2', hl2, hh2, by simpa using hsz2, fun i hi => ?_⟩
              obtain ⟨u, hu, _, hr⟩ := hc2 i 0 c2 hi rfl
              rw [intCol_val hcol i, hU i hi] at hr
              cases hr
              simpa using hu
          obtain ⟨cv2, T2', hl1, hh2, hsz2, hc2⟩ := hl1
          refine ⟨⟨cv', T', hh', hsz', ?_⟩, cv2, T2', hh2, hsz2, hc2⟩
          have hsz' : cv'.size = 1 := hsz'
          have hu := Array.getElem?_eq_getElem (show 0 < cv'.size by omega)
          have hr0 := hr' 0 _ _ rfl hu
          rw [hu]
          generalize cv'[0] = u0 at hr0
          cases hr0 with
          | row _ _ _ q _ =>
            rcases q g Cc hl1 with ⟨q, _⟩ | ⟨q, _⟩
            · rw [q]; simp
            · omega
      · exact (AllT.all hh).one.elim
    cases e with
    | ret => exact fin hh
    | normal => exact fin hh
    | _ => exact (AllT.all hh).one.elim
  · intro d v hd
    rcases List.mem_append.1 hd with hd | hd
    · exact relC_open ((hglob d v hd).mono (fun ad u ⟨x, y⟩ => ⟨x, fun i l e hg => (by
        rcases hb0 e with ⟨_, rfl⟩ | ⟨_, rfl⟩
        · have hg : ad.block = gb := hg
          exact hSb (hg ▸ y)
        · have hg : ad.block = g := hg
          exact hSg (hg ▸ y)), .inl (.inl y), fun B h => by cases h⟩) (fun _ h => h) fun _ _ h => h.elim)
    · simp only [shB, List.mem_cons, List.not_mem_nil, or_false, Prod.mk.injEq] at hd
      rcases hd with ⟨rfl, rfl⟩ | ⟨rfl, rfl⟩
      · exact rp
      · exact rr0
  · simp; omega
  · unfold St.get
    simp only [look_entry, Nat.zero_le, if_true, Nat.sub_zero]
    match t with
    | 0 => simp [Array.getD_eq_getD_getElem?, Array.getElem?_append]; exact .val _
    | 1 => simp [Array.getD_eq_getD_getElem?, Array.getElem?_append]; exact rp
    | t + 2 => exact .any _
  · unfold St.obj boH at ho'
    simp only [look_cons] at ho'
    by_cases e : (0 : Nat) = id
    · subst e
      simp only [if_true, Option.some.injEq] at ho'
      subst ho'
      refine ⟨by decide, gb, 1, cb0, T, rfl, hgb, hsb, fun j d u hd hu => ?_, fun u hu => ?_⟩
      · match j, hd with
        | 0, hd =>
          cases hd
          rw [hc0] at hu
          cases hu
          exact rr0
      · obtain ⟨k, hk, rfl⟩ := List.getElem_of_mem hu
        have hk' : k < cb0.size := by simpa using hk
        have : k = 0 := by omega
        subst this
        have := Array.getElem?_eq_getElem hk'
        rw [hc0] at this
        simp only [Array.getElem_toList]
        rw [← Option.some.inj this]
        rfl
    · rw [if_neg e] at ho'
      by_cases e1 : (1 : Nat) = id
      · subst e1
        simp only [if_true, Option.some.injEq] at ho'
        subst ho'
        refine ⟨by decide, .inr ⟨g, Cc, cv, T2, rfl, hg, by simp [hsz], hnC, fun i j f hi hj => ?_⟩⟩
        match j, hj with
        | 0, hj =>
          cases hj
          exact ⟨_, by simpa using hcv i hi, rfl, .val _⟩
      · simp [e1, look] at ho'
  · rcases hb0 e1 with ⟨rfl, rfl⟩ | ⟨rfl, rfl⟩ <;> rcases hb0 e2 with ⟨rfl, rfl⟩ | ⟨rfl, rfl⟩
    · rfl
    · have h1 : k = gb := g1
      have h2 : k = g := g2
      exact absurd (h1.symm.trans h2) hne
    · have h1 : k = g := g1
      have h2 : k = gb := g2
      exact absurd (h2.symm.trans h1) hne
    · rfl
  · rcases hb0 e with ⟨rfl, rfl⟩ | ⟨rfl, rfl⟩
    · have hk : k = gb := hgl
      subst hk
      exact ⟨.inr (.inl rfl), heap_lt hgb⟩
    · have hk : k = g := hgl
      subst hk
      exact ⟨.inr (.inr rfl), heap_lt hg⟩
  · rcases hb0 e with ⟨rfl, rfl⟩ | ⟨rfl, rfl⟩
    · exact ⟨_, rfl⟩
    · exact ⟨_, rfl⟩

/-- What is owed for such a contract. -/
def owedB (P : Program) (A : Ann) (f : FuncId) (x : Value) (n : Nat) (U U' : Nat → Int) (y : Value) : VT := match P.funcs[f]? with
  | some fn => match fn.body with
    | some (.seq c (.seq (.block id (.loop body)) rr)) => match look1 A.loops id with
      | some C => bif (!(fn.name == "runtime.NumGoroutine")) && (Nat.ble 2 fn.ntmps && (calmC A c && (calmC A body && calmC A rr))) then
          evB P A c body rr id C (retKB P fn n U' y) { t := entry [.val x, .ptr 0 0] 0, h := boH n U, nx := 2, nt := fn.ntmps } else .done [False]
      | none => .done [False]
    | _ => .done [False]
  | none => .done [False]
theorem FnB_owed (hm : P.follows .mixedOrders = true) {f : FuncId} {x y : Value} {n : Nat} {U U' : Nat → Int} {V : VT} (A : Ann) (e : owedB P A f x n U U' y = V) (h : V.holds) (hx0 : ExtsOK P A := by exact extsOK_nil rfl) : FnB P f x n U U' y := by
  subst e
  unfold owedB at h
  split at h
  · rename_i fn hf
    split at h
    · rename_i c id body rr hb
      split at h
      · rename_i C _
        cases hx : ((!(fn.name == "runtime.NumGoroutine")) && (Nat.ble 2 fn.ntmps && (calmC A c && (calmC A body && calmC A rr)))) with
        | false => simp only [hx, cond_false] at h; exact (AllT.all h).one.elim
        | true =>
          simp only [hx, cond_true] at h
          simp only [Bool.and_eq_true, Bool.not_eq_true'] at hx
          exact FnB_of hm hf hb hx.1 (Nat.le_of_ble_eq_true hx.2.1) hx.2.2.1 hx.2.2.2.1 hx.2.2.2.2 h hx0
      · exact (AllT.all h).one.elim
    · exact (AllT.all h).one.elim
  · exact (AllT.all h).one.elim
end
end Go.Abs
