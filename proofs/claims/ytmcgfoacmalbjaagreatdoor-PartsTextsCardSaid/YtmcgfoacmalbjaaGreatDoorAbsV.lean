/- Contracts of functions that write rows and variables of their caller's. -/
import Derived.Test.YtmcgfoacmalbjaaGreatDoorAbsU
namespace Go.Abs
open Go Go.RowKit
def pinN : List WA → Nat → Nat → Nat
  | [], _, acc => acc
  | .arg _ :: r, k, acc => pinN r (k + 1) acc
  | _ :: r, k, _ => pinN r (k + 1) (k + 1)
theorem pinN_acc : ∀ (l : List WA) (k acc : Nat), acc ≤ k → acc ≤ pinN l k acc ∧ pinN l k acc ≤ k + l.length
  | [], k, acc, h => ⟨Nat.le_refl _, by simpa [pinN] using h⟩
  | a :: r, k, acc, h => by
    cases a with
    | arg d => have := pinN_acc r (k + 1) acc (by omega); simp only [pinN, List.length_cons]; omega
    | row n c c' => have := pinN_acc r (k + 1) (k + 1) (Nat.le_refl _); simp only [pinN, List.length_cons]; omega
    | box c c' => have := pinN_acc r (k + 1) (k + 1) (Nat.le_refl _); simp only [pinN, List.length_cons]; omega
theorem pinN_lt : ∀ {l : List WA} {k acc j : Nat} {a : WA}, acc ≤ k → l[j]? = some a → (∀ d, a ≠ .arg d) → k + j < pinN l k acc
  | x :: r, k, acc, 0, a, hk, h, hn => by
    simp only [List.getElem?_cons_zero, Option.some.injEq] at h
    subst h
    cases x with
    | arg d => exact absurd rfl (hn d)
    | row n c c' => have := pinN_acc r (k + 1) (k + 1) (Nat.le_refl _); simp only [pinN]; omega
    | box c c' => have := pinN_acc r (k + 1) (k + 1) (Nat.le_refl _); simp only [pinN]; omega
  | x :: r, k, acc, j + 1, a, hk, h, hn => by
    simp only [List.getElem?_cons_succ] at h
    cases x with
    | arg d => have := pinN_lt (l := r) (k := k + 1) (acc := acc) (by omega) h hn; simp only [pinN]; omega
    | row n c c' => have := pinN_lt (l := r) (k := k + 1) (acc := k + 1) (Nat.le_refl _) h hn; simp only [pinN]; omega
    | box c c' => have := pinN_lt (l := r) (k := k + 1) (acc := k + 1) (Nat.le_refl _) h hn; simp only [pinN]; omega
def wT : List WA → Nat → List (Nat × DV)
  | [], _ => []
  | .arg d :: r, k => (k, d) :: wT r (k + 1)
  | .row n cols _ :: r, k => (k, .row cols.length k 0 n) :: wT r (k + 1)
  | .box _ _ :: r, k => (k, .ptr k 0) :: wT r (k + 1)
def wH : List WA → Nat → List (Nat × Option AObj)
  | [], _ => []
  | .arg _ :: r, k => wH r (k + 1)
  | .row n cols _ :: r, k => (k, some (.row n cols)) :: wH r (k + 1)
  | .box cs _ :: r, k => (k, some (.box cs)) :: wH r (k + 1)
def wD : WA → Nat → DV
  | .arg d, _ => d
  | .row n cols _, k => .row cols.length k 0 n
  | .box _ _, k => .ptr k 0
def wO : WA → Option AObj
  | .arg _ => none
  | .row n cols _ => some (.row n cols)
  | .box cs _ => some (.box cs)
theorem look_wT : ∀ (l : List WA) (k t : Nat), look (wT l k) t = if k ≤ t then (l[t - k]?).map fun a => wD a t else none
  | [], k, t => by simp [wT, look]
  | a :: r, k, t => by
    have e : look (wT (a :: r) k) t = if k = t then some (wD a t) else look (wT r (k + 1)) t := by
      cases a <;> simp only [wT, look_cons] <;> (by_cases h : k = t <;> simp [h, wD])
    rw [e, look_wT r (k + 1) t]
    by_cases h : k = t
    · subst h; simp
    · rw [if_neg h]
      by_cases hk : k ≤ t
      · rw [if_pos (by omega), if_pos hk, show t - k = (t - (k + 1)) + 1 by omega, List.getElem?_cons_succ]
      · rw [if_neg (by omega), if_neg hk]
theorem look_wH : ∀ (l : List WA) (k t : Nat), look (wH l k) t = if k ≤ t then (l[t - k]?).bind fun a => (wO a).map some else none
  | [], k, t => by simp [wH, look]
  | a :: r, k, t => by
    have e : look (wH (a :: r) k) t = if k = t then (match wO a with | some o => some (some o) | none => look (wH r (k + 1)) t) else look (wH r (k + 1)) t := by
      cases a <;> simp only [wH, look_cons, wO] <;> (by_cases h : k = t <;> simp [h])
    have h0 : ∀ t, t ≤ k → look (wH r (k + 1)) t = none := fun t ht => by rw [look_wH r (k + 1) t, if_neg (by omega)]
    rw [e]
    by_cases h : k = t
    · subst h
      cases ho : wO a <;> simp [ho, h0 k (Nat.le_refl _)]
    · rw [if_neg h, look_wH r (k + 1) t]
      by_cases hk : k ≤ t
      · rw [if_pos (by omega), if_pos hk, show t - k = (t - (k + 1)) + 1 by omega, List.getElem?_cons_succ]
      · rw [if_neg (by omega), if_neg hk]
def wEnd1 (σ : St) (k : Nat) : WA → List Prop
  | .arg _ => []
  | .row n _ cols' => match σ.get k with
    | .row s id off _ => match off, σ.obj id with
      | 0, some (.row n2 c2) => bif Nat.beq c2.length s then (n ≤ n2) :: leC (leN 2) c2 cols' n else [False]
      | _, _ => [False]
    | _ => [False]
  | .box _ cs' => match σ.get k with
    | .ptr id 0 => match σ.obj id with
      | some (.box c2) => bif DV.closed.go c2 then leL (leN 2) c2 cs' else [False]
      | _ => [False]
    | _ => [False]
def wEnd (σ : St) : List WA → Nat → List Prop
  | [], _ => []
  | a :: r, k => wEnd1 σ k a ++ wEnd σ r (k + 1)
theorem wEnd_at {σ : St} : ∀ {l : List WA} {k : Nat}, AllP (wEnd σ l k) → ∀ j a, l[j]? = some a → AllP (wEnd1 σ (k + j) a)
  | a :: r, k, h, 0, a', ha => by cases ha; exact (AllP.app h).1
  | a :: r, k, h, j + 1, a', ha => by
    have := wEnd_at (AllP.app h).2 j a' (by simpa using ha)
    rwa [show k + 1 + j = k + (j + 1) by omega] at this
  | [], _, _, _, _, ha => by simp at ha
def wRet (P : Program) (fn : Func) (σ : St) : DV → List Prop
  | .row s p off n => match off, fn.results.toList with
    | 0, [rv] => match resOf P σ rv, σ.get p with
      | some (.row s1 id1 off1 len1, vc), .row s2 id2 off2 _ => match off1, off2 with
        | 0, 0 => bif Nat.beq id1 id2 && (Nat.beq s1 s2 && (isRow σ.obj id1 s1 && Nat.blt p σ.lo)) then vc ++ [len1 = n] else [False]
        | _, _ => [False]
      | _, _ => [False]
    | _, _ => [False]
  | d => bif d.plain then (match resList P σ fn.results.toList with
    | some (ds, vc) => vc ++ leN 4 (resDV ds) d
    | none => [False]) else [False]
def retVW (P : Program) (fn : Func) (args : List WA) (res : DV) (σ : St) : VT := bif Nat.beq σ.lo (pinN args 0 0) then .done (wEnd σ args 0 ++ wRet P fn σ res) else .done [False]
def retKW (P : Program) (fn : Func) (args : List WA) (res : DV) : Exit → St → VT
  | .ret, σ => retVW P fn args res σ
  | .normal, σ => retVW P fn args res σ
  | _, _ => .done [False]
section
variable {P : Program} {base : Nat} {w0 w : World} {S0 : Env} {σ : St} {kn : Nat → Prop} {blk : Nat → Option Loc} {a : Act}
theorem leaves_gen {fn : Func} {Post : World → Value → Prop} (hwr : S0.wr.heap.size ≤ base) (hres : ∀ a w, R base w0 S0 σ kn blk a w → ∃ v, (results fn a.tmps).run P w = .ok v w ∧ Post w v) :
    ∀ {ds : List Deferred} {a : Act} {w : World}, a.defers = ds → R base w0 S0 σ kn blk a w → LeavesInM Fence.wide 1 P fn a.tmps (fun e w' => ∃ v, e = .returned v ∧ Post w' v) ds .returning w
  | [], a, w, hd, r => by
    obtain ⟨v, hrun, hp⟩ := hres a w r
    exact ⟨v, hrun, v, rfl, hp⟩
  | d :: ds, a, w, hd, r => by
    obtain ⟨D, e, hD, hh⟩ := r.dfr.2 d (by rw [hd]; exact List.mem_cons_self)
    have hnd := r.dfr.1.1
    rw [hd, List.nodup_cons] at hnd
    refine ⟨(by intro h; cases h), .inl ⟨D, _, by rw [e], run_takeDeferred hh, ?_⟩⟩
    have r' : R base w0 S0 σ kn blk { a with defers := ds } w :=
      ⟨r.below, r.xs, r.hbase, ⟨⟨hnd.2, fun h => by have h9 := r.dfr.1.2 h; rw [hd] at h9; cases h9⟩, fun x hx => r.dfr.2 x (by rw [hd]; exact List.mem_cons_of_mem _ hx)⟩, r.kpo, r.rnd, r.mlow, r.shp, r.size, r.tmps, r.objs, r.inj, r.ge, r.live, r.pin⟩
    refine leaves_gen hwr hres (a := { a with defers := ds }) rfl (r'.grown (grownBy_putObj' w D _) fun k hk => ?_)
    cases hk
    exact ⟨hD, .inr (not_mapAt_mark hh), Nat.le_trans hwr hD, ⟨_, hh, rfl⟩, fun x hx e2 => hnd.1 (by rw [e, ← e2]; exact hx)⟩
def wLoc : WA → Value → Option Loc
  | .row .., .slice (some a) _ C => some (.at_ a.block C)
  | .row .., _ => some .nil
  | .box .., .pointer (some a) => some (.at_ a.block 0)
  | _, _ => none
theorem FnW_of (hm : P.follows .mixedOrders = true) {A : Ann} {f : FuncId} {fn : Func} {c : Code} {args : List WA} {res : DV} (hf : P.funcs[f]? = some fn) (hb : fn.body = some c) (hn : (fn.name == "runtime.NumGoroutine") = false) (hlen : args.length ≤ fn.ntmps)
    (h : (evalCode P A c { t := wT args 0, h := wH args 0, nx := args.length, nt := fn.ntmps, lo := pinN args 0 0 } (retKW P fn args res)).holds) (hx0 : ExtsOK P A := by exact extsOK_nil rfl) : FnW P f args res := by
  refine ⟨⟨fn, hf, by rw [hb]; rfl, hn⟩, fun S w vs b hvs hargs hbn hbi hbS hglob => callsIn_wide.1 (callsIn_of_wp_marks (F := Fence.wide) (n := 1) hf hb trivial ?_)⟩
  have hval : ∀ (j : Nat) (x : WA), args[j]? = some x → ∃ v, vs[j]? = some v ∧ x.pre w S v (b j) := fun j x hx => by
    have hlt : j < vs.size := by rw [hvs]; exact (List.getElem?_eq_some_iff.1 hx).1
    exact ⟨_, Array.getElem?_eq_getElem hlt, hargs j x _ hx (Array.getElem?_eq_getElem hlt)⟩
  -- the blocks that may turn are below
  have hblt : ∀ j g, b j = some g → g < w.heap.size := fun j g hg => by
    rcases Nat.lt_or_ge j args.length with hj | hj
    · obtain ⟨v, _, hp⟩ := hval j _ (List.getElem?_eq_getElem hj)
      generalize args[j] = x at hp
      cases x with
      | arg d => rw [hp.1] at hg; cases hg
      | row n cols cols' =>
        rcases hp.2 with ⟨_, _, e⟩ | ⟨g', C, e, _, cv, T, hh, _⟩
        · rw [e] at hg; cases hg
        · rw [e] at hg; cases hg; exact heap_lt hh
      | box cs cs' =>
        obtain ⟨_, g', e, _, cv, T, hh, _⟩ := hp
        rw [e] at hg; cases hg; exact heap_lt hh
    · rw [hbn j hj] at hg; cases hg
  let X : Nat → Prop := fun k => ∃ j, b j = some k
  let S0 : Env := ⟨fun k => S k ∨ X k, [], w, none, X, fun t => vs.getD t undef⟩
  let blk : Nat → Option Loc := fun id => match args[id]?, vs[id]? with
    | some x, some v => wLoc x v
    | _, _ => none
  have hblk : ∀ id x v, args[id]? = some x → vs[id]? = some v → blk id = wLoc x v := fun id x v h1 h2 => by simp only [blk, h1, h2]
  -- who owns what
  have hown : ∀ id l g, blk id = some l → l.has g → b id = some g := fun id l g e hg => by
    cases hx : args[id]? with
    | none => simp only [blk, hx] at e; cases e
    | some x =>
      obtain ⟨v, hv, hp⟩ := hval id x hx
      rw [hblk id x v hx hv] at e
      cases x with
      | arg d => cases v <;> simp [wLoc] at e
      | row n cols cols' =>
        rcases hp.2 with ⟨rfl, _, _⟩ | ⟨g', C, e2, rfl, _⟩
        · simp only [wLoc, Option.some.injEq] at e; subst e; exact hg.elim
        · simp only [wLoc, Option.some.injEq] at e; subst e; cases hg; exact e2
      | box cs cs' =>
        obtain ⟨_, g', e2, rfl, _⟩ := hp
        simp only [wLoc, Option.some.injEq] at e; subst e; cases hg; exact e2
  have hrdm : ∀ ad u, rdArg w S ad u → rdOf w w.heap.size S0 blk ad u := fun ad u ⟨x, y⟩ => ⟨x, fun id l e hg => hbS id _ (hown id l _ e hg) y, .inl (.inl y), fun B h => by cases h⟩
  have rel : ∀ {d : DV} {v : Value} (kn : Nat → Prop), RelC (rdArg w S) d v → Rel (rdOf w w.heap.size S0 blk) kn blk d v := fun {d v} kn h => relC_open (h.mono hrdm (fun _ h => h) fun _ _ h => h.elim)
  let kn : Nat → Prop := fun id => ∃ x, args[id]? = some x ∧ (wO x).isSome = true
  have hobj : ∀ id, St.obj { t := wT args 0, h := wH args 0, nx := args.length, nt := fn.ntmps, lo := pinN args 0 0 } id = (args[id]?).bind wO := fun id => by
    unfold St.obj
    simp only [look_wH, Nat.zero_le, if_true, Nat.sub_zero]
    cases args[id]? with
    | none => rfl
    | some x => cases hx : wO x <;> simp [hx]
  refine evalCode_sound (A := A) (ro := none) (m := 1) (base := w.heap.size) (w0 := w) (S0 := S0) hm hx0 c (.inl ⟨⟨rfl, rfl⟩, rfl, Nat.le_refl 1⟩) _ _ _ h (fun e σ' hh a' w' hf' => ?_) _ _ ⟨kn, blk, ⟨BelowX.refl _ _ _, fun _ h => .inr h, Nat.le_refl _, ⟨by simp, fun d hd => by cases hd⟩, ⟨Nat.le_refl _, (fun B h => by cases h), fun _ _ h _ _ => h⟩, (fun h => absurd rfl h), (fun B h => by cases h), (fun d v hd => rel kn (hglob d v (by
      have hd : (d, v) ∈ shG ++ ([] : List (DV × Value)) := hd
      simpa using hd))), ?_, fun t => ?_, fun id o ho => ?_, fun i i' l l' g e1 e2 g1 g2 => hbi _ _ _ (hown i l g e1 g1) (hown i' l' g e2 g2), fun i l g e hg => ⟨.inr ⟨i, hown i l g e hg⟩, hblt _ _ (hown i l g e hg)⟩, fun i l e => ?_, fun t ht => ?_⟩, fun i ⟨x, hx, _⟩ => (List.getElem?_eq_some_iff.1 hx).1⟩
  · -- the end
    have fin : (retVW P fn args res σ').holds → LeavesInM Fence.wide 1 P fn a'.tmps (fun e w' => ∃ v, e = .returned v ∧ WRes (rdRes w' S w.heap.size) vs v res ∧ BelowX w.heap.size (fun k => ∃ j, b j = some k) w w' ∧ ∀ (j : Nat) (x : WA) (v : Value), args[j]? = some x → vs[j]? = some v → x.post w' (rdRes w' S w.heap.size) v) a'.defers .returning w' := by
      intro hh
      obtain ⟨kn', blk', r, _⟩ := hf'
      unfold retVW at hh
      cases hlo : Nat.beq σ'.lo (pinN args 0 0) with
      | false => simp only [hlo, cond_false] at hh; exact hh.elim
      | true =>
        simp only [hlo, cond_true] at hh
        have hlo := Nat.eq_of_beq_eq_true hlo
        obtain ⟨h1, h2⟩ := AllP.app (AllT.all hh)
        refine leaves_gen (S0 := S0) (base := w.heap.size) (w0 := w) (Nat.le_refl w.heap.size) (fun a w' r => ?_) rfl r
        have hpn := (pinN_acc args 0 0 (Nat.le_refl _)).2
        have pin : ∀ j v, j < pinN args 0 0 → vs[j]? = some v → a.tmps.getD j undef = v := fun j v hj hv => by
          rw [r.pin j (by rw [hlo]; exact hj)]
          show vs.getD j undef = v
          rw [Array.getD_eq_getD_getElem?, hv]; rfl
        -- each argument's own object
        have row : ∀ (j n : Nat) (cols cols' : List (Nat → DV)) (v : Value) (g C : Nat), args[j]? = some (.row n cols cols') → vs[j]? = some v → v = .slice (some ⟨g, 0, none⟩) n C → ∃ id n2 c2, blk' id = some (.at_ g C) ∧ σ'.obj id = some (.row n2 c2) ∧ n ≤ n2 ∧ AllP (leC (leN 2) c2 cols' n) := fun j n cols cols' v g C hx hv hve => by
          have he := wEnd_at h1 j _ hx
          rw [Nat.zero_add] at he
          have ht := r.tmps j
          rw [pin j v (by have := pinN_lt (k := 0) (acc := 0) (Nat.le_refl _) hx (fun d h => by cases h); omega) hv, hve] at ht
          simp only [wEnd1] at he
          split at he
          · rename_i s id off len hg
            rw [hg] at ht
            split at he
            · rename_i n2 c2 hob
              cases hbq : Nat.beq c2.length s with
              | false => simp only [hbq, cond_false] at he; exact he.one.elim
              | true =>
                simp only [hbq, cond_true] at he
                cases ht with
                | row hk hp h0 h =>
                  obtain ⟨_, hor⟩ := r.objs _ _ hob
                  rcases hor with ⟨hl, _⟩ | ⟨g', C', cv, T, hl, _⟩
                  · have := (h0 hl).1; cases this
                  · rcases h g' C' hl with ⟨e1, _⟩ | ⟨e1, _⟩
                    · simp at e1
                      obtain ⟨rfl, rfl, rfl⟩ := e1
                      exact ⟨id, n2, c2, hl, hob, he.hd, he.tl⟩
                    · omega
            · exact he.one.elim
          · exact he.one.elim
        have box : ∀ (j : Nat) (cs cs' : List DV) (v : Value) (g : Nat), args[j]? = some (.box cs cs') → vs[j]? = some v → v = .pointer (some ⟨g, 0, none⟩) → ∃ id C c2, blk' id = some (.at_ g C) ∧ σ'.obj id = some (.box c2) ∧ DV.closed.go c2 = true ∧ AllP (leL (leN 2) c2 cs') := fun j cs cs' v g hx hv hve => by
          have he := wEnd_at h1 j _ hx
          rw [Nat.zero_add] at he
          have ht := r.tmps j
          rw [pin j v (by have := pinN_lt (k := 0) (acc := 0) (Nat.le_refl _) hx (fun d h => by cases h); omega) hv, hve] at ht
          simp only [wEnd1] at he
          split at he
          · rename_i id hg
            rw [hg] at ht
            split at he
            · rename_i c2 hob
              cases hbq : DV.closed.go c2 with
              | false => simp only [hbq, cond_false] at he; exact he.one.elim
              | true =>
                simp only [hbq, cond_true] at he
                cases ht with
                | ptr hk hp h =>
                  obtain ⟨_, g', C', cv, T, hl, _⟩ := r.objs _ _ hob
                  have := h g' C' hl
                  simp at this
                  subst this
                  exact ⟨id, C', c2, hl, hob, hbq, he⟩
            · exact he.one.elim
          · exact he.one.elim
        have owned : ∀ g, X g → ∃ id l, blk' id = some l ∧ l.has g := fun g ⟨j, hj⟩ => by
          have hjl : j < args.length := by
            rcases Nat.lt_or_ge j args.length with h | h
            · exact h
            · rw [hbn j h] at hj; cases hj
          have hx := List.getElem?_eq_getElem hjl
          obtain ⟨v, hv, hp⟩ := hval j _ hx
          generalize args[j] = x at hx hp
          cases x with
          | arg d => rw [hp.1] at hj; cases hj
          | row n cols cols' =>
            rcases hp.2 with ⟨_, _, e⟩ | ⟨g', C, e, hve, _⟩
            · rw [e] at hj; cases hj
            · rw [e] at hj; cases hj
              obtain ⟨id, _, _, hl, _⟩ := row j n cols cols' v g C hx hv hve
              exact ⟨id, _, hl, rfl⟩
          | box cs cs' =>
            obtain ⟨_, g', e, hve, _⟩ := hp
            rw [e] at hj; cases hj
            obtain ⟨id, C, _, hl, _⟩ := box j cs cs' v g hx hv hve
            exact ⟨id, _, hl, rfl⟩
        have hrd : ∀ ad u, rdOf w' w.heap.size S0 blk' ad u → rdRes w' S w.heap.size ad u := fun ad u ⟨x, y, z, _⟩ => ⟨x, by
          rcases z with (z | z) | z
          · exact .inl z
          · obtain ⟨id, l, e, hg⟩ := owned _ z
            exact absurd hg (y id l e)
          · exact .inr z⟩
        have relr : ∀ {d : DV} {v : Value}, RelC (rdOf w' w.heap.size S0 blk') d v → RelC (rdRes w' S w.heap.size) d v := fun h => h.mono hrd (fun _ h => h) fun _ _ h => h.elim
        have post : ∀ (j : Nat) (x : WA) (v : Value), args[j]? = some x → vs[j]? = some v → x.post w' (rdRes w' S w.heap.size) v := fun j x v hx hv => by
          cases x with
          | arg d => trivial
          | row n cols cols' =>
            intro g C hve
            obtain ⟨id, n2, c2, hl, hob, hnn, hle⟩ := row j n cols cols' v g C hx hv hve
            obtain ⟨_, hor⟩ := r.objs _ _ hob
            rcases hor with ⟨hl2, _⟩ | ⟨g', C', cv, T, hl2, hh, hsz, hn2, hcells⟩
            · rw [hl] at hl2; cases hl2
            · rw [hl] at hl2
              cases hl2
              obtain ⟨k1, k2⟩ := leC_sound hle
              refine ⟨cv, T, hh, by rw [← k1]; exact hsz, by omega, fun i q f hi hq => ?_⟩
              have hql : q < c2.length := by rw [k1]; exact (List.getElem?_eq_some_iff.1 hq).1
              have hcq := List.getElem?_eq_getElem hql
              obtain ⟨u, hu, ho, hr⟩ := hcells i q _ (by omega) hcq
              exact ⟨u, by rw [← k1]; exact hu, ho, leN_sound 2 (k2 q _ f hcq hq i hi) (relr hr)⟩
          | box cs cs' =>
            intro g hve
            obtain ⟨id, C, c2, hl, hob, hcl, hle⟩ := box j cs cs' v g hx hv hve
            obtain ⟨_, g', C', cv, T, hl2, hh, hsz, hr, ho⟩ := r.objs _ _ hob
            rw [hl] at hl2
            cases hl2
            obtain ⟨k1, k2⟩ := leL_sound hle
            refine ⟨cv, T, hh, by rw [← k1]; exact hsz, fun q d u hd hu => ?_, ho⟩
            have hql : q < c2.length := by rw [k1]; exact (List.getElem?_eq_some_iff.1 hd).1
            have hcq := List.getElem?_eq_getElem hql
            exact leN_sound 2 (k2 q _ d hcq hd) (relr ((hr q _ u hcq hu).close (closed_go hcl _ (List.mem_of_getElem? hcq))))
        have plain : ∀ d0 : DV, d0 = res → (∀ s p off n, d0 ≠ .row s p off n) → ∃ v, (results fn a.tmps).run P w' = .ok v w' ∧ WRes (rdRes w' S w.heap.size) vs v d0 := fun d0 hd0 hne => by
          rw [← hd0] at h2
          have h3 : AllP (bif d0.plain then (match resList P σ' fn.results.toList with
            | some (ds, vc) => vc ++ leN 4 (resDV ds) d0
            | none => [False]) else [False]) := by
            unfold wRet at h2
            split at h2
            · exact absurd rfl (hne _ _ _ _)
            · exact h2
          cases hpl : d0.plain with
          | false => simp only [hpl, cond_false] at h3; exact h3.one.elim
          | true =>
            simp only [hpl, cond_true] at h3
            split at h3
            · rename_i ds vc hds
              obtain ⟨k1, k2⟩ := AllP.app h3
              obtain ⟨v, hrun, hrel⟩ := results_run r hds k1
              refine ⟨v, hrun, ?_⟩
              have hrel2 : RelC (rdRes w' S w.heap.size) d0 v := (leN_sound 4 k2 hrel).plain hpl
              unfold WRes
              split
              · exact absurd rfl (hne _ _ _ _)
              · exact hrel2
            · exact h3.one.elim
        have done : ∃ v, (results fn a.tmps).run P w' = .ok v w' ∧ WRes (rdRes w' S w.heap.size) vs v res := by
          generalize hd0 : res = d0 at h2
          cases d0 with
          | row s p off n =>
            simp only [wRet] at h2
            split at h2
            · rename_i rv hfn
              split at h2
              · rename_i s1 id1 off1 len1 vc s2 id2 off2 len2 hres hp
                split at h2
                · cases hq : (Nat.beq id1 id2 && (Nat.beq s1 s2 && (isRow σ'.obj id1 s1 && Nat.blt p σ'.lo))) with
                  | false => simp only [hq, cond_false] at h2; exact h2.one.elim
                  | true =>
                    simp only [hq, cond_true] at h2
                    simp only [Bool.and_eq_true] at hq
                    obtain ⟨q1, q2, q3, q4⟩ := hq
                    obtain rfl := Nat.eq_of_beq_eq_true q1
                    obtain rfl := Nat.eq_of_beq_eq_true q2
                    obtain ⟨k1, k2⟩ := AllP.app h2
                    have hln := k2.one
                    obtain ⟨v, hrun, hrel⟩ := results_one r hfn hres k1
                    have hpp : p < pinN args 0 0 := by rw [← hlo]; exact Nat.le_of_ble_eq_true q4
                    have hpl : p < vs.size := by omega
                    have hvp := Array.getElem?_eq_getElem hpl
                    have ht := r.tmps p
                    rw [pin p _ hpp hvp, hp] at ht
                    refine ⟨v, hrun, ?_⟩
                    unfold WRes
                    simp only
                    obtain ⟨_, a1⟩ := row_val r q3 hrel
                    obtain ⟨_, a2⟩ := row_val r q3 ht
                    rcases a1 with ⟨e1, _, e2, hl1⟩ | ⟨g, C, e1, e2, hl1⟩ | ⟨e0, _⟩
                    · rcases a2 with ⟨f1, _, f2, _⟩ | ⟨g', C', f1, f2, hl2⟩ | ⟨f0, _⟩
                      · exact .inl ⟨by rw [hvp, f1], e1, by omega⟩
                      · rw [hl1] at hl2; cases hl2
                      · omega
                    · rcases a2 with ⟨f1, _, f2, hl2⟩ | ⟨g', C', f1, f2, hl2⟩ | ⟨f0, _⟩
                      · rw [hl1] at hl2; cases hl2
                      · rw [hl1] at hl2
                        cases hl2
                        exact .inr ⟨g, len2, C, by rw [hvp, f1]; simp, by rw [e1, ← hln]; simp, by omega⟩
                      · omega
                    · omega
                · exact h2.one.elim
              · exact h2.one.elim
            · exact h2.one.elim
          | _ => exact plain _ hd0.symm (by simp)
        obtain ⟨v, hrun, hres⟩ := done
        exact ⟨v, hrun, hres, r.below, post⟩
    cases e with
    | ret => exact fin hh
    | normal => exact fin hh
    | _ => exact hh.elim
  · simp; omega
  · unfold St.get
    simp only [look_wT, Nat.zero_le, if_true, Nat.sub_zero]
    cases ht : args[t]? with
    | none => exact .any _
    | some x =>
      obtain ⟨v, hv, hp⟩ := hval t x ht
      have hlt := (Array.getElem?_eq_some_iff.1 hv).1
      have e : (vs ++ Array.replicate (fn.ntmps - vs.size) undef).getD t undef = v := by
        simp only [Array.getD_eq_getD_getElem?, Array.getElem?_append, hlt, if_true, hv, Option.getD_some]
      show Rel _ _ _ (wD x t) _
      first | rw [e] | skip
      have hkn : (wO x).isSome = true → kn t := fun h => ⟨x, ht, h⟩
      have hb := hblk t x v ht hv
      cases x with
      | arg d => exact rel kn hp.2
      | row n cols cols' =>
        rcases hp.2 with ⟨rfl, h0, _⟩ | ⟨g, C, _, rfl, cv, T, _, _, hn, _⟩
        · subst h0
          refine .row (hkn rfl) ⟨_, _, rfl, fun _ => rfl⟩ (fun _ => ⟨rfl, rfl, rfl⟩) (fun g C e => ?_) fun g o C e => ?_ <;> (rw [hb] at e; simp [wLoc] at e)
        · refine .row (hkn rfl) ⟨_, _, rfl, fun h => by cases h⟩ (fun e => ?_) (fun g' C' e => ?_) fun g' o' C' e => ?_
          · rw [hb] at e; simp [wLoc] at e
          rotate_left
          · rw [hb] at e; simp [wLoc] at e
          · rw [hb] at e
            simp only [wLoc, Option.some.injEq, Loc.at_.injEq] at e
            obtain ⟨rfl, rfl⟩ := e
            exact .inl ⟨by simp, by omega⟩
      | box cs cs' =>
        obtain ⟨_, g, _, rfl, _⟩ := hp
        refine .ptr (hkn rfl) ⟨_, rfl⟩ fun g' C' e => ?_
        rw [hb] at e
        simp only [wLoc, Option.some.injEq, Loc.at_.injEq] at e
        rw [e.1]
  · rw [hobj] at ho
    cases hx : args[id]? with
    | none => simp [hx] at ho
    | some x =>
      simp only [hx, Option.bind_some] at ho
      obtain ⟨v, hv, hp⟩ := hval id x hx
      have hb := hblk id x v hx hv
      refine ⟨⟨x, hx, by rw [ho]; rfl⟩, ?_⟩
      rw [hb]
      cases x with
      | arg d => cases ho
      | row n cols cols' =>
        cases ho
        rcases hp.2 with ⟨rfl, h0, _⟩ | ⟨g, C, _, rfl, cv, T, hh, hsz, hn, hc⟩
        · exact .inl ⟨rfl, h0⟩
        · exact .inr ⟨g, C, cv, T, rfl, hh, hsz, hn, fun i j f hi hj => let ⟨u, a, b, c⟩ := hc i j f hi hj; ⟨u, a, b, c.mono hrdm (fun _ h => h) fun _ _ h => h.elim⟩⟩
      | box cs cs' =>
        cases ho
        obtain ⟨_, g, _, rfl, cv, T, hh, hsz, hr, h1⟩ := hp
        exact ⟨g, 0, cv, T, rfl, hh, hsz, fun j d u hd hu => rel kn (hr j d u hd hu), h1⟩
  · rw [hobj]
    cases hx : args[i]? with
    | none => simp only [blk, hx] at e; cases e
    | some x =>
      obtain ⟨v, hv, hp⟩ := hval i x hx
      rw [hblk i x v hx hv] at e
      cases x with
      | arg d => cases v <;> simp [wLoc] at e
      | row n cols cols' => exact ⟨_, rfl⟩
      | box cs cs' => exact ⟨_, rfl⟩
  · show _ = vs.getD t undef
    have ht : t < pinN args 0 0 := ht
    have hpn := (pinN_acc args 0 0 (Nat.le_refl _)).2
    have hlt : t < vs.size := by omega
    simp only [Array.getD_eq_getD_getElem?, Array.getElem?_append, hlt, if_true]
def owedW (P : Program) (A : Ann) (f : FuncId) (args : List WA) (res : DV) : VT := match P.funcs[f]? with
  | some fn => match fn.body with
    | some c => bif (!(fn.name == "runtime.NumGoroutine")) && Nat.ble args.length fn.ntmps then
        evalCode P A c { t := wT args 0, h := wH args 0, nx := args.length, nt := fn.ntmps, lo := pinN args 0 0 } (retKW P fn args res) else .done [False]
    | none => .done [False]
  | none => .done [False]
theorem FnW_owed (hm : P.follows .mixedOrders = true) {f : FuncId} {args : List WA} {res : DV} {V : VT} (A : Ann) (e : owedW P A f args res = V) (h : V.holds) (hx0 : ExtsOK P A := by exact extsOK_nil rfl) : FnW P f args res := by
  subst e
  unfold owedW at h
  split at h
  · rename_i fn hf
    split at h
    · rename_i c hb
      cases hx : ((!(fn.name == "runtime.NumGoroutine")) && Nat.ble args.length fn.ntmps) with
      | false => simp only [hx, cond_false] at h; exact h.elim
      | true =>
        simp only [hx, cond_true] at h
        simp only [Bool.and_eq_true, Bool.not_eq_true'] at hx
        exact FnW_of hm hf hb hx.1 (Nat.le_of_ble_eq_true hx.2) h hx0
    · exact h.elim
  · exact h.elim
end
end Go.Abs
