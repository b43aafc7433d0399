/- A whole body: what is owed for it, as a tree; a function's contract out of it. -/
import Derived.Test.YtgdmnlenkciklaaAbsS
import Derived.Deep.LoopGhost
set_option linter.unusedVariables false
namespace Go.Abs
open Go.RowKit

/-- What is owed for a body. -/
inductive VT : Type 1 where
  | need (ps : List Prop) (k : VT)
  | ite (b : Bool) (x y : VT)
  | done (ps : List Prop)
  | loop (ι : Type) (inv : ι → Prop) (i0 : ι) (start : List Prop) (round : ι → VT)
  | cut (ι : Type) (inv : ι → Prop) (x : VT) (rest : ι → VT)

def VT.holds : VT → Prop
  | .need ps k => AllT ps ∧ k.holds
  | .ite b x y => (b = true → x.holds) ∧ (b = false → y.holds)
  | .done ps => AllT ps
  | .loop _ inv i0 start round => AllT start ∧ inv i0 ∧ ∀ i, inv i → (round i).holds
  | .cut _ inv x rest => x.holds ∧ ∀ i, inv i → (rest i).holds

/-- What is said of a place in the code, by an index: which temps stay as they were, which boxes (by the temp that points there); the temps anew, the boxes' cells anew, the rows (temp, cells an element, length, columns); what holds of the index; how it is read off a state. The state ahead of the place comes first. -/
structure Note : Type 1 where
  ι : Type
  keep : List Nat
  boxes : List Nat
  ts : St → ι → List (Nat × DV)
  bx : St → ι → List (Nat × List DV) := fun _ _ => []
  rw : St → ι → List (Nat × Nat × Nat × List (Nat → DV)) := fun _ _ => []
  inv : St → ι → Prop
  mu : St → ι → Nat
  rd : St → St → ι

def pid : DV → Nat
  | .ptr id _ => id
  | _ => 0
def rid : DV → Option Nat
  | .row _ id _ _ => some id
  | _ => none
def keepT (σ : St) : List Nat → List (Nat × DV)
  | [] => []
  | t :: r => (t, σ.get t) :: keepT σ r
def rowT : List (Nat × Nat × Nat × List (Nat → DV)) → Nat → List (Nat × DV)
  | [], _ => []
  | (t, s, n, _) :: r, id => (t, .row s id 0 n) :: rowT r (id + 1)
def rowH : List (Nat × Nat × Nat × List (Nat → DV)) → Nat → List (Nat × Option AObj)
  | [], _ => []
  | (_, _, n, cols) :: r, id => (id, some (.row n cols)) :: rowH r (id + 1)
def rowR (σ' : St) : List (Nat × Nat × Nat × List (Nat → DV)) → Nat → Ren
  | [], _ => []
  | (t, _, _, _) :: r, id => (id, rid (σ'.get t)) :: rowR σ' r (id + 1)
def boxH (σ : St) : List (Nat × List DV) → List (Nat × Option AObj)
  | [] => []
  | (t, cs) :: r => (pid (σ.get t), some (.box cs)) :: boxH σ r
def boxR (σ σ' : St) : List (Nat × List DV) → Ren
  | [] => []
  | (t, _) :: r => (pid (σ.get t), some (pid (σ'.get t))) :: boxR σ σ' r
def keepH (σ : St) : List Nat → List (Nat × Option AObj)
  | [] => []
  | t :: r => (pid (σ.get t), σ.obj (pid (σ.get t))) :: keepH σ r
def keepR (σ σ' : St) : List Nat → Ren
  | [] => []
  | t :: r => (pid (σ.get t), some (pid (σ'.get t))) :: keepR σ σ' r
/-- The state at the place, for one index; 'σ' is the state before it. -/
def Note.st (C : Note) (σ : St) (i : C.ι) : St where
  t := C.ts σ i ++ (rowT (C.rw σ i) σ.nx ++ keepT σ C.keep)
  h := rowH (C.rw σ i) σ.nx ++ (boxH σ (C.bx σ i) ++ keepH σ C.boxes)
  nx := σ.nx + 100
  nt := σ.nt
def Note.rn (C : Note) (σ σ' : St) (i : C.ι) : Ren := rowR σ' (C.rw σ i) σ.nx ++ (boxR σ σ' (C.bx σ i) ++ keepR σ σ' C.boxes)
/-- What is owed where the place is reached in state σ'. -/
def Note.at (C : Note) (σ σ' : St) : List Prop := weakVC (C.rn σ σ' (C.rd σ σ')) σ' (C.st σ (C.rd σ σ'))

structure Ann : Type 1 where
  orc : List (Nat × List (Nat × Orc))
  loops : List (Nat × Note)
  cuts : List (Nat × Note)

def look1 {α : Type 1} : List (Nat × α) → Nat → Option α
  | [], _ => none
  | (k, v) :: r, i => bif Nat.beq k i then some v else look1 r i

def orcsAt (l : List (Nat × List (Nat × Orc))) (k : Nat) : List (Nat × Orc) := match look l k with
  | some o => o
  | none => []

def firstRegion : Code → Option Nat
  | .region id _ _ => some id
  | .seq a b => match firstRegion a with
    | some n => some n
    | none => firstRegion b
  | .block _ c => firstRegion c
  | .loop c => firstRegion c
  | _ => none

def cutAt (A : Ann) (c : Code) : Option Note := match A.cuts with
  | [] => none
  | l => match firstRegion c with
    | some n => look1 l n
    | none => none

def evalCode (P : Program) (A : Ann) : Code → St → (Exit → St → VT) → VT
  | .skip, σ, K => K .normal σ
  | .label _, σ, K => K .normal σ
  | .ret, σ, K => K .ret σ
  | .exit id, σ, K => K (.exit id) σ
  | .region id ops draw, σ, K =>
    match regionOut P ops (orcsAt A.orc id) σ with
    | (σ', vcs) => bif draw then (bif drawOK P ops (orcsAt A.orc id) σ then (match vcs with | [] => K .normal σ' | vcs => .need vcs (K .normal σ')) else .done [False])
      else (match vcs with | [] => K .normal σ' | vcs => .need vcs (K .normal σ'))
  | .seq a b, σ, K => match cutAt A b with
    | none => evalCode P A a σ fun e σ' => match e with
      | .normal => evalCode P A b σ' K
      | e => K e σ'
    | some C => .cut C.ι (C.inv σ) (evalCode P A a σ fun e σ' => match e with
      | .normal => .done (C.at σ σ' ++ [C.inv σ (C.rd σ σ')])
      | e => K e σ') fun i => evalCode P A b (C.st σ i) K
  | .cond c a b, σ, K => match σ.ev c with
    | .val (.bool p) => .ite p (evalCode P A a σ K) (evalCode P A b σ K)
    | _ => .done [False]
  | .block id (.loop body), σ, K => match look1 A.loops id with
    | some C => .loop C.ι (C.inv σ) (C.rd σ σ) (C.at σ σ) fun i => evalCode P A body (C.st σ i) fun e σ' => match e with
      | .normal => .done (C.at σ σ' ++ [C.inv σ (C.rd σ σ'), C.mu σ (C.rd σ σ') < C.mu σ i])
      | .exit j => bif Nat.beq j id then K .normal σ' else K (.exit j) σ'
      | e => K e σ'
    | none => .done [False]
  | .block id c, σ, K => evalCode P A c σ fun e σ' => match e with
    | .exit j => bif Nat.beq j id then K .normal σ' else K (.exit j) σ'
    | e => K e σ'
  | _, _, _ => .done [False]

section
variable {P : Program} {A : Ann} {base : Nat} {w0 : World} {S0 : Nat → Prop}

theorem need_holds {vcs : List Prop} {k : VT} (h : (match vcs with | [] => k | vcs => .need vcs k).holds) : AllT vcs ∧ k.holds := by
  cases vcs with
  | nil => exact ⟨trivial, h⟩
  | cons p r => exact h

theorem AllT_app : ∀ {l m : List Prop}, AllP (l ++ m) → AllP l ∧ AllP m := fun h => AllP.app h

def SoundAt (P : Program) (A : Ann) (base : Nat) (w0 : World) (S0 : Nat → Prop) (c : Code) : Prop := ∀ (σ : St) (K : Exit → St → VT) (Q : Exit → Act → World → Prop), (evalCode P A c σ K).holds →
    (∀ e σ', (K e σ').holds → ∀ a w, Fits base w0 S0 σ' a w → Q e a w) → ∀ a w, Fits base w0 S0 σ a w → c.wp P Q a w

theorem evalCode_both (hm : P.follows .mixedOrders = true) : ∀ (c : Code), SoundAt P A base w0 S0 c ∧ ∀ body, c = .loop body → SoundAt P A base w0 S0 body := by
  intro c
  induction c with
  | skip => refine ⟨?_, fun b e => by cases e⟩; intro σ K Q h hK a w hf; exact wp_skip (hK _ _ h a w hf)
  | label l => refine ⟨?_, fun b e => by cases e⟩; intro σ K Q h hK a w hf; exact wp_label (hK _ _ h a w hf)
  | ret => refine ⟨?_, fun b e => by cases e⟩; intro σ K Q h hK a w hf; exact wp_ret (hK _ _ h a w hf)
  | exit id => refine ⟨?_, fun b e => by cases e⟩; intro σ K Q h hK a w hf; exact wp_exit (hK _ _ h a w hf)
  | region id ops draw =>
    refine ⟨?_, fun b e => by cases e⟩
    intro σ K Q h hK a w hf
    simp only [evalCode] at h
    cases hd : draw with
    | false =>
      simp only [hd, cond_false] at h
      obtain ⟨h1, h2⟩ := need_holds h
      exact region_sound hf h1.all fun a' w' hf' => hK _ _ h2 a' w' hf'
    | true =>
      simp only [hd, cond_true] at h
      cases ho : drawOK P ops (orcsAt A.orc id) σ with
      | false => simp only [ho, cond_false] at h; exact h.elim
      | true =>
        simp only [ho, cond_true] at h
        obtain ⟨h1, h2⟩ := need_holds h
        exact region_draw_sound hm hf h1.all ho fun a' w' hf' => hK _ _ h2 a' w' hf'
  | seq x y ihx ihy =>
    refine ⟨?_, fun b e => by cases e⟩
    intro σ K Q h hK a w hf
    simp only [evalCode] at h
    refine wp_seq ?_
    split at h
    · refine ihx.1 σ _ _ h (fun e σ' hh a' w' hf' => ?_) a w hf
      cases e with
      | normal => exact ihy.1 σ' K Q hh hK a' w' hf'
      | _ => exact hK _ _ hh a' w' hf'
    · rename_i C _
      obtain ⟨h1, h2⟩ := h
      refine ihx.1 σ _ _ h1 (fun e σ' hh a' w' hf' => ?_) a w hf
      cases e with
      | normal =>
        obtain ⟨k1, k2⟩ := AllP.app (AllT.all hh)
        exact ihy.1 _ K Q (h2 _ k2.one) hK a' w' (weaken k1 hf')
      | _ => exact hK _ _ hh a' w' hf'
  | cond c x y ihx ihy =>
    refine ⟨?_, fun b e => by cases e⟩
    intro σ K Q h hK a w hf
    simp only [evalCode] at h
    split at h
    · rename_i p hp
      obtain ⟨kn, blk, r, hk⟩ := hf
      have hv := r.ev c
      rw [hp] at hv
      exact wp_cond_split hv.val_eq (fun hp => ihx.1 σ K Q (h.1 hp) hK a w ⟨kn, blk, r, hk⟩) fun hp => ihy.1 σ K Q (h.2 hp) hK a w ⟨kn, blk, r, hk⟩
    · exact h.elim
  | block id c ih =>
    refine ⟨?_, fun b e => by cases e⟩
    intro σ K Q h hK a w hf
    have plain : (evalCode P A c σ fun e σ' => match e with
        | .exit j => bif Nat.beq j id then K .normal σ' else K (.exit j) σ'
        | e => K e σ').holds → (Code.block id c).wp P Q a w := by
      intro h
      refine wp_block (ih.1 σ _ _ h (fun e σ' hh a' w' hf' => ?_) a w hf)
      cases e with
      | exit j =>
        simp only [Exit.inBlock]
        cases hb : Nat.beq j id with
        | true =>
          simp only [hb, cond_true] at hh
          rw [if_pos (Nat.eq_of_beq_eq_true hb)]
          exact hK _ _ hh a' w' hf'
        | false =>
          simp only [hb, cond_false] at hh
          rw [if_neg (fun e => by rw [e] at hb; simp at hb)]
          exact hK _ _ hh a' w' hf'
      | _ => exact hK _ _ hh a' w' hf'
    cases c with
    | loop body =>
      simp only [evalCode] at h
      split at h
      · rename_i C _
        obtain ⟨h1, h2, h3⟩ := h
        -- the loop's own statement, out of the induction's for 'loop body'
        have hbody := ih.2 body rfl
        refine wp_block (wp_loop_ghost (fun n a w => ∃ i, C.mu σ i = n ∧ C.inv σ i ∧ Fits base w0 S0 (C.st σ i) a w) (C.mu σ (C.rd σ σ)) ⟨_, rfl, h2, weaken (AllT.all h1) hf⟩ fun n a w ⟨i, hi, hinv, hfi⟩ => ?_)
        subst hi
        refine hbody _ _ _ (h3 i hinv) (fun e σ' hh a' w' hf' => ?_) a w hfi
        cases e with
        | normal =>
          obtain ⟨k1, k2⟩ := AllP.app (AllT.all hh)
          exact ⟨_, k2.tl.one, _, rfl, k2.hd, weaken k1 hf'⟩
        | exit j =>
          simp only [Exit.then, Exit.inBlock]
          cases hb : Nat.beq j id with
          | true =>
            simp only [hb, cond_true] at hh
            rw [if_pos (Nat.eq_of_beq_eq_true hb)]
            exact hK _ _ hh a' w' hf'
          | false =>
            simp only [hb, cond_false] at hh
            rw [if_neg (fun e => by rw [e] at hb; simp at hb)]
            exact hK _ _ hh a' w' hf'
        | _ => exact hK _ _ hh a' w' hf'
      · exact h.elim
    | _ => exact plain (by simpa only [evalCode] using h)
  | loop body ih => exact ⟨fun σ K Q h hK a w hf => h.elim, fun b e => by cases e; exact ih.1⟩
  | _ => exact ⟨fun σ K Q h hK a w hf => h.elim, fun b e => by cases e⟩

theorem evalCode_sound (hm : P.follows .mixedOrders = true) (c : Code) : SoundAt P A base w0 S0 c := (evalCode_both hm c).1

/-- What a body hands back: each result as a value that bears no id. -/
def resOf (P : Program) (σ : St) : ResultVar → Option (DV × List Prop)
  | .tmp t => match (σ.get t).cond? with
    | none => some ((σ.get t).un, [])
    | some _ => none
  | .cell t ty => match σ.get t with
    | .ptr id j => match evLoad P σ.obj ty (.ptr id j) with
      | { d, hw := [], vc } => some (d, vc)
      | _ => none
    | _ => none
def frzL (ob : Heap) : List DV → Option (List DV × List Prop)
  | [] => some ([], [])
  | d :: r => match lend ob d, frzL ob r with
    | some (e, vc), some (es, vcs) => some (e :: es, vc ++ vcs)
    | _, _ => none
def frz (ob : Heap) : DV → Option (DV × List Prop)
  | .agg cs => match frzL ob cs with
    | some (es, vc) => some (.agg es, vc)
    | none => none
  | d => lend ob d
def resList (P : Program) (σ : St) : List ResultVar → Option (List DV × List Prop)
  | [] => some ([], [])
  | rv :: r => match resOf P σ rv with
    | some (d, vc) => match frz σ.obj d, resList P σ r with
      | some (e, vc1), some (es, vcs) => some (e :: es, vc ++ (vc1 ++ vcs))
      | _, _ => none
    | none => none
def resDV : List DV → DV
  | [d] => d
  | l => .tup l
def retVT (P : Program) (fn : Func) (res : DV) (σ : St) : VT := match resList P σ fn.results.toList with
  | some (ds, vc) => .done (vc ++ leN 3 (resDV ds) res)
  | none => .done [False]
def retK (P : Program) (fn : Func) (res : DV) : Exit → St → VT
  | .ret, σ => retVT P fn res σ
  | .normal, σ => retVT P fn res σ
  | _, _ => .done [False]
def entry : List DV → Nat → List (Nat × DV)
  | [], _ => []
  | d :: r, k => (k, d) :: entry r (k + 1)

section
variable {w : World} {σ : St} {a : Act} {kn : Nat → Prop} {blk : Nat → Option Loc}

theorem frzL_sound (r : R base w0 S0 σ kn blk a w) : ∀ {ds es : List DV} {vc : List Prop}, frzL σ.obj ds = some (es, vc) → AllP vc → es.length = ds.length ∧
    ∀ (j : Nat) (d e : DV) (v : Value), ds[j]? = some d → es[j]? = some e → Rel (rdOf w base S0 blk) kn blk d v → RelC (rdRes w S0 base) e v
  | [], es, vc, h, _ => by
    simp only [frzL, Option.some.injEq, Prod.mk.injEq] at h
    obtain ⟨rfl, rfl⟩ := h
    exact ⟨rfl, by simp⟩
  | d :: ds, es, vc, h, hvc => by
    simp only [frzL] at h
    split at h
    · rename_i e vc1 es1 vcs1 h1 h2
      simp only [Option.some.injEq, Prod.mk.injEq] at h
      obtain ⟨rfl, rfl⟩ := h
      obtain ⟨k1, k2⟩ := AllP.app hvc
      obtain ⟨l1, l2⟩ := frzL_sound r h2 k2
      refine ⟨by simp [l1], fun j d' e' v hd he hv => ?_⟩
      cases j with
      | zero =>
        simp only [List.getElem?_cons_zero, Option.some.injEq] at hd he
        subst hd he
        exact (lend_sound r h1 k1 hv).1
      | succ j => exact l2 j d' e' v (by simpa using hd) (by simpa using he) hv
    · cases h

theorem frz_sound (r : R base w0 S0 σ kn blk a w) {d e : DV} {vc : List Prop} {v : Value} (h : frz σ.obj d = some (e, vc)) (hvc : AllP vc) (hv : Rel (rdOf w base S0 blk) kn blk d v) : RelC (rdRes w S0 base) e v := by
  unfold frz at h
  split at h
  · split at h
    · rename_i es vc' hl
      simp only [Option.some.injEq, Prod.mk.injEq] at h
      obtain ⟨rfl, rfl⟩ := h
      obtain ⟨l1, l2⟩ := frzL_sound r hl hvc
      cases hv with
      | agg hs hr =>
        refine .agg (by rw [l1]; exact hs) fun j d u hd hu => ?_
        have hlt := (List.getElem?_eq_some_iff.1 hd).1
        have hd' := List.getElem?_eq_getElem (l1 ▸ hlt)
        exact l2 j _ d u hd' hd (hr j _ u hd' hu)
    · cases h
  · exact (lend_sound r h hvc hv).1

/-- What the machine reads for one result. -/
def resSem (a : Act) : ResultVar → Sem Value
  | .tmp t => pure (a.tmps.getD t undef)
  | .cell b t => do loadVar t (← asAddr (a.tmps.getD b undef))

theorem resOf_sound (r : R base w0 S0 σ kn blk a w) {rv : ResultVar} {d : DV} {vc : List Prop} (h : resOf P σ rv = some (d, vc)) (hvc : AllP vc) :
    ∃ v, (resSem a rv).run P w = .ok v w ∧ Rel (rdOf w base S0 blk) kn blk d v := by
  unfold resOf at h
  split at h
  · rename_i t
    split at h
    · rename_i hc
      simp only [Option.some.injEq, Prod.mk.injEq] at h
      obtain ⟨rfl, rfl⟩ := h
      exact ⟨_, rfl, (r.tmps t).un fun b hb => by rw [hc] at hb; cases hb⟩
    · cases h
  · rename_i t ty
    split at h
    · rename_i id j hp
      split at h
      · rename_i d' vc' he
        simp only [Option.some.injEq, Prod.mk.injEq] at h
        obtain ⟨rfl, rfl⟩ := h
        have hv := r.tmps t
        rw [hp] at hv
        obtain ⟨_, v, hrun, hrel⟩ := evLoad_sound (P := P) (t := ty) r (by rw [he]; exact hvc) hv
        rw [he] at hrel
        obtain ⟨_, ⟨ad, had⟩, _⟩ := ptr_val' hv
        refine ⟨v, ?_, hrel⟩
        simp only [resSem]
        rw [had] at hrun ⊢
        simpa [Instr.loadAt, Instr.sureAddr, asAddr] using hrun
      · cases h
    · cases h

theorem resList_sound (r : R base w0 S0 σ kn blk a w) : ∀ {rs : List ResultVar} {ds : List DV} {vc : List Prop}, resList P σ rs = some (ds, vc) → AllP vc →
    ∃ vs : List Value, (rs.mapM (resSem a)).run P w = .ok vs w ∧ vs.length = ds.length ∧
      ∀ (j : Nat) (d : DV) (u : Value), ds[j]? = some d → vs[j]? = some u → RelC (rdRes w S0 base) d u
  | [], ds, vc, h, _ => by
    simp only [resList, Option.some.injEq, Prod.mk.injEq] at h
    obtain ⟨rfl, rfl⟩ := h
    exact ⟨[], by simp, rfl, by simp⟩
  | rv :: rs, ds, vc, h, hvc => by
    simp only [resList] at h
    split at h
    · rename_i d vc0 h0
      split at h
      · rename_i e vc1 es vcs h1 h2
        simp only [Option.some.injEq, Prod.mk.injEq] at h
        obtain ⟨rfl, rfl⟩ := h
        obtain ⟨k0, k12⟩ := AllP.app hvc
        obtain ⟨k1, k2⟩ := AllP.app k12
        obtain ⟨v, hrun, hrel⟩ := resOf_sound r h0 k0
        have hc := frz_sound r h1 k1 hrel
        obtain ⟨vs, hruns, hlen, hall⟩ := resList_sound r h2 k2
        refine ⟨v :: vs, ?_, by simp [hlen], fun j d' u hd hu => ?_⟩
        · simp only [List.mapM_cons, Sem.run_bind, hrun, hruns, Result.andThen_ok, Sem.run_pure]
        · cases j with
          | zero => simp at hd hu; subst hd hu; exact hc
          | succ j => exact hall j d' u (by simpa using hd) (by simpa using hu)
      · cases h
    · cases h

theorem results_run (r : R base w0 S0 σ kn blk a w) {fn : Func} {ds : List DV} {vc : List Prop} (h : resList P σ fn.results.toList = some (ds, vc)) (hvc : AllP vc) :
    ∃ v, (results fn a.tmps).run P w = .ok v w ∧ RelC (rdRes w S0 base) (resDV ds) v := by
  obtain ⟨vs, hrun, hlen, hall⟩ := resList_sound r h hvc
  have hm : (results fn a.tmps).run P w = .ok (if h : vs.toArray.size = 1 then vs.toArray[0] else .tuple vs.toArray) w := by
    have hfun : results fn a.tmps = (do
        let vs ← fn.results.mapM (resSem a)
        return (if h : vs.size = 1 then vs[0] else Value.tuple vs)) := by
      unfold results
      congr 2
    rw [hfun, Array.mapM_eq_mapM_toList]
    simp only [Sem.run_bind, Sem.run_map, hrun, Result.andThen_ok, Sem.run_pure]
  refine ⟨_, hm, ?_⟩
  match ds, vs, hlen, hall with
  | [], [], _, _ => exact .tup rfl (by simp)
  | [d], [v], _, hall => exact hall 0 d v rfl rfl
  | d :: d2 :: r, v :: v2 :: q, hl, hall =>
    have hne : ¬ ((v :: v2 :: q).toArray.size = 1) := by simp
    rw [dif_neg hne]
    exact .tup (by simpa using hl) fun j d' u hd hu => hall j d' u hd (by simpa using hu)
end

theorem look_entry : ∀ (l : List DV) (k t : Nat), look (entry l k) t = if k ≤ t then l[t - k]? else none
  | [], k, t => by simp [entry, look]
  | d :: r, k, t => by
    simp only [entry, look_cons]
    rw [look_entry r (k + 1) t]
    by_cases h : k = t
    · subst h; simp
    · rw [if_neg h]
      by_cases hk : k ≤ t
      · rw [if_pos (by omega), if_pos hk, show t - k = (t - (k + 1)) + 1 by omega, List.getElem?_cons_succ]
      · rw [if_neg (by omega), if_neg hk]

/-- A function's contract, out of what is owed for its body. -/
theorem FnC_of (hm : P.follows .mixedOrders = true) {f : FuncId} {fn : Func} {c : Code} {args : List DV} {res : DV} (hf : P.funcs[f]? = some fn) (hb : fn.body = some c) (hn : (fn.name == "runtime.NumGoroutine") = false) (hlen : args.length ≤ fn.ntmps)
    (h : (evalCode P A c { t := entry args 0, h := [], nx := 0, nt := fn.ntmps } (retK P fn res)).holds) : FnC P f args res := by
  refine ⟨⟨fn, hf, by rw [hb]; rfl, hn⟩, fun S w vs hvs hargs => calls_of_wp hf hb ?_⟩
  refine evalCode_sound (A := A) (base := w.heap.size) (w0 := w) (S0 := S) hm c _ _ _ h (fun e σ' hh a' w' hf' => ?_) _ _ ?_
  · have fin : (retVT P fn res σ').holds → a'.defers = [] ∧ ∃ v, (results fn a'.tmps).run P w' = .ok v w' ∧ ∃ v', Ending.returned v = .returned v' ∧ RelC (rdRes w' S w.heap.size) res v' ∧ Below w.heap.size w w' := by
      intro hh
      obtain ⟨kn, blk, r, _⟩ := hf'
      unfold retVT at hh
      split at hh
      · rename_i ds vc hds
        obtain ⟨h1, h2⟩ := AllP.app (AllT.all hh)
        obtain ⟨v, hrun, hrel⟩ := results_run r hds h1
        exact ⟨r.dfr, v, hrun, v, rfl, leN_sound 3 h2 hrel, r.below⟩
      · exact hh.elim
    cases e with
    | ret => exact fin hh
    | normal => exact fin hh
    | _ => exact hh.elim
  · refine ⟨fun _ => False, fun _ => none, ⟨Below.refl _ _, Nat.le_refl _, rfl, ?_, fun t => ?_, fun id o ho => ?_, fun i i' g C C' e => by simp at e, fun i g C e => by simp at e, fun i l e => by simp at e⟩, fun i hi => hi.elim⟩
    · simp; omega
    · have hrd : ∀ {d v}, RelC (rdArg w S) d v → Rel (rdOf w w.heap.size S fun _ => none) (fun _ => False) (fun _ => none) d v := fun hr => hr.mono (fun ad u ⟨x, y⟩ => ⟨x, fun id g C e => by simp at e, .inl y⟩) (fun _ h => h) fun _ _ h => h.elim
      unfold St.get
      simp only [look_entry, Nat.zero_le, if_true, Nat.sub_zero]
      cases ht : args[t]? with
      | none => exact .any _
      | some d =>
        have hlt : t < vs.size := by rw [hvs]; exact (List.getElem?_eq_some_iff.1 ht).1
        have hv : vs[t]? = some vs[t] := Array.getElem?_eq_getElem hlt
        have := hrd (hargs t d _ ht hv)
        simp only [Array.getD_eq_getD_getElem?, Array.getElem?_append, hlt, if_true, hv, Option.getD_some]
        exact this
    · simp [St.obj, look] at ho

/-- What is owed for a function's contract. -/
def owed (P : Program) (A : Ann) (f : FuncId) (args : List DV) (res : DV) : VT := match P.funcs[f]? with
  | some fn => match fn.body with
    | some c => bif (!(fn.name == "runtime.NumGoroutine")) && Nat.ble args.length fn.ntmps then
        evalCode P A c { t := entry args 0, h := [], nx := 0, nt := fn.ntmps } (retK P fn res) else .done [False]
    | none => .done [False]
  | none => .done [False]

theorem FnC_owed (hm : P.follows .mixedOrders = true) {f : FuncId} {args : List DV} {res : DV} {V : VT} (A : Ann) (e : owed P A f args res = V) (h : V.holds) : FnC P f args res := by
  subst e
  unfold owed at h
  split at h
  · rename_i fn hf
    split at h
    · rename_i c hb
      cases hx : ((!(fn.name == "runtime.NumGoroutine")) && Nat.ble args.length fn.ntmps) with
      | false => simp only [hx, cond_false] at h; exact h.elim
      | true =>
        simp only [hx, cond_true] at h
        simp only [Bool.and_eq_true, Bool.not_eq_true'] at hx
        exact FnC_of hm hf hb hx.1 (Nat.le_of_ble_eq_true hx.2) h
    · exact h.elim
  · exact h.elim

def iOf : DV → Int
  | .val (.int _ n) => n
  | _ => 0
def bOf : DV → Bool
  | .val (.bool b) => b
  | _ => false
/-- How long a row is, and its columns, as a state has them behind a temp. -/
def nOf : DV → Nat
  | .row _ _ _ len => len
  | _ => 0
def cOf (σ : St) (j : Nat) : DV → Nat → DV
  | .row _ id _ _ => match σ.obj id with
    | some (.row _ cols) => match cols[j]? with
      | some c => c
      | none => fun _ => .any
    | _ => fun _ => .any
  | _ => fun _ => .any
/-- Column j of a list; its length. -/
def colD (j : Nat) : DV → Nat → DV
  | .lst _ cols => match cols[j]? with
    | some c => c
    | none => fun _ => .any
  | _ => fun _ => .any
def colI (j : Nat) (d : DV) (i : Nat) : Int := iOf (colD j d i)
def lenOf : DV → Nat
  | .lst n _ => n
  | _ => 0
/-- Argument j of a call. -/
def arg (l : List DV) (j : Nat) : DV := match l[j]? with
  | some d => d
  | none => .any
/-- Cell j of a struct. -/
def fD (j : Nat) : DV → DV
  | .val (.agg vs) => match vs[j]? with
    | some v => .val v
    | none => .any
  | .agg cs => match cs[j]? with
    | some d => d
    | none => .any
  | _ => .any
def fI (j : Nat) (d : DV) : Int := iOf (fD j d)
/-- A cell of a box behind a temp. -/
def xOf (σ : St) (j : Nat) : DV → DV
  | .ptr id _ => match σ.obj id with
    | some (.box cs) => match cs[j]? with
      | some d => d
      | none => .any
    | _ => .any
  | _ => .any
abbrev dI (n : Int) : DV := .val (.int .i64 n)
abbrev dB (b : Bool) : DV := .val (.bool b)
end
end Go.Abs
