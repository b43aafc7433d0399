/- A range over a map of the call's own, which nothing reads behind it. A range over an iterator that keeps its place in a variable of its own. -/
import Derived.Test.YtmcgfoacmalbjaaGreatDoorAbsT
import Derived.Maps.RangeRun
section
namespace Go.Abs
open Go.RowKit
open Go.ChangeMaps (setBlock)
structure MrS where
  i0 : Nat
  tm : Tmp
  t1 : Tmp
  ty : TypeId
  it : Tmp
  id : Nat
  i1 : Nat
  tn : Tmp
  tc : Tmp
  id2 : Nat
  i2 : Nat
  te : Tmp
  tl : List Oper
  rest : Code
  x0 : TypeId × String × Array Edge
  x1 : TypeId × String × Array Edge
  x2 : TypeId × String × Array Edge
  x3 : TypeId × String × Array Edge
  x4 : TypeId × String × Array Edge
def MrS.mv (s : MrS) : Oper := { dst := some s.t1, op := .move (.tmp s.tm), type := s.x0.1, pos := s.x0.2.1, after := s.x0.2.2, guard := none }
def MrS.rg (s : MrS) : Oper := { dst := some s.it, op := .range s.ty (.tmp s.t1), type := s.x1.1, pos := s.x1.2.1, after := s.x1.2.2, guard := none }
def MrS.nxt (s : MrS) : Oper := { dst := some s.tn, op := .next (.tmp s.it) false, type := s.x2.1, pos := s.x2.2.1, after := s.x2.2.2, guard := none }
def MrS.ex (s : MrS) : Oper := { dst := some s.tc, op := .extract (.tmp s.tn) 0, type := s.x3.1, pos := s.x3.2.1, after := s.x3.2.2, guard := none }
def MrS.en (s : MrS) : Oper := { dst := some s.te, op := .entry (.tmp s.it), type := s.x4.1, pos := s.x4.2.1, after := s.x4.2.2, guard := none }
def MrS.a (s : MrS) : Code := .region s.i0 #[s.mv, s.rg] false
def MrS.body (s : MrS) : Code := .seq (.region s.i1 #[s.nxt, s.ex] false) (.seq (.cond (.tmp s.tc) .skip (.exit s.id)) (.block s.id2 (.seq (.region s.i2 (s.en :: s.tl).toArray false) s.rest)))
def MrS.b (s : MrS) : Code := .block s.id (.loop s.body)
structure MNote : Type 1 where
  β : Type
  dec : β → List Int
  keyD : β → Value
  keep : List Nat
  boxes : List Nat
  ts : St → List (List Int) → List (Nat × DV) := fun _ _ => []
  bx : St → List (List Int) → List (Nat × List DV) := fun _ _ => []
  rw : St → List (List Int) → List (Nat × Nat × Nat × List (Nat → DV)) := fun _ _ => []
  rb : St → List (List Int) → List (Nat × Nat × Nat × Nat × List (Nat → DV)) := fun _ _ => []
  mo : St → List (List Int) → List (Nat × Option Nat × AObj) := fun _ _ => []
  inv : St → List (List Int) → Prop
def MNote.note (C : MNote) : Note := { ι := List (List Int), keep := C.keep, boxes := C.boxes, ts := C.ts, bx := C.bx, rw := C.rw, rb := C.rb, mo := C.mo, inv := C.inv, mu := fun _ _ => 0, rd := fun _ _ => [] }
structure MG where
  r : Nat
  b : Nat
  es : Array MapEntry
  clock : Nat
def MG.ptr (g : MG) : Value := .pointer (some ⟨g.r, 0, none⟩)
structure MrX (β : Type) where
  L : List (List Int)
  z : β
  vv : Value
  seen : Array Nat
section
variable {P : Program} {A : Ann} {m : Nat} {base : Nat} {w0 w : World} {S0 : Env} {a : Act} {Q : Exit → Act → World → Prop}
theorem ops_step {ops : Array Oper} {i : Nat} {rest : List Nat} {o : Oper} {ro : Option Nat} (h0 : ops[i]? = some o) (hg : o.guard = none) (h : o.wpIn (FW ro) m P a w (wpOpsIn (FW ro) m P ops Q rest) Q) : wpOpsIn (FW ro) m P ops Q (i :: rest) a w := by
  simp only [wpOpsIn, h0]
  rw [if_pos (by simp [Region.wanted, hg])]
  exact h
theorem op_put {o : Oper} {ro : Option Nat} (hnd : ∀ c, o.op ≠ .defer c) {K : Act → World → Prop} {s : Sem Value} {v : Value} {w' : World} (hex : execOp a.eval o = (do pure (.value (← s)))) (hr : s.run P w = .ok v w') (hK : K (a.put o.dst v) w') : o.wpIn (FW ro) m P a w K Q := by
  unfold Oper.wpIn
  refine ⟨fun _ _ => trivial, ?_⟩
  rw [Oper.semAt_eq _ _ _ hnd, hex]
  simp only [Sem.run_bind, hr, Result.andThen_ok, Sem.run_pure]
  exact hK
theorem dst_lt {nt lo t : Nat} (h : dstOK nt lo (some t) = true) : t < nt ∧ lo ≤ t := by
  simp only [dstOK] at h
  cases h1 : Nat.ble lo t
  · simp [h1] at h
  · simp only [h1, cond_true] at h
    exact ⟨Nat.le_of_ble_eq_true (show Nat.ble (t + 1) nt = true from h), Nat.le_of_ble_eq_true h1⟩
theorem getD_put (t : Nat) (v : Value) (h : t < a.tmps.size) : (a.put (some t) v).tmps.getD t undef = v := by
  rw [Act.getD_put a t v t h, if_pos rfl]
theorem look_hd {α : Type} {k : Nat} {v : α} {r : List (Nat × α)} : look ((k, v) :: r) k = some v := by rw [look_cons, if_pos rfl]
theorem look_tl {α : Type} {k i : Nat} {v : α} {r : List (Nat × α)} (h : k ≠ i) : look ((k, v) :: r) i = look r i := by rw [look_cons, if_neg h]
theorem op_val {o : Oper} {ro : Option Nat} (hnd : ∀ c, o.op ≠ .defer c) {K : Act → World → Prop} {v : Value} (hex : execOp a.eval o = pure (.value v)) (hK : K (a.put o.dst v) w) : o.wpIn (FW ro) m P a w K Q := by
  unfold Oper.wpIn
  refine ⟨fun _ _ => trivial, ?_⟩
  rw [Oper.semAt_eq _ _ _ hnd, hex]
  exact hK
theorem extsOK_one {A : Ann} {k : Nat} {E : Code → Code → St → (Exit → St → VT) → VT} (h : A.exts = [(k, E)]) (hE : ExtOK P E) : ExtsOK P A := fun id E' e => by
  rw [h] at e
  unfold look1 at e
  cases hb : Nat.beq k id
  · rw [hb] at e; cases e
  · rw [hb] at e; cases e; exact hE
end
end Go.Abs
end
section
namespace Go.Abs
open Go.RowKit
def VarAt (W : World) (g : Nat) (v : Value) : Prop := ∃ T, W.heap[g]? = some (.cells #[v] T (0, 0))
structure BelowV (g : Nat) (w w' : World) : Prop where
  os : w'.os = w.os
  tape : w'.tape = w.tape
  output : w'.output = w.output
  size : w.heap.size ≤ w'.heap.size
  block : ∀ k, k < w.heap.size → k ≠ g → w'.heap[k]? = w.heap[k]?
def rdV (g : Nat) (w : World) : Rd := fun a u => rdw w a u ∧ a.block ≠ g
def SeqV (P : Program) (gf : FuncId) (N : Nat) (enc : Nat → List Value) (rest : Nat → Value) : Prop :=
  Callable P gf ∧ ∀ (m l g : Nat) (J : Nat → World → Prop) (Jx : World → Prop) (W : World),
    (∀ x A B v u, J x A → VarAt A g v → VarAt B g u → oneV u = true → BelowV g A B → J x B) → (∀ x A, J x A → GlobOK (rdV g A)) →
    (∀ x A, J x A → VarAt A g (rest (x + 1)) → x < N → YieldAt Fence.wide (m - 1) P l (enc x).toArray A fun e W' =>
      (e = .returned (.bool true) ∧ J (x + 1) W' ∧ VarAt W' g (rest (x + 1))) ∨ (e = .returned (.bool false) ∧ Jx W')) →
    J 0 W → VarAt W g (rest 0) →
    CallsIn Fence.wide m P gf #[.func (.yield l) #[] #[], .pointer (some ⟨g, 0, none⟩)] W fun e W' => (∃ v, e = .returned v) ∧ (J N W' ∨ Jx W')
def postV (B : Nat) (I : Nat → World → Prop) (Ix : Code → World → Prop) (g : Nat) (v : Value) (x : Nat) (W : World) : Exit → Act → World → Prop
  | .normal, _, W' => KeepsFrom B W W' ∧ I (x + 1) W' ∧ VarAt W' g v
  | .ret, _, W' => KeepsFrom B W W' ∧ Ix .ret W'
  | .exit id, _, W' => KeepsFrom B W W' ∧ Ix (.exit id) W'
  | .goto t, _, W' => KeepsFrom B W W' ∧ Ix (.goto t) W'
  | .panic _, _, _ => False
  | .outgrown, _, _ => False
theorem varAt_other {W W' : World} {g k : Nat} {v : Value} {o : Obj} (h : VarAt W g v) (hk : W.heap[k]? = some o) (ho : o.isCells = false) (hs : ∀ j, j ≠ k → W'.heap[j]? = W.heap[j]?) : VarAt W' g v := by
  obtain ⟨T, h⟩ := h
  refine ⟨T, ?_⟩
  rw [hs g (fun e => ?_)]
  · exact h
  · subst e
    rw [h] at hk
    cases hk
    cases ho
section
variable {P : Program} {n : Nat}
theorem wpIn_rangeV {g : Operand} {ps : Array Tmp} {assign body : Code} {Q : Exit → Act → World → Prop} {a : Act} {w : World}
    (h1 : 1 ≤ n) {gf g0 : Nat} (hg : a.eval g = .func (.func gf) #[] #[.pointer (some ⟨g0, 0, none⟩)]) (eg : ∀ args w, (callFunc gf args).run P w = .ok (.enter gf args) w)
    {N : Nat} {enc : Nat → List Value} {rest : Nat → Value} (hseq : SeqV P gf N enc rest) (hps : ∀ x, x < N → (enc x).length = ps.size)
    (I : Nat → World → Prop) (Ix : Code → World → Prop) (hI : OwnFrom w.heap.size I) (hIx : ∀ c, OwnFrom w.heap.size (fun (_ : Unit) => Ix c))
    (hIw : ∀ x A B v u, I x A → VarAt A g0 v → VarAt B g0 u → oneV u = true → BelowV g0 A B → I x B) (hIg : ∀ x A, I x A → GlobOK (rdV g0 A))
    (h0 : I 0 w) (hv : VarAt w g0 (rest 0)) (a₁ : Nat → Act)
    (hassign : ∀ (l x : Nat) (W : World) (K : Act → World → Prop), K (a₁ x) W →
      assign.wpIn (FW (some l)) (n - 1 - 1) P (Exit.then K (fun _ _ _ => False)) { tmps := (ps.zip (enc x).toArray).foldl (fun t (p, v) => t.setIfInBounds p v) a.tmps, defers := [] } W)
    (hbody : ∀ (l x : Nat) (W : World), I x W → VarAt W g0 (rest (x + 1)) → x < N → body.wpIn (FW (some l)) (n - 1 - 1) P (postV w.heap.size I Ix g0 (rest (x + 1)) x W) (a₁ x) W)
    (hdone : ∀ (D : Nat) (W : World), w.heap.size ≤ D → I N W → W.heap[D]? = some (.deferred (some [])) → Q .normal { a with defers := { target := .collected D, args := #[] } :: a.defers } W)
    (hstop : ∀ (D : Nat) (c : Code) (W : World), w.heap.size ≤ D → Ix c W → W.heap[D]? = some (.deferred (some [])) → c.wpIn (FW none) n P Q { a with defers := { target := .collected D, args := #[] } :: a.defers } W) :
    (Code.rangeFunc g ps assign body).wpIn (FW none) n P Q a w := by
  refine wpIn_rangeFunc ?_
  intro fn hfn
  obtain ⟨rec, hrec⟩ : ∃ rec : LoopState → Option Code → Loop, rec = fun st pe => { state := st, pending := pe, fn, tmps := a.tmps, params := ps, assign, body, defers := w.heap.size } := ⟨_, rfl⟩
  obtain ⟨W1, hW1⟩ : ∃ W1, (w.alloc (.deferred (some []))).alloc (.loop (rec .ready none)) = W1 := ⟨_, rfl⟩
  have hL1 : W1.heap[w.heap.size + 1]? = some (.loop (rec .ready none)) := by
    rw [← hW1]; have := World.alloc_heap_new (w.alloc (.deferred (some []))) (.loop (rec .ready none)); rwa [World.size_alloc] at this
  have hK1 : W1.heap[w.heap.size]? = some (.deferred (some [])) := by
    rw [← hW1]; exact (Go.RowKit.Below.heap_alloc _ _ _ (by simp)).trans (World.alloc_heap_new w _)
  have hI1 : I 0 W1 := by rw [← hW1]; exact hI.alloc _ (hI.alloc _ h0)
  have hglt : g0 < w.heap.size := let ⟨_, h⟩ := hv; heap_lt h
  have hv1 : VarAt W1 g0 (rest 0) := by
    obtain ⟨T, hv⟩ := hv
    rw [← hW1]
    refine ⟨T, ?_⟩
    rw [Go.RowKit.Below.heap_alloc _ _ _ (by rw [World.size_alloc]; omega), Go.RowKit.Below.heap_alloc _ _ _ hglt]
    exact hv
  refine ⟨w.heap.size + 1, [{ target := .collected w.heap.size, args := #[] }], W1, { target := .fn (.func gf) #[.pointer (some ⟨g0, 0, none⟩)], args := #[.func (.yield (w.heap.size + 1)) #[] #[]] }, W1, gf,
    #[.func (.yield (w.heap.size + 1)) #[] #[]] ++ #[.pointer (some ⟨g0, 0, none⟩)], W1, ?_, ?_, ?_, ?_, fun _ => h1, ?_⟩
  · rw [← hW1, hrec]; exact run_enterLoop_outer _ _ _ _ _
  · simp only [resolve, hg]
    simp [go_sem]
  · intro f' hf'; trivial
  · simp [invoke, go_sem, eg]
  · refine (hseq.2 (n - 1) (w.heap.size + 1) g0
      (fun x W => I x W ∧ W.heap[w.heap.size + 1]? = some (.loop (rec .ready none)) ∧ W.heap[w.heap.size]? = some (.deferred (some [])))
      (fun W => ∃ c, Ix c W ∧ W.heap[w.heap.size + 1]? = some (.loop (rec .done (some c))) ∧ W.heap[w.heap.size]? = some (.deferred (some [])))
      W1
      (fun x A B v u ⟨i1, i2, i3⟩ hva hvb hu hb => ⟨hIw x A B v u i1 hva hvb hu hb, by rw [hb.block _ (heap_lt i2) (fun e => by subst e; obtain ⟨_, hva⟩ := hva; rw [i2] at hva; cases hva)]; exact i2, by rw [hb.block _ (heap_lt i3) (fun e => by subst e; obtain ⟨_, hva⟩ := hva; rw [i3] at hva; cases hva)]; exact i3⟩)
      (fun x A ⟨i1, _, _⟩ => hIg x A i1)
      ?_ ⟨hI1, hL1, hK1⟩ hv1).mono ?_
    · rintro x W ⟨hi, hl, hk⟩ hvw hlen
      have hlt : w.heap.size + 1 < W.heap.size := heap_lt hl
      have hy := run_yield (P := P) (args := (enc x).toArray) hl (by rw [hrec]; simpa using hps x hlen)
      rw [hrec] at hy
      refine ⟨fn, _, assign, body, hy, roundIn_of_wpIn hfn (hassign _ x W _ ⟨_, run_beginRound hl (by rw [hrec]), ?_⟩)⟩
      have hl2 : (W.putObj (w.heap.size + 1) (.loop { rec .ready none with state := .busy })).heap[w.heap.size + 1]? = some (.loop { rec .ready none with state := .busy }) := World.putObj_heap_same hlt
      have hk2 : (W.putObj (w.heap.size + 1) (.loop { rec .ready none with state := .busy })).heap[w.heap.size]? = some (.deferred (some [])) := (World.putObj_heap_other (by omega)).trans hk
      have hvw2 : VarAt (W.putObj (w.heap.size + 1) (.loop { rec .ready none with state := .busy })) g0 (rest (x + 1)) := varAt_other hvw hl rfl fun j hj => World.putObj_heap_other hj
      refine wpIn_mono (hbody _ x _ (hI.putObj _ hi (by omega) hl rfl) hvw2 hlen) ?_
      have fin : ∀ (jump : Option Code) (W3 : World), KeepsFrom w.heap.size (W.putObj (w.heap.size + 1) (.loop { rec .ready none with state := .busy })) W3 →
          (Instr.endRound (w.heap.size + 1) jump).run P W3 = .ok (.bool jump.isNone) (W3.putObj (w.heap.size + 1) (.loop (rec (if jump.isNone then .ready else .done) jump))) ∧
          W3.heap[w.heap.size + 1]? = some (.loop { rec .ready none with state := .busy }) ∧
          (W3.putObj (w.heap.size + 1) (.loop (rec (if jump.isNone then .ready else .done) jump))).heap[w.heap.size + 1]? = some (.loop (rec (if jump.isNone then .ready else .done) jump)) ∧
          (W3.putObj (w.heap.size + 1) (.loop (rec (if jump.isNone then .ready else .done) jump))).heap[w.heap.size]? = some (.deferred (some [])) := fun jump W3 hk3 => by
        have hl3 := hk3.same _ _ (by omega) hl2 rfl
        have := run_endRound (P := P) jump hl3
        rw [hrec] at this ⊢
        exact ⟨this, by rw [hrec] at hl3; exact hl3, World.putObj_heap_same (heap_lt hl3), (World.putObj_heap_other (by omega)).trans (hk3.same _ _ (Nat.le_refl _) hk2 rfl)⟩
      rintro e a3 W3 hp
      cases e with
      | normal =>
        obtain ⟨hk3, hi3, hv3⟩ := hp
        obtain ⟨hr, hl3, hl4, hk4⟩ := fin none W3 hk3
        exact ⟨_, _, hr, .inl ⟨rfl, ⟨hI.putObj _ hi3 (by omega) hl3 rfl, hl4, hk4⟩, varAt_other hv3 hl3 rfl fun j hj => World.putObj_heap_other hj⟩⟩
      | ret =>
        obtain ⟨hk3, hi3⟩ := hp
        obtain ⟨hr, hl3, hl4, hk4⟩ := fin (some .ret) W3 hk3
        exact ⟨_, _, hr, .inr ⟨rfl, .ret, (hIx _).putObj (s := ()) _ hi3 (by omega) hl3 rfl, hl4, hk4⟩⟩
      | exit id =>
        obtain ⟨hk3, hi3⟩ := hp
        obtain ⟨hr, hl3, hl4, hk4⟩ := fin (some (.exit id)) W3 hk3
        exact ⟨_, _, hr, .inr ⟨rfl, .exit id, (hIx _).putObj (s := ()) _ hi3 (by omega) hl3 rfl, hl4, hk4⟩⟩
      | goto t =>
        obtain ⟨hk3, hi3⟩ := hp
        obtain ⟨hr, hl3, hl4, hk4⟩ := fin (some (.goto t)) W3 hk3
        exact ⟨_, _, hr, .inr ⟨rfl, .goto t, (hIx _).putObj (s := ()) _ hi3 (by omega) hl3 rfl, hl4, hk4⟩⟩
      | panic ch => exact hp.elim
      | outgrown => exact hp.elim
    · rintro e W2 ⟨⟨v, rfl⟩, (⟨hi, hl, hk⟩ | ⟨c, hi, hl, hk⟩)⟩
      · exact ⟨none, _, by have := run_endLoop (P := P) hl (by rw [hrec]; simp); rw [hrec] at this; exact this, hdone _ _ (Nat.le_refl _) (hI.putObj _ hi (by omega) hl rfl) ((World.putObj_heap_other (by omega)).trans hk)⟩
      · exact ⟨some c, _, by have := run_endLoop (P := P) hl (by rw [hrec]; simp); rw [hrec] at this; exact this, hstop _ c _ (Nat.le_refl _) ((hIx c).putObj (s := ()) _ hi (by omega) hl rfl) ((World.putObj_heap_other (by omega)).trans hk)⟩
end
structure VNote : Type 1 where
  gf : FuncId
  N : Nat
  enc : Nat → List Value
  rest : Nat → Value
  keep : List Nat
  boxes : List Nat
  bx : St → Nat → List (Nat × List DV) := fun _ _ => []
  rb : St → Nat → List (Nat × Nat × Nat × Nat × List (Nat → DV)) := fun _ _ => []
  inv : St → Nat → Prop
def VNote.note (C : VNote) : Note := { ι := Nat, keep := C.keep, boxes := C.boxes, ts := fun _ _ => [], bx := C.bx, rb := C.rb, inv := C.inv, mu := fun _ _ => 0, rd := fun _ _ => 0 }
def LvF (P : Program) (f gf : FuncId) (v u : Value) : Prop := Callable P f ∧ ∀ w, Calls P f #[v] w fun en w' => ∃ T, en = .returned (.func (.func gf) #[] #[.pointer (some ⟨w.heap.size, 0, none⟩)]) ∧ w' = w.alloc (.cells #[u] T)
structure LvS where
  i0 : Nat
  ts : Tmp
  t1 : Tmp
  t2 : Tmp
  f : FuncId
  ats : Array TypeId
  id : Nat
  ps : Array Tmp
  asg : Code
  body : Code
  x0 : TypeId × String × Array Edge
  x1 : TypeId × String × Array Edge
def LvS.mv (s : LvS) : Oper := { dst := some s.t1, op := .move (.tmp s.ts), type := s.x0.1, pos := s.x0.2.1, after := s.x0.2.2, guard := none }
def LvS.cl (s : LvS) : Oper := { dst := some s.t2, op := .call { callee := .value (.func s.f), args := #[.tmp s.t1], argTypes := s.ats }, type := s.x1.1, pos := s.x1.2.1, after := s.x1.2.2, guard := none }
def LvS.a (s : LvS) : Code := .region s.i0 #[s.mv, s.cl] false
def LvS.b (s : LvS) : Code := .block s.id (.rangeFunc (.tmp s.t2) s.ps s.asg s.body)
def lvShape : Code → Code → Option LvS
  | .region i0 ⟨[⟨some t1, .move (.tmp ts), a0, b0, c0, none⟩, ⟨some t2, .call ⟨.value (.func f), ⟨[.tmp t1']⟩, ats⟩, a1, b1, c1, none⟩]⟩ false,
    .block id (.rangeFunc (.tmp t2') ps asg body) =>
    bif Nat.beq t1 t1' && Nat.beq t2 t2' then some ⟨i0, ts, t1, t2, f, ats, id, ps, asg, body, (a0, b0, c0), (a1, b1, c1)⟩ else none
  | _, _ => none
theorem lvShape_eq {a b : Code} {s : LvS} (h : lvShape a b = some s) : a = s.a ∧ b = s.b := by
  unfold lvShape at h
  split at h
  · rename_i i0 t1 ts a0 b0 c0 t2 f t1' ats a1 b1 c1 id t2' ps asg body
    cases hb : Nat.beq t1 t1' && Nat.beq t2 t2'
    · rw [hb] at h; cases h
    · rw [hb] at h
      simp only [Bool.and_eq_true] at hb
      obtain ⟨h1, h2⟩ := hb
      have h1 := Nat.eq_of_beq_eq_true h1
      have h2 := Nat.eq_of_beq_eq_true h2
      subst h1 h2
      cases h
      exact ⟨rfl, rfl⟩
  · cases h
def lvClo (C : VNote) (id : Nat) : DV := .clo C.gf [.ptr id 0]
def lvSt (C : VNote) (t2 : Nat) (σ : St) (x : Nat) (d : DV) : St :=
  { C.note.st σ x with t := (t2, lvClo C (σ.nx + 90)) :: (C.note.st σ x).t, h := (σ.nx + 90, some (.box [d])) :: (C.note.st σ x).h }
def lvS2 (C : VNote) (t2 : Nat) (σ : St) : St := { ((σ.setObj σ.nx (some (.box [.val (C.rest 0)]))).put t2 (lvClo C σ.nx)) with nx := σ.nx + 1 }
def lvOut (C : VNote) (t2 : Nat) (σ σ' : St) : St := { t := (t2, lvClo C (σ.nx + 90)) :: keepT σ C.keep, h := σ'.h, nx := σ'.nx, nt := σ.nt, rn := σ.rn, lo := σ.lo }
def lvRound (C : VNote) (t2 : Nat) (σ : St) (ps : List Tmp) (l : List (Tmp × Tmp)) (x : Nat) : St := runAsgD l (bindP ps (C.enc x) { lvSt C t2 σ x (.val (C.rest (x + 1))) with rn := true })
def lvVC0 (C : VNote) (t2 : Nat) (σ : St) : List Prop := weakVC ((σ.nx + 90, some σ.nx) :: C.note.rn σ (lvS2 C t2 σ) (0 : Nat)) (lvS2 C t2 σ) (lvSt C t2 σ 0 (.val (C.rest 0)))
def lvVC1 (C : VNote) (t2 : Nat) (σ : St) (x : Nat) (σ' : St) : List Prop := weakVC ((σ.nx + 90, some (σ.nx + 90)) :: C.note.rn σ σ' x) σ' (lvSt C t2 σ x (.val (C.rest x)))
def lvK (C : VNote) (t2 : Nat) (σ : St) (id : Nat) (x : Nat) (K : Exit → St → VT) : Exit → St → VT := fun e σ' => match e with
  | .normal => .done (lvVC1 C t2 σ (x + 1) (lvOut C t2 σ σ') ++ [C.inv σ (x + 1)])
  | .ret => K .ret (lvOut C t2 σ σ')
  | .exit j => bif Nat.beq j id then K .normal (lvOut C t2 σ σ') else K (.exit j) (lvOut C t2 σ σ')
  | _ => .done [False]
def lvGo (P : Program) (A : Ann) (C : VNote) (s : LvS) (l : List (Tmp × Tmp)) (v : Value) (σ : St) (K : Exit → St → VT) : VT :=
  .need (LvF P s.f C.gf v (C.rest 0) :: SeqV P C.gf C.N C.enc C.rest :: (∀ k, k < C.N → (C.enc k).length = s.ps.size) :: (∀ k, oneV (C.rest k) = true) :: (lvVC0 C s.t2 σ ++ [C.inv σ 0]))
    (.cut Nat (fun x => C.inv σ x ∧ x < C.N)
      (.cut Unit (fun _ => C.inv σ C.N) (.done []) fun _ => K .normal (lvSt C s.t2 σ C.N .any))
      fun x => evalCode P A s.body (lvRound C s.t2 σ s.ps.toList l x) (lvK C s.t2 σ s.id x K))
def lvOK (A : Ann) (C : VNote) (σ : St) (s : LvS) (l : List (Tmp × Tmp)) : Bool := !trk && (dstOK σ.nt σ.lo (some s.t1) && (dstOK σ.nt σ.lo (some s.t2) && (Nat.beq σ.lo 0 && (!gKept C.keep (.tmp s.t2) && (calmC A s.body && (asgFits σ.nt l && allLt σ.nt s.ps.toList))))))
def lvE (P : Program) (A : Ann) (C : VNote) : Code → Code → St → (Exit → St → VT) → VT := fun a b σ K => match lvShape a b with
  | none => .done [False]
  | some s => match σ.get s.ts, asgOf s.asg with
    | .val v, some l => bif lvOK A C σ s l then lvGo P A C s l v (σ.put s.t1 (.val v)) K else .done [False]
    | _, _ => .done [False]
section
variable {P : Program} {A : Ann} {m : Nat} {base : Nat} {w0 w : World} {S0 : Env} {a : Act} {Q : Exit → Act → World → Prop}
def lvI (base : Nat) (w0 : World) (S1 : Env) (C : VNote) (t2 : Nat) (σ : St) (a : Act) (g0 : Nat) (x : Nat) (W : World) : Prop :=
  C.inv σ x ∧ ∃ kn blk C', R base w0 S1 { lvSt C t2 σ x .any with rn := true } kn blk a W ∧ (∀ i, kn i → i < σ.nx + 100) ∧ blk (σ.nx + 90) = some (.at_ g0 C')
theorem R.turnG {σ : St} {kn : Nat → Prop} {blk : Nat → Option Loc} {w' : World} (r : R base w0 S0 σ kn blk a w) {id g C : Nat} {o : AObj} (hl : blk id = some (.at_ g C)) (hb : BelowV g w w')
    (ho : (∀ {d v}, Rel (rdOf w base S0 blk) kn blk d v → Rel (rdOf w' base S0 blk) kn blk d v) → (∀ {d v}, RelC (rdOf w base S0 blk) d v → RelC (rdOf w' base S0 blk) d v) → ObjRel w' (rdOf w' base S0 blk) kn blk (some (.at_ g C)) o) (hdr : DrOK w w') :
    R base w0 S0 (σ.setObj id (some o)) kn blk a w' := by
  refine r.step (fun k => k = g) (fun i => i = id) hb.size hb.os hb.tape hb.output (fun k hk hx => hb.block k hk hx) (fun k h => ⟨id, _, rfl, hl, h⟩) (fun _ h => h) (fun _ _ => rfl) (fun _ _ _ _ h => h) (fun i l' g' h e hg => .inl ⟨i, l', h, e, hg⟩) (fun i l' h hi e => ⟨l', e, rfl⟩) rfl rfl rfl (fun _ => rfl)
    (fun i h => by rw [St.obj_setObj, if_neg (fun e => h e.symm)]) (fun _ m mC i o' h e => ?_) (fun i l' h e => ⟨o, by rw [St.obj_setObj, if_pos h.symm]⟩) (fun i i' _ _ _ h h' _ _ _ _ => by rw [h, h']) (fun B hB i g bs h e => r.mlow B hB i g bs e) hdr
  rw [St.obj_setObj, if_pos h.symm, Option.some.injEq] at e
  subst e h
  exact ⟨r.known hl, by rw [hl]; exact ho m mC⟩
theorem BelowV.refl (g : Nat) (w : World) : BelowV g w w := ⟨rfl, rfl, rfl, Nat.le_refl _, fun _ _ _ => rfl⟩
theorem lv_get (C : VNote) (t2 : Nat) (σ : St) (x : Nat) (d : DV) : (lvSt C t2 σ x d).get t2 = lvClo C (σ.nx + 90) := by unfold St.get lvSt; rw [look_hd]
theorem lv_obj (C : VNote) (t2 : Nat) (σ : St) (x : Nat) (d : DV) (b : Bool) : St.obj { lvSt C t2 σ x d with rn := b } (σ.nx + 90) = some (.box [d]) := by unfold St.obj lvSt; rw [look_hd]
theorem lv_box {C : VNote} {t2 : Nat} {σ : St} {x : Nat} {d d' : DV} {kn : Nat → Prop} {blk : Nat → Option Loc} {g0 C' : Nat} {u : Value} {w' : World} (r : R base w0 S0 { lvSt C t2 σ x d with rn := true } kn blk a w) (hb : blk (σ.nx + 90) = some (.at_ g0 C'))
    (hb1 : BelowV g0 w w') (hv : VarAt w' g0 u) (hu : oneV u = true) (hd : d' = .any ∨ d' = .val u) (hdr : DrOK w w') :
    R base w0 S0 { lvSt C t2 σ x d' with rn := true } kn blk a w' := by
  obtain ⟨T, hv⟩ := hv
  refine (r.turnG (w' := w') (o := .box [d']) hb hb1 (fun _ _ => ⟨g0, C', #[u], T, rfl, hv, rfl, fun j d1 u1 e1 e2 => ?_, fun u1 h1 => ?_⟩) hdr).congr (fun _ => rfl) (fun i => ?_) rfl rfl rfl
  · match j, e1, e2 with
    | 0, e1, e2 =>
      cases e1; cases e2
      rcases hd with rfl | rfl
      · exact .any _
      · exact .val _
    | j + 1, e1, e2 => cases e1
  · simp at h1; rw [h1]; exact hu
  · rw [St.obj_setObj]
    unfold St.obj lvSt
    by_cases h9 : σ.nx + 90 = i
    · rw [if_pos h9]; subst h9; rw [look_hd]
    · rw [if_neg h9, look_tl h9, look_tl h9]
theorem lv_var {C : VNote} {t2 : Nat} {σ : St} {x : Nat} {u : Value} {kn : Nat → Prop} {blk : Nat → Option Loc} (r : R base w0 S0 { lvSt C t2 σ x (.val u) with rn := true } kn blk a w) : ∃ g0 C', blk (σ.nx + 90) = some (.at_ g0 C') ∧ VarAt w g0 u := by
  obtain ⟨_, g, C', cv, T, hl, hh, hs, hr, _⟩ := r.objs _ _ (lv_obj C t2 σ x (.val u) true)
  refine ⟨g, C', hl, T, ?_⟩
  have hs : cv.size = 1 := hs
  have h0 : cv[0]? = some cv[0] := Array.getElem?_eq_getElem (by omega)
  have := (hr 0 _ _ rfl h0).val_eq
  have e : cv = #[u] := by
    apply Array.ext
    · simp [hs]
    · intro i h1 h2
      have : i = 0 := by omega
      subst this
      simpa using (hr 0 _ _ rfl h0).val_eq
  rw [← e]; exact hh
theorem lvLoop_ok (hm : P.follows .mixedOrders = true) (hx : ExtsOK P A) (htrk : trk = false) (hm1 : 1 ≤ m) (hsh : S0.sh = []) (hwb : S0.wb = none) {C : VNote} {s : LvS} {σ : St} {l : List (Tmp × Tmp)} {K : Exit → St → VT}
    (hlo : σ.lo = 0) (hnk : gKept C.keep (.tmp s.t2) = false) (hasg : asgOf s.asg = some l) (hcalm : calmC A s.body = true) (hfits : asgFits σ.nt l = true) (hps : allLt σ.nt s.ps.toList = true)
    (hseq : SeqV P C.gf C.N C.enc C.rest) (hlen : ∀ k, k < C.N → (C.enc k).length = s.ps.size) (hone : ∀ k, oneV (C.rest k) = true) (hinv0 : C.inv σ 0)
    (hafter : C.inv σ C.N → (K .normal (lvSt C s.t2 σ C.N .any)).holds)
    (hround : ∀ x : Nat, (C.inv σ x ∧ x < C.N) → (evalCode P A s.body (lvRound C s.t2 σ s.ps.toList l x) (lvK C s.t2 σ s.id x K)).holds)
    (hK : ∀ e σ', (K e σ').holds → ∀ a w, Fits base w0 S0 σ' a w → Q e a w) (hf : Fits base w0 S0 (lvSt C s.t2 σ 0 (.val (C.rest 0))) a w) : s.b.wpIn (FW none) m P Q a w := by
  obtain ⟨kn, blk, r, hk⟩ := hf.inRound
  obtain ⟨knB, blkB, rB, _⟩ := hf
  obtain ⟨g0, C0, hb0, hv0⟩ := lv_var (x := 0) (t2 := s.t2) (C := C) (u := C.rest 0) r
  have htc := r.tmps s.t2
  rw [show St.get { lvSt C s.t2 σ 0 (.val (C.rest 0)) with rn := true } s.t2 = lvClo C (σ.nx + 90) from lv_get C s.t2 σ 0 (.val (C.rest 0))] at htc
  have hclo : a.eval (.tmp s.t2) = .func (.func C.gf) #[] #[.pointer (some ⟨g0, 0, none⟩)] := by
    show a.tmps.getD s.t2 undef = _
    generalize hg : a.tmps.getD s.t2 undef = vc at htc
    unfold lvClo at htc
    cases htc with
    | clo hs hr =>
      rename_i vs
      have hs : vs.size = 1 := hs
      have h0 : vs[0]? = some vs[0] := Array.getElem?_eq_getElem (by omega)
      have e : vs = #[.pointer (some ⟨g0, 0, none⟩)] := by
        apply Array.ext
        · simp [hs]
        · intro i h1 h2
          have : i = 0 := by omega
          subst this
          have hp := hr 0 _ _ rfl h0
          cases hp with
          | ptr _ _ hp => simpa using hp _ _ hb0
      rw [e]
  have htc' := htc
  -- growth
  have grownI : ∀ {τ : St} {W W' : World} {row : Option Nat} {kn' : Nat → Prop} {blk' : Nat → Option Loc}, R base w0 (S0.round w.heap.size) τ kn' blk' a W → W.grownBy W' row → (∀ k, row = some k → w.heap.size ≤ k ∧ ∃ o : Obj, W.heap[k]? = some o ∧ o.isCells = false) → R base w0 (S0.round w.heap.size) τ kn' blk' a W' := by
    intro τ W W' row kn' blk' r' hg hr
    refine r'.grown hg (fun k e => ?_) (fun h => by rw [htrk] at h; cases h)
    obtain ⟨h1, h2⟩ := hr k e
    refine ⟨Nat.le_trans rB.hbase h1, .inl ⟨_, rfl, h1⟩, Nat.le_trans rB.kpo.1 h1, h2, fun d hd e2 => ?_⟩
    obtain ⟨D, e3, _, hh⟩ := rB.dfr.2 d hd
    rw [e3] at e2
    have : D = k := by cases e2; rfl
    have := heap_lt hh
    omega
  have marked : ∀ {τ : St} {W : World} {D : Nat}, w.heap.size ≤ D → Fits base w0 S0 τ a W → W.heap[D]? = some (.deferred (some [])) → Fits base w0 S0 τ { a with defers := { target := .collected D, args := #[] } :: a.defers } W := by
    intro τ W D hD ⟨kn', blk', r', hk'⟩ hh
    refine ⟨kn', blk', ⟨r'.below, r'.xs, r'.hbase, ⟨⟨List.nodup_cons.2 ⟨fun hm => ?_, r'.dfr.1.1⟩, fun h => by rw [hsh] at h; cases h⟩, fun d hd => ?_⟩, r'.kpo, r'.rnd, r'.mlow, r'.shp, r'.size, r'.tmps, r'.objs, r'.inj, r'.ge, r'.live, r'.pin⟩, hk'⟩
    · obtain ⟨D', e, _, h'⟩ := rB.dfr.2 _ hm
      have : D = D' := by cases e; rfl
      have := heap_lt h'
      omega
    · rcases List.mem_cons.1 hd with rfl | hd
      · exact ⟨D, rfl, Nat.le_trans rB.hbase hD, hh⟩
      · exact r'.dfr.2 d hd
  obtain ⟨sh1, hsh1⟩ : ∃ sh1 : List (DV × Value), sh1 = (lvClo C (σ.nx + 90), a.tmps.getD s.t2 undef) :: C.keep.map fun t => (σ.get t, a.tmps.getD t undef) := ⟨_, rfl⟩
  -- a round's end, told for the frame ahead of the rounds
  have outFits : ∀ {W W' : World} {σ' : St} {a' : Act} {kn2 : Nat → Prop} {blk2 : Nat → Option Loc}, (∃ kn1 blk1 τ, R base w0 (S0.round w.heap.size) τ kn1 blk1 a W) → R base w0 { S0.round w.heap.size with sh := sh1, wr := W } σ' kn2 blk2 a' W' → R base w0 (S0.round w.heap.size) { lvOut C s.t2 σ σ' with rn := true } kn2 blk2 a W' := by
    intro W W' σ' a' kn2 blk2 ⟨kn1, blk1, τ, r1⟩ r2
    refine ⟨r2.below, r2.xs, r2.hbase, ⟨rB.dfr.1, fun d hd => ?_⟩, ⟨Nat.le_trans r1.kpo.1 r2.kpo.1, fun B hB => (r1.kpo.2.1 B hB).trans (r2.kpo.2.1 B hB), fun k o h1 h2 h3 => r2.kpo.2.2 k o (r1.kpo.2.2 k o h1 h2 h3) h2 h3⟩, fun _ => rfl, r2.mlow, fun d v h => r2.shp d v (List.mem_append_left _ (by
      have h : (d, v) ∈ shG ++ S0.sh := h
      rw [hsh, List.append_nil] at h; exact h)), rB.size, fun t => ?_, r2.objs, r2.inj, r2.ge, r2.live, fun t ht => by
        have ht : t < σ.lo := ht
        omega⟩
    · obtain ⟨D, e, hD, hh⟩ := r1.dfr.2 d hd
      exact ⟨D, e, hD, r2.kpo.2.2 D _ hh rfl not_mapO_mark⟩
    · unfold St.get lvOut
      simp only [look_cons]
      by_cases h9 : s.t2 = t
      · simp only [h9, if_true]
        rw [← h9]
        exact r2.shp _ _ (List.mem_append_right _ (by subst hsh1; exact List.mem_cons_self))
      · simp only [if_neg h9]
        cases hl : look (keepT σ C.keep) t with
        | none => exact .any _
        | some d =>
          obtain ⟨h1, rfl⟩ := look_keepT_inv hl
          exact r2.shp _ _ (List.mem_append_right _ (by subst hsh1; exact List.mem_cons_of_mem _ (List.mem_map.2 ⟨t, h1, rfl⟩)))
  unfold LvS.b
  refine wpIn_block (wpIn_rangeV hm1 hclo (fun args w => callFunc_run hseq.1 w) hseq hlen
    (lvI base w0 (S0.round w.heap.size) C s.t2 σ a g0)
    (fun c W => ∃ σo, Fits base w0 (S0.round w.heap.size) { σo with rn := true } a W ∧ σo.rn = σ.rn ∧ ((c = .ret ∧ (K .ret σo).holds) ∨ ∃ j, c = .exit j ∧ ((bif Nat.beq j s.id then K .normal σo else K (.exit j) σo)).holds))
    (fun x W W' row ⟨i1, kn', blk', C', r', hk', hb'⟩ hg hr => ⟨i1, kn', blk', C', grownI r' hg hr, hk', hb'⟩)
    (fun c _ W W' row ⟨σo, ⟨kn', blk', r', hk'⟩, i2⟩ hg hr => ⟨σo, ⟨kn', blk', grownI r' hg hr, hk'⟩, i2⟩)
    (fun x W V v u ⟨i1, kn', blk', C', r', hk', hb'⟩ hva hvb hu hb => ⟨i1, kn', blk', C', lv_box r' hb' hb hvb hu (.inl rfl) (fun h => by rw [htrk] at h; cases h), hk', hb'⟩)
    (fun x W ⟨i1, kn', blk', C', r', hk', hb'⟩ => r'.glob.mono fun ad u h => ⟨h.1, fun e => h.2.1 _ _ hb' e⟩)
    ⟨hinv0, kn, blk, C0, lv_box r hb0 (BelowV.refl _ _) hv0 (hone 0) (.inl rfl) (fun _ => Nat.le_refl _), hk, hb0⟩ hv0
    (fun x => runAsg l { tmps := (s.ps.zip (C.enc x).toArray).foldl (fun t (pv : Tmp × Value) => t.setIfInBounds pv.1 pv.2) a.tmps, defers := [] })
    (fun lr x W K' hk' => asg_sound s.asg hasg hk') (fun lr x W ⟨i1, kn1, blk1, C1, r1, hk1, hb1⟩ hva hl => ?_) (fun D W hD ⟨i1, kn1, blk1, C1, r1, hk1, hb1⟩ hh => ?_) (fun D c W hD ⟨σo, i1, hrnσ, i2⟩ hh => ?_))
  · -- a round
    have hv := hround x ⟨i1, hl⟩
    have r2 := lv_box (d' := .val (C.rest (x + 1))) r1 hb1 (BelowV.refl _ _) hva (hone _) (.inr rfl) (fun _ => Nat.le_refl _)
    have rs : R base w0 { S0.round w.heap.size with sh := sh1, wr := W } { lvSt C s.t2 σ x (.val (C.rest (x + 1))) with rn := true } kn1 blk1 { a with defers := [] } W :=
      ⟨r2.below, r2.xs, r2.hbase, ⟨by simp, fun d hd => by cases hd⟩, ⟨Nat.le_refl _, fun B _ => KeepsFrom.refl _ _, fun k o h _ _ => h⟩, fun _ => rfl, r2.mlow, fun d v h => by
        rcases List.mem_append.1 h with h | h
        · exact r2.shp d v (List.mem_append_left _ h)
        have h : (d, v) ∈ sh1 := h
        subst hsh1
        rcases List.mem_cons.1 h with h | h
        · cases h
          have := r2.tmps s.t2
          rw [show St.get { lvSt C s.t2 σ x (.val (C.rest (x + 1))) with rn := true } s.t2 = lvClo C (σ.nx + 90) from lv_get C s.t2 σ x (.val (C.rest (x + 1)))] at this
          exact this
        obtain ⟨t, h1, h2⟩ := List.mem_map.1 h
        cases h2
        have h9 : ¬ s.t2 = t := fun h9 => by
          subst h9
          have : gKept C.keep (.tmp s.t2) = true := List.any_eq_true.2 ⟨_, h1, Nat.beq_refl _⟩
          rw [hnk] at this; cases this
        have := r2.tmps t
        have e : St.get { lvSt C s.t2 σ x (.val (C.rest (x + 1))) with rn := true } t = σ.get t := by
          show (match look ((s.t2, lvClo C (σ.nx + 90)) :: keepT σ C.keep) t with | some d => d | none => DV.any) = _
          rw [look_tl h9, look_keepT h1]
        rw [e] at this
        exact this, r2.size, r2.tmps, r2.objs, r2.inj, r2.ge, r2.live, r2.pin⟩
    have ra := R.asg l (by rw [bindP_lo]; exact hlo) (by rw [bindP_nt]; exact hfits) (R.bindP (σ := { lvSt C s.t2 σ x (.val (C.rest (x + 1))) with rn := true }) s.ps.toList (C.enc x) hlo hps rs)
    have ea : ({ tmps := (s.ps.toList.zip (C.enc x)).foldl (fun t (pv : Tmp × Value) => t.setIfInBounds pv.1 pv.2) a.tmps, defers := [] } : Act) = { tmps := (s.ps.zip (C.enc x).toArray).foldl (fun t (pv : Tmp × Value) => t.setIfInBounds pv.1 pv.2) a.tmps, defers := [] } := by
      rw [← Array.foldl_toList, Array.toList_zip]
    rw [ea] at ra
    refine evalCode_sound hm hx s.body (ro := some lr) (m := m - 1 - 1) (base := base) (w0 := w0) (S0 := { S0.round w.heap.size with sh := sh1, wr := W }) (.inr hcalm) _ _ _ hv (fun e σ' hh a' w' hf' => ?_) _ _ ⟨kn1, blk1, ra, fun i hi => ?_⟩
    · obtain ⟨kn3, blk3, r3, hk3⟩ := hf'
      have hout := outFits ⟨_, _, _, r2⟩ r3
      have hkeep : KeepsFrom w.heap.size W w' := r3.kpo.2.1 _ rfl
      cases e with
      | normal =>
        obtain ⟨k1, k2⟩ := AllP.app (AllT.all hh)
        obtain ⟨r4, hk4⟩ := weakenR (S0 := S0.round w.heap.size) (ρ := (σ.nx + 90, some (σ.nx + 90)) :: C.note.rn σ (lvOut C s.t2 σ σ') (x + 1)) (σ := { lvOut C s.t2 σ σ' with rn := true }) (σ' := { lvSt C s.t2 σ (x + 1) (.val (C.rest (x + 1))) with rn := true }) hsh (fun _ => rfl) (by rw [weakVC_rn]; exact k1) hout
        obtain ⟨g1, C2, hb2, hv2⟩ := lv_var r4
        have hcl := r4.tmps s.t2
        rw [show St.get { lvSt C s.t2 σ (x + 1) (.val (C.rest (x + 1))) with rn := true } s.t2 = lvClo C (σ.nx + 90) from lv_get C s.t2 σ (x + 1) (.val (C.rest (x + 1)))] at hcl
        have hcv : a.tmps.getD s.t2 undef = .func (.func C.gf) #[] #[.pointer (some ⟨g0, 0, none⟩)] := hclo
        rw [hcv] at hcl
        unfold lvClo at hcl
        have hg1 : g1 = g0 := by
          cases hcl with
          | clo hs2 hr2 =>
            have hp := hr2 0 _ (.pointer (some ⟨g0, 0, none⟩)) rfl rfl
            cases hp with
            | ptr _ _ hp => have := hp _ _ hb2; cases this; rfl
        subst hg1
        exact ⟨hkeep, ⟨k2.one, _, _, C2, lv_box r4 hb2 (BelowV.refl _ _) hv2 (hone _) (.inl rfl) (fun _ => Nat.le_refl _), hk4, hb2⟩, hv2⟩
      | ret => exact ⟨hkeep, _, ⟨_, _, hout, hk3⟩, rfl, .inl ⟨rfl, hh⟩⟩
      | exit j => exact ⟨hkeep, _, ⟨_, _, hout, hk3⟩, rfl, .inr ⟨j, rfl, hh⟩⟩
      | _ => exact hh.elim
    · have := hk1 i hi
      show i < (lvRound C s.t2 σ s.ps.toList l x).nx
      unfold lvRound
      rw [runAsgD_nx, bindP_nx]
      exact this
  · have i2 : Fits base w0 (S0.round w.heap.size) { lvSt C s.t2 σ C.N .any with rn := true } a W := ⟨kn1, blk1, r1, hk1⟩
    exact hK _ _ (hafter i1) _ _ (marked hD (i2.outRound hwb σ.rn) hh)
  · have i1' : Fits base w0 S0 σo a W := by
      have := i1.outRound hwb σ.rn
      rw [← hrnσ] at this
      exact this
    have hfm := marked hD i1' hh
    rcases i2 with ⟨rfl, h2⟩ | ⟨j, rfl, h2⟩
    · exact wpIn_ret (hK _ _ h2 _ _ hfm)
    · refine wpIn_exit ?_
      simp only [Exit.inBlock]
      cases hb : Nat.beq j s.id with
      | true =>
        simp only [hb, cond_true] at h2
        rw [if_pos (Nat.eq_of_beq_eq_true hb)]
        exact hK _ _ h2 _ _ hfm
      | false =>
        simp only [hb, cond_false] at h2
        rw [if_neg (fun e => by rw [e] at hb; simp at hb)]
        exact hK _ _ h2 _ _ hfm
theorem lvGo_ok (hm : P.follows .mixedOrders = true) (hx : ExtsOK P A) (htrk : trk = false) (hm1 : 1 ≤ m) (hsh : S0.sh = []) (hwb : S0.wb = none) {C : VNote} {s : LvS} {σ : St} {l : List (Tmp × Tmp)} {v : Value} {K : Exit → St → VT}
    (hts : σ.get s.ts = .val v) (d1 : dstOK σ.nt σ.lo (some s.t1) = true) (d2 : dstOK σ.nt σ.lo (some s.t2) = true)
    (hlo : σ.lo = 0) (hnk : gKept C.keep (.tmp s.t2) = false) (hasg : asgOf s.asg = some l) (hcalm : calmC A s.body = true) (hfits : asgFits σ.nt l = true) (hps : allLt σ.nt s.ps.toList = true)
    (h : (lvGo P A C s l v (σ.put s.t1 (.val v)) K).holds)
    (hK : ∀ e σ', (K e σ').holds → ∀ a w, Fits base w0 S0 σ' a w → Q e a w) (hf : Fits base w0 S0 σ a w) : (Code.seq s.a s.b).wpIn (FW none) m P Q a w := by
  obtain ⟨kn, blk, r, hk⟩ := hf
  have l1 := dst_lt d1
  have l2 := dst_lt d2
  have hv0 := r.tmps s.ts
  rw [hts] at hv0
  have hv0 := hv0.val_eq
  have r1 := r.put (d := .val v) (v := v) l1.1 l1.2 (.val v)
  have hk1 : ∀ i, kn i → i < (σ.put s.t1 (.val v)).nx := hk
  have l2' : s.t2 < (σ.put s.t1 (.val v)).nt ∧ (σ.put s.t1 (.val v)).lo ≤ s.t2 := l2
  have hlo' : (σ.put s.t1 (.val v)).lo = 0 := hlo
  have hfits' : asgFits (σ.put s.t1 (.val v)).nt l = true := hfits
  have hps' : allLt (σ.put s.t1 (.val v)).nt s.ps.toList = true := hps
  have hsz : a.tmps.size = σ.nt := r.size
  generalize σ.put s.t1 (.val v) = σ1 at r1 h hk1 l2' hlo' hfits' hps'
  obtain ⟨h1, h2⟩ := h
  have h1 := AllT.all h1
  have hF := h1.hd
  have hS := h1.tl.hd
  have hL := h1.tl.tl.hd
  have hO := h1.tl.tl.tl.hd
  obtain ⟨hw, hi⟩ := AllP.app h1.tl.tl.tl.tl
  obtain ⟨⟨-, hdone⟩, hmore⟩ := h2
  refine wpIn_seq ?_
  unfold LvS.a
  refine wpIn_region ?_
  show wpOpsIn (FW none) m P #[s.mv, s.cl] _ [0, 1] a w
  refine ops_step (o := s.mv) rfl rfl (op_val (fun c h => by cases h) (v := v) (by rw [← hv0]; rfl) ?_)
  have e1 : (a.put (some s.t1) v).tmps.getD s.t1 undef = v := getD_put _ _ (by rw [hsz]; exact l1.1)
  refine ops_step (o := s.cl) rfl rfl ?_
  have hex : (execOp (a.put (some s.t1) v).eval s.cl).run P w = .ok (.enter s.f #[v]) w := by
    unfold execOp LvS.cl
    have e2 : (a.put (some s.t1) v).eval (.tmp s.t1) = v := e1
    have e3 : (a.put (some s.t1) v).eval (.func s.f) = .func (.func s.f) #[] #[] := rfl
    simp [resolve, e2, e3, Deferred.ofValue, invoke, callFunc_run hF.1]
  unfold Oper.wpIn
  refine ⟨fun _ _ => trivial, ?_⟩
  rw [Oper.semAt_eq _ _ _ (fun c h => by cases h), show execOp (a.put s.mv.dst v).eval s.cl = execOp (a.put (some s.t1) v).eval s.cl from rfl, hex, Oper.uponIn_enter]
  refine ⟨fun h => (by cases h), CallsIn.mono (callsFW (hF.2 w)) fun en w' hx' => ?_⟩
  obtain ⟨T, rfl, rfl⟩ := hx'
  have hid : ¬ kn σ1.nx := fun h => Nat.lt_irrefl _ (hk1 _ h)
  have r2 := r1.new (id := σ1.nx) (o := .box [.val (C.rest 0)]) (cv := #[C.rest 0]) (T := T) (C := 1) hid (.inl ⟨_, rfl⟩) ⟨w.heap.size, 1, #[C.rest 0], T, rfl, heap_alloc_new _ _, rfl, (fun j d u x y => by
      match j, x, y with
      | 0, x, y => cases x; cases y; exact .val _
      | j + 1, x, y => cases x), fun u hu => by simp at hu; rw [hu]; exact hO 0⟩
  have r3 := r2.put (t := s.t2) (d := lvClo C σ1.nx) (v := .func (.func C.gf) #[] #[.pointer (some ⟨w.heap.size, 0, none⟩)]) l2'.1 l2'.2 (.clo rfl fun j d u x y => by
      match j, x, y with
      | 0, x, y =>
        cases x; cases y
        exact .ptr (.inr rfl) ⟨_, rfl⟩ fun g C' e => by simp at e; obtain ⟨e, _⟩ := e; subst e; rfl
      | j + 1, x, y => cases x)
  show s.b.wpIn (FW none) m P Q _ _
  refine lvLoop_ok hm hx htrk hm1 hsh hwb hlo' hnk hasg hcalm hfits' hps' hS hL hO hi.one (fun h => hdone () h) hmore hK (weaken hsh (fun h => absurd hwb h) hw ⟨_, _, r3.congr (fun _ => rfl) (fun _ => rfl) rfl rfl rfl, fun i hi => ?_⟩)
  show i < σ1.nx + 1
  rcases hi with hi | hi
  · have := hk1 i hi; omega
  · omega
theorem lvE_ok (hm : P.follows .mixedOrders = true) (hx : ExtsOK P A) (C : VNote) : ExtOK P (lvE P A C) := by
  intro m base w0 S0 hsh hwb hm1 ca cb σ K Q h hK ac w hf
  unfold lvE at h
  split at h
  · exact h.elim
  · rename_i s hs
    obtain ⟨rfl, rfl⟩ := lvShape_eq hs
    split at h
    · rename_i v l hts hasg
      cases hd : lvOK A C σ s l with
      | false => simp only [hd, cond_false] at h; exact h.elim
      | true =>
        simp only [hd, cond_true] at h
        simp only [lvOK, Bool.and_eq_true, Bool.not_eq_true'] at hd
        obtain ⟨d0, d1, d2, d3, d4, d5, d6, d7⟩ := hd
        exact lvGo_ok hm hx d0 hm1 hsh hwb hts d1 d2 (Nat.eq_of_beq_eq_true d3) d4 hasg d5 d6 d7 h hK hf
    · exact h.elim
def vSt (yv : Value) (nt : Nat) (r : Value) : St := { t := [(0, .val yv), (1, .ptr 0 0)], h := [(0, some (.box [.val r]))], nx := 1, nt := nt, lo := 2 }
def vTo (yv : Value) (nt t3 : Nat) (line rest : Value) : St := { t := [(0, .val yv), (1, .ptr 0 0), (t3, .val line)], h := [(0, some (.box [.val rest]))], nx := 1, nt := nt, lo := 2 }
def vK (yv : Value) (nt t3 : Nat) (r line rest : Value) (nm ex : List Prop) : Exit → St → VT
  | .normal, σ => .done (weakVC [(0, some 0)] σ (vTo yv nt t3 line rest) ++ nm)
  | .exit j, σ => .done (weakVC [(0, some 0)] σ (vSt yv nt r) ++ ((j = 0) :: ex))
  | _, _ => .done [False]
def vEv (P : Program) (A : Ann) : List Code → St → (Exit → St → VT) → VT
  | [], σ, K => K .normal σ
  | c :: r, σ, K => evalCode P A c σ fun e σ' => match e with
    | .normal => vEv P A r σ' K
    | e => K e σ'
theorem vEv_sound3 (hm : P.follows .mixedOrders = true) (hx : ExtsOK P A) {c0 c1 c2 y : Code} (h0 : calmC A c0 = true) (h1 : calmC A c1 = true) (h2 : calmC A c2 = true) {b : Nat} {σ : St} {K : Exit → St → VT} (h : (vEv P A [c0, c1, c2] σ K).holds)
    (hN : ∀ σ', (K .normal σ').holds → ∀ a w, Fits base w0 S0 σ' a w → y.wpIn (FW none) m P (Exit.inBlock b Q) a w)
    (hE : ∀ e σ', e ≠ .normal → (K e σ').holds → ∀ a w, Fits base w0 S0 σ' a w → Q e a w ∧ Exit.inBlock b Q e a w) (hf : Fits base w0 S0 σ a w) : (Code.seq c0 (.block b (.seq c1 (.seq c2 y)))).wpIn (FW none) m P Q a w := by
  refine wpIn_seq (evalCode_sound hm hx c0 (.inr h0) _ _ _ h (fun e σ' hh a w hf => ?_) _ _ hf)
  cases e with
  | normal =>
    refine wpIn_block (wpIn_seq (evalCode_sound hm hx c1 (.inr h1) _ _ _ hh (fun e σ' hh a w hf => ?_) _ _ hf))
    cases e with
    | normal =>
      refine wpIn_seq (evalCode_sound hm hx c2 (.inr h2) _ _ _ hh (fun e σ' hh a w hf => ?_) _ _ hf)
      cases e with
      | normal => exact hN _ hh _ _ hf
      | _ => exact (hE _ _ (fun h => by cases h) hh _ _ hf).2
    | _ => exact (hE _ _ (fun h => by cases h) hh _ _ hf).2
  | _ => exact (hE _ _ (fun h => by cases h) hh _ _ hf).1
def vEnv (W : World) (g : Nat) (a : Act) : Env := ⟨fun _ => True, [ndF], W, none, fun k => k = g, fun t => a.tmps.getD t undef⟩
theorem vSt_fits {W : World} {g : Nat} {yv r : Value} (hv : VarAt W g r) (ho : oneV r = true) (hg : GlobOK (rdV g W)) (hd : a.defers = []) (h0 : a.tmps.getD 0 undef = yv) (h1 : a.tmps.getD 1 undef = .pointer (some ⟨g, 0, none⟩)) :
    Fits W.heap.size W (vEnv W g a) (vSt yv a.tmps.size r) a W := by
  obtain ⟨T, hv⟩ := hv
  have hlt : g < W.heap.size := heap_lt hv
  have hob : ∀ i o, St.obj (vSt yv a.tmps.size r) i = some o → i = 0 ∧ o = .box [.val r] := fun i o h => by
    unfold St.obj vSt at h
    simp only [look_cons] at h
    by_cases e : 0 = i
    · simp only [if_pos e] at h; cases h; exact ⟨e.symm, rfl⟩
    · simp only [if_neg e, look] at h; cases h
  refine ⟨fun i => i = 0, fun i => if i = 0 then some (.at_ g 1) else none, ⟨BelowX.refl _ _ _, fun _ _ => trivial, Nat.le_refl _, ⟨⟨by rw [hd]; exact List.nodup_nil, fun _ => hd⟩, fun d h => by rw [hd] at h; cases h⟩, ⟨Nat.le_refl _, (fun B h => by cases h), fun _ _ h _ _ => h⟩, (fun h => absurd rfl h), (fun B h => by cases h), fun d v h => ?_, rfl, fun t => ?_, fun id o ho' => ?_, fun i i' l l' g' e1 e2 _ _ => ?_, fun i l g' e hg' => ?_, fun i l e => ?_, fun t ht => rfl⟩, fun i h => by rw [h]; exact Nat.one_pos⟩
  · rcases List.mem_append.1 h with h | h
    · refine (hg d v h).mono (fun ad u h => ⟨h.1, fun id l e hl => ?_, .inl trivial, fun B h => by cases h⟩) (fun _ h => h.elim) fun _ _ h => h.elim
      by_cases e9 : id = 0
      · simp only [if_pos e9, Option.some.injEq] at e; subst e; exact h.2 hl
      · simp only [if_neg e9] at e; cases e
    · have h : (d, v) ∈ [ndF] := h
      rw [List.mem_singleton] at h; cases h; exact .any _
  · unfold St.get vSt
    simp only [look_cons]
    by_cases e0 : 0 = t
    · simp only [if_pos e0]; rw [← e0, h0]; exact .val _
    · simp only [if_neg e0]
      by_cases e1 : 1 = t
      · simp only [if_pos e1]; rw [← e1, h1]
        exact .ptr rfl ⟨_, rfl⟩ fun g' C e => by simp at e; rw [e.1]
      · simp only [if_neg e1, look]; exact .any _
  · obtain ⟨rfl, rfl⟩ := hob id o ho'
    refine ⟨rfl, g, 1, #[r], T, rfl, hv, rfl, fun j d u e1 e2 => ?_, fun u hu => by simp at hu; rw [hu]; exact ho⟩
    match j, e1, e2 with
    | 0, e1, e2 => cases e1; cases e2; exact .val _
    | j + 1, e1, e2 => cases e1
  · by_cases e9 : i = 0
    · by_cases e8 : i' = 0
      · rw [e9, e8]
      · simp only [if_neg e8] at e2; cases e2
    · simp only [if_neg e9] at e1; cases e1
  · by_cases e9 : i = 0
    · simp only [if_pos e9, Option.some.injEq] at e; subst e
      have hg' : g' = g := hg'
      rw [hg']; exact ⟨.inr rfl, hlt⟩
    · simp only [if_neg e9] at e; cases e
  · by_cases e9 : i = 0
    · rw [e9]; exact ⟨_, rfl⟩
    · simp only [if_neg e9] at e; cases e
theorem v_out {W w : World} {g : Nat} {a0 : Act} {yv rest : Value} {nt : Nat} {σ τ : St} (h0 : a0.tmps.getD 0 undef = yv) (h1 : a0.tmps.getD 1 undef = .pointer (some ⟨g, 0, none⟩))
    (g0 : τ.get 1 = .ptr 0 0) (gb : τ.obj 0 = some (.box [.val rest])) (hlo : τ.lo = 2) (hnt : τ.nt = nt) (k1 : AllP (weakVC [(0, some 0)] σ τ)) (hf : Fits W.heap.size W (vEnv W g a0) σ a w) :
    BelowV g W w ∧ VarAt w g rest ∧ oneV rest = true ∧ a.defers = [] ∧ a.tmps.size = nt ∧ a.tmps.getD 0 undef = yv ∧ a.tmps.getD 1 undef = .pointer (some ⟨g, 0, none⟩) ∧ ∀ t v, τ.get t = .val v → a.tmps.getD t undef = v := by
  obtain ⟨kn, blk, r, hk⟩ := hf
  obtain ⟨r, -⟩ := weakenRS (σ' := τ) (fun d v h => by
    have h : (d, v) ∈ [ndF] := h
    rw [List.mem_singleton] at h; cases h; exact .any _) (fun h => absurd rfl h) k1 r
  have p0 : a.tmps.getD 0 undef = yv := (r.pin 0 (by rw [hlo]; decide)).trans h0
  have p1 : a.tmps.getD 1 undef = .pointer (some ⟨g, 0, none⟩) := (r.pin 1 (by rw [hlo]; decide)).trans h1
  have t1 := r.tmps 1
  rw [g0, p1] at t1
  obtain ⟨_, g', C', cv, T, hl, hh, hs, hr, hone⟩ := r.objs 0 (.box [.val rest]) gb
  have hs : cv.size = 1 := hs
  have hc0 : cv[0]? = some cv[0] := Array.getElem?_eq_getElem (by omega)
  have e : cv = #[rest] := by
    apply Array.ext
    · simp [hs]
    · intro i h1 h2
      have : i = 0 := by omega
      subst this
      simpa using (hr 0 _ _ rfl hc0).val_eq
  have hg' : g' = g := by
    cases t1 with
    | ptr _ _ hp => have := hp _ _ hl; cases this; rfl
  subst hg'
  subst e
  exact ⟨⟨r.below.os, r.below.tape, r.below.output, r.below.size, fun k hk hne => r.below.block k hk hne⟩, ⟨T, hh⟩, hone _ (by simp), r.dfr.1.2 (List.mem_singleton_self _), r.size.trans hnt, p0, p1, fun t v ht => by
    have := r.tmps t
    rw [ht] at this
    exact this.val_eq⟩
theorem vTo_out {W w : World} {g : Nat} {a0 : Act} {yv r line rest : Value} {nt t3 : Nat} {nm ex : List Prop} {σ : St} (h0 : a0.tmps.getD 0 undef = yv) (h1 : a0.tmps.getD 1 undef = .pointer (some ⟨g, 0, none⟩)) (h3 : 1 < t3)
    (h : (vK yv nt t3 r line rest nm ex .normal σ).holds) (hf : Fits W.heap.size W (vEnv W g a0) σ a w) :
    AllP nm ∧ BelowV g W w ∧ VarAt w g rest ∧ oneV rest = true ∧ a.defers = [] ∧ a.tmps.size = nt ∧ a.tmps.getD 0 undef = yv ∧ a.tmps.getD 1 undef = .pointer (some ⟨g, 0, none⟩) ∧ a.tmps.getD t3 undef = line := by
  obtain ⟨k1, k2⟩ := AllP.app (AllT.all h)
  have g3 : St.get (vTo yv nt t3 line rest) t3 = .val line := by
    unfold St.get vTo
    rw [look_tl (by omega), look_tl (by omega), look_hd]
  obtain ⟨x1, x2, x3, x4, x5, x6, x7, x8⟩ := v_out h0 h1 (τ := vTo yv nt t3 line rest) rfl rfl rfl rfl k1 hf
  exact ⟨k2, x1, x2, x3, x4, x5, x6, x7, x8 _ _ g3⟩
theorem vEx_out {W w : World} {g : Nat} {a0 : Act} {yv r line rest : Value} {nt t3 j : Nat} {nm ex : List Prop} {σ : St} (h0 : a0.tmps.getD 0 undef = yv) (h1 : a0.tmps.getD 1 undef = .pointer (some ⟨g, 0, none⟩))
    (h : (vK yv nt t3 r line rest nm ex (.exit j) σ).holds) (hf : Fits W.heap.size W (vEnv W g a0) σ a w) : j = 0 ∧ AllP ex ∧ BelowV g W w ∧ VarAt w g r ∧ oneV r = true ∧ a.defers = [] := by
  obtain ⟨k1, k2⟩ := AllP.app (AllT.all h)
  obtain ⟨x1, x2, x3, x4, _⟩ := v_out h0 h1 (τ := vSt yv nt r) rfl rfl rfl rfl k1 hf
  exact ⟨k2.hd, k2.tl, x1, x2, x3, x4⟩
end
end Go.Abs
end
