/- A range over a map of the call's own, which nothing reads behind it. -/
import Derived.Test.YtomkiggacimmaaaGreatAbsT
import Derived.Maps.RangeRun
namespace Go.Abs
open Go.RowKit
open Go.ChangeMaps (setBlock)

/-- The pieces of 'for k := range m': the move of the map, the iterator, the round's first and second region. -/
structure MrS where
  i0 : Nat
  tm : Tmp
  t1 : Tmp
  ty : TypeId
  it : Tmp
  id : Nat
  i1 : Nat
  tn : Tmp
  tc : Tmp
  id2 : Nat
  i2 : Nat
  te : Tmp
  tl : List Oper
  rest : Code
  x0 : TypeId × String × Array Edge
  x1 : TypeId × String × Array Edge
  x2 : TypeId × String × Array Edge
  x3 : TypeId × String × Array Edge
  x4 : TypeId × String × Array Edge
def MrS.mv (s : MrS) : Oper := { dst := some s.t1, op := .move (.tmp s.tm), type := s.x0.1, pos := s.x0.2.1, after := s.x0.2.2, guard := none }
def MrS.rg (s : MrS) : Oper := { dst := some s.it, op := .range s.ty (.tmp s.t1), type := s.x1.1, pos := s.x1.2.1, after := s.x1.2.2, guard := none }
def MrS.nxt (s : MrS) : Oper := { dst := some s.tn, op := .next (.tmp s.it) false, type := s.x2.1, pos := s.x2.2.1, after := s.x2.2.2, guard := none }
def MrS.ex (s : MrS) : Oper := { dst := some s.tc, op := .extract (.tmp s.tn) 0, type := s.x3.1, pos := s.x3.2.1, after := s.x3.2.2, guard := none }
def MrS.en (s : MrS) : Oper := { dst := some s.te, op := .entry (.tmp s.it), type := s.x4.1, pos := s.x4.2.1, after := s.x4.2.2, guard := none }
def MrS.a (s : MrS) : Code := .region s.i0 #[s.mv, s.rg] false
def MrS.body (s : MrS) : Code := .seq (.region s.i1 #[s.nxt, s.ex] false) (.seq (.cond (.tmp s.tc) .skip (.exit s.id)) (.block s.id2 (.seq (.region s.i2 (s.en :: s.tl).toArray false) s.rest)))
def MrS.b (s : MrS) : Code := .block s.id (.loop s.body)
/-- What is said of the range: how a key is built; what is kept; the state behind the rounds for some keys; what holds then. -/
structure MNote : Type 1 where
  β : Type
  dec : β → List Int
  keyD : β → Value
  keep : List Nat
  boxes : List Nat
  ts : St → List (List Int) → List (Nat × DV) := fun _ _ => []
  bx : St → List (List Int) → List (Nat × List DV) := fun _ _ => []
  rw : St → List (List Int) → List (Nat × Nat × Nat × List (Nat → DV)) := fun _ _ => []
  rb : St → List (List Int) → List (Nat × Nat × Nat × Nat × List (Nat → DV)) := fun _ _ => []
  mo : St → List (List Int) → List (Nat × Option Nat × AObj) := fun _ _ => []
  inv : St → List (List Int) → Prop
def MNote.note (C : MNote) : Note := { ι := List (List Int), keep := C.keep, boxes := C.boxes, ts := C.ts, bx := C.bx, rw := C.rw, rb := C.rb, mo := C.mo, inv := C.inv, mu := fun _ _ => 0, rd := fun _ _ => [] }
structure MG where
  r : Nat
  b : Nat
  es : Array MapEntry
  clock : Nat
def MG.ptr (g : MG) : Value := .pointer (some ⟨g.r, 0, none⟩)
structure MrX (β : Type) where
  L : List (List Int)
  z : β
  vv : Value
  seen : Array Nat
section
variable {P : Program} {A : Ann} {m : Nat} {base : Nat} {w0 w : World} {S0 : Env} {a : Act} {Q : Exit → Act → World → Prop}
theorem ops_step {ops : Array Oper} {i : Nat} {rest : List Nat} {o : Oper} {ro : Option Nat} (h0 : ops[i]? = some o) (hg : o.guard = none) (h : o.wpIn (FW ro) m P a w (wpOpsIn (FW ro) m P ops Q rest) Q) : wpOpsIn (FW ro) m P ops Q (i :: rest) a w := by
  simp only [wpOpsIn, h0]
  rw [if_pos (by simp [Region.wanted, hg])]
  exact h
theorem op_put {o : Oper} {ro : Option Nat} (hnd : ∀ c, o.op ≠ .defer c) {K : Act → World → Prop} {s : Sem Value} {v : Value} {w' : World} (hex : execOp a.eval o = (do pure (.value (← s)))) (hr : s.run P w = .ok v w') (hK : K (a.put o.dst v) w') : o.wpIn (FW ro) m P a w K Q := by
  unfold Oper.wpIn
  refine ⟨fun _ _ => trivial, ?_⟩
  rw [Oper.semAt_eq _ _ _ hnd, hex]
  simp only [Sem.run_bind, hr, Result.andThen_ok, Sem.run_pure]
  exact hK
theorem dst_lt {nt lo t : Nat} (h : dstOK nt lo (some t) = true) : t < nt ∧ lo ≤ t := by
  simp only [dstOK] at h
  cases h1 : Nat.ble lo t
  · simp [h1] at h
  · simp only [h1, cond_true] at h
    exact ⟨Nat.le_of_ble_eq_true (show Nat.ble (t + 1) nt = true from h), Nat.le_of_ble_eq_true h1⟩
theorem getD_put (t : Nat) (v : Value) (h : t < a.tmps.size) : (a.put (some t) v).tmps.getD t undef = v := by
  rw [Act.getD_put a t v t h, if_pos rfl]
theorem op_val {o : Oper} {ro : Option Nat} (hnd : ∀ c, o.op ≠ .defer c) {K : Act → World → Prop} {v : Value} (hex : execOp a.eval o = pure (.value v)) (hK : K (a.put o.dst v) w) : o.wpIn (FW ro) m P a w K Q := by
  unfold Oper.wpIn
  refine ⟨fun _ _ => trivial, ?_⟩
  rw [Oper.semAt_eq _ _ _ hnd, hex]
  exact hK
theorem extsOK_one {A : Ann} {k : Nat} {E : Code → Code → St → (Exit → St → VT) → VT} (h : A.exts = [(k, E)]) (hE : ExtOK P E) : ExtsOK P A := fun id E' e => by
  rw [h] at e
  unfold look1 at e
  cases hb : Nat.beq k id
  · rw [hb] at e; cases e
  · rw [hb] at e; cases e; exact hE

end
end Go.Abs
