/- Whether a slice that only is read is nil: told for both answers. -/
import Derived.Test.YtomkiggacimmaaaGreatAbsX
import Derived.Lib.LazyBuf
namespace Go.Abs
open Go.RowKit

/-- The pieces of 'x == nil'. -/
structure NlS where
  i0 : Nat
  tx : Tmp
  t3 : Tmp
  t4 : Tmp
  ty : TypeId
  ty2 : TypeId
  x0 : TypeId × String × Array Edge
  x1 : TypeId × String × Array Edge
def NlS.mv (s : NlS) : Oper := { dst := some s.t3, op := .move (.tmp s.tx), type := s.x0.1, pos := s.x0.2.1, after := s.x0.2.2, guard := none }
def NlS.eq (s : NlS) : Oper := { dst := some s.t4, op := .binOp .eql s.ty (.tmp s.t3) (.const (.slice none 0 0)) s.ty2, type := s.x1.1, pos := s.x1.2.1, after := s.x1.2.2, guard := none }
def NlS.a (s : NlS) : Code := .region s.i0 #[s.mv, s.eq] false
def nlShape : Code → Option NlS
  | .region i0 ⟨[⟨some t3, .move (.tmp tx), a0, b0, c0, none⟩, ⟨some t4, .binOp .eql ty (.tmp t3') (.const (.slice none 0 0)) ty2, a1, b1, c1, none⟩]⟩ false =>
    bif Nat.beq t3 t3' then some ⟨i0, tx, t3, t4, ty, ty2, (a0, b0, c0), (a1, b1, c1)⟩ else none
  | _ => none
theorem nlShape_eq {a : Code} {s : NlS} (h : nlShape a = some s) : a = s.a := by
  unfold nlShape at h
  split at h
  · rename_i i0 t3 tx a0 b0 c0 t4 ty t3' ty2 a1 b1 c1
    cases hb : Nat.beq t3 t3'
    · rw [hb] at h; cases h
    · rw [hb] at h
      have h1 := Nat.eq_of_beq_eq_true hb
      subst h1
      cases h
      rfl
  · cases h
def nlDst (P : Program) (σ : St) (s : NlS) : Bool := dstOK σ.nt σ.lo (some s.t3) && (dstOK σ.nt σ.lo (some s.t4) && (match P.underlying s.ty with | some (.slice _) => true | _ => false))
def nlE (P : Program) (A : Ann) : Code → Code → St → (Exit → St → VT) → VT := fun a b σ K => match nlShape a with
  | none => .done [False]
  | some s => match σ.get s.tx with
    | .lst n cols => bif nlDst P σ s then .cut Bool (fun c => c = true → n = 0) (.done []) fun c => evalCode P A b ((σ.put s.t3 (.lst n cols)).put s.t4 (.val (.bool c))) K else .done [False]
    | _ => .done [False]
theorem nlE_ok {P : Program} {A : Ann} (hm : P.follows .mixedOrders = true) (hx : ExtsOK P A) : ExtOK P (nlE P A) := by
  intro m base w0 S0 hsh hwb hm1 ca cb σ K Q h hK ac w hf
  unfold nlE at h
  split at h
  · exact h.elim
  · rename_i s hs
    obtain rfl := nlShape_eq hs
    split at h
    · rename_i n cols htx
      cases hd : nlDst P σ s with
      | false => simp only [hd, cond_false] at h; exact h.elim
      | true =>
        simp only [hd, cond_true] at h
        simp only [nlDst, Bool.and_eq_true] at hd
        obtain ⟨d3, d4, d5⟩ := hd
        split at d5
        · rename_i e hty
          obtain ⟨kn, blk, r, hk⟩ := hf
          have l3 := dst_lt d3
          have l4 := dst_lt d4
          have hv := r.tmps s.tx
          rw [htx] at hv
          generalize hv0 : ac.tmps.getD s.tx undef = v0 at hv
          have r1 := r.put l3.1 l3.2 hv
          refine wpIn_seq ?_
          unfold NlS.a
          refine wpIn_region ?_
          show wpOpsIn (FW none) m P #[s.mv, s.eq] _ [0, 1] ac w
          refine ops_step (o := s.mv) rfl rfl (op_val (fun c h => by cases h) (v := v0) (by rw [← hv0]; rfl) ?_)
          cases hv with
          | lst U hc ha hn ho hr =>
            rename_i B c
            have e1 : (ac.put (some s.t3) (.slice B n c)).tmps.getD s.t3 undef = .slice B n c := getD_put _ _ (by rw [r.size]; exact l3.1)
            refine ops_step (o := s.eq) rfl rfl (op_put (fun c h => by cases h) (s := do eqGuard .eql s.ty (.tmp s.t3) (.const (.slice none 0 0)) ((ac.put (some s.t3) (.slice B n c)).tmps.getD s.t3 undef) (.slice none 0 0); binOp .eql s.ty ((ac.put (some s.t3) (.slice B n c)).tmps.getD s.t3 undef) (.slice none 0 0)) rfl (v := .bool B.isNone) (w' := w) (by rw [e1]; simp [eqGuard, run_eql_slice_nil w s.ty e B n c hty]) ?_)
            have r2 := r1.put (d := .val (.bool B.isNone)) (v := .bool B.isNone) l4.1 l4.2 (.val _)
            show cb.wpIn (FW none) m P _ _ w
            obtain ⟨-, h⟩ := h
            have h2 := h B.isNone (fun e9 => by
              cases B with
              | none =>
                rcases Nat.eq_zero_or_pos n with h9 | h9
                · exact h9
                · exact absurd rfl (hn h9)
              | some _ => cases e9)
            exact evalCode_sound hm hx cb (.inl ⟨⟨hsh, hwb⟩, rfl, hm1⟩) _ _ _ h2 hK _ _ ⟨kn, blk, r2, hk⟩
        · cases d5
    · exact h.elim
end Go.Abs
