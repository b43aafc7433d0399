/- A range over an iterator that is a bound method: what the iterator laid itself, and what it reads, nobody turns while it runs. -/
import Derived.Test.YtdhnfeoigmeopaaDoorAbsS
import Derived.RangeFuncWrites
namespace Go.Abs
open Go.RowKit
def rdF (F : Nat → Prop) (w : World) : Rd := fun a u => rdw w a u ∧ F a.block
def newBlk (F : Nat → Prop) (A B : World) : Nat → Prop := fun k => F k ∨ (A.heap.size ≤ k ∧ k < B.heap.size)
def keptF (F : Nat → Prop) (A B : World) : Prop := A.heap.size ≤ B.heap.size ∧ ∀ k, F k → k < A.heap.size ∧ B.heap[k]? = A.heap[k]?
def SeqAt (P : Program) (m : Nat) (gf : FuncId) (vs : Array Value) (N : Nat) (enc : Nat → List Value) (F0 : Nat → Prop) (W0 : World) : Prop :=
  ∀ (l : Nat) (J : Nat → (Nat → Prop) → World → Prop) (Jx : World → Prop), (∀ x F A B, J x F A → Below A.heap.size A B → J x (newBlk F A B) B) → (∀ A B, Jx A → Below A.heap.size A B → Jx B) →
    (∀ x F W1, J x F W1 → x < N → YieldAt Fence.wide (m - 1) P l (enc x).toArray W1 fun e W' => (e = .returned (.bool true) ∧ J (x + 1) F W' ∧ keptF F W1 W') ∨ (e = .returned (.bool false) ∧ Jx W' ∧ keptF F W1 W')) →
    J 0 F0 W0 → CallsIn Fence.wide m P gf (vs ++ #[.func (.yield l) #[] #[]]) W0 fun e W' => (∃ v, e = .returned v) ∧ ((∃ F, J N F W') ∨ Jx W')
def SeqB (P : Program) (gf : FuncId) (fs : List DV) (N : Nat) (enc : Nat → List Value) : Prop :=
  Callable P gf ∧ ∀ (m : Nat) (vs : Array Value) (F0 : Nat → Prop) (W0 : World), vs.size = fs.length → (∀ (j : Nat) (d : DV) (v : Value), fs[j]? = some d → vs[j]? = some v → RelC (rdF F0 W0) d v) → GlobOK (rdF F0 W0) → SeqAt P m gf vs N enc F0 W0
def postB (B : Nat) (I : Nat → (Nat → Prop) → World → Prop) (Ix : Code → World → Prop) (x : Nat) (F : Nat → Prop) (W : World) : Exit → Act → World → Prop
  | .normal, _, W' => KeepsFrom B W W' ∧ I (x + 1) F W' ∧ keptF F W W'
  | .ret, _, W' => KeepsFrom B W W' ∧ Ix .ret W' ∧ keptF F W W'
  | .exit id, _, W' => KeepsFrom B W W' ∧ Ix (.exit id) W' ∧ keptF F W W'
  | .goto t, _, W' => KeepsFrom B W W' ∧ Ix (.goto t) W' ∧ keptF F W W'
  | _, _, _ => False
theorem wpIn_rangeB {P : Program} {n : Nat} {g : Operand} {ps : Array Tmp} {assign body : Code} {Q : Exit → Act → World → Prop} {a : Act} {w : World}
    (h1 : 1 ≤ n) {gf : Nat} {vs : Array Value} (hg : a.eval g = .func (.func gf) vs #[]) (eg : ∀ args w, (callFunc gf args).run P w = .ok (.enter gf args) w)
    {N : Nat} {enc : Nat → List Value} {F0 : Nat → Prop} (hF0 : ∀ k, F0 k → k < w.heap.size) (hseq : ∀ W, Below w.heap.size w W → SeqAt P (n - 1) gf vs N enc F0 W) (hps : ∀ x, x < N → (enc x).length = ps.size)
    (I : Nat → (Nat → Prop) → World → Prop) (Ix : Code → World → Prop)
    (hIF : ∀ x F W, I x F W → w.heap.size ≤ W.heap.size ∧ ∀ k, F k → k < W.heap.size)
    (hI : ∀ x F A B, I x F A → Below A.heap.size A B → I x (newBlk F A B) B)
    (hIp : ∀ x F W l st st', I x F W → w.heap.size ≤ l → ¬ F l → W.heap[l]? = some (.loop st) → I x F (W.putObj l (.loop st')))
    (hIx : ∀ c A B, Ix c A → Below A.heap.size A B → Ix c B)
    (hIxp : ∀ c W l st st', Ix c W → w.heap.size ≤ l → W.heap[l]? = some (.loop st) → Ix c (W.putObj l (.loop st')))
    (h0 : ∀ W, Below w.heap.size w W → I 0 F0 W) (Mid : Nat → (Nat → Prop) → Act → World → Prop)
    (hassign : ∀ (l x : Nat) (F : Nat → Prop) (W : World), I x F W → x < N →
      assign.wpIn (FW (some l)) (n - 1 - 1) P (Exit.then (fun a' W' => KeepsFrom w.heap.size W W' ∧ keptF F W W' ∧ Mid x F a' W') (fun _ _ _ => False)) { tmps := (ps.zip (enc x).toArray).foldl (fun t (p, v) => t.setIfInBounds p v) a.tmps, defers := [] } W)
    (hMp : ∀ x F a' W l st st', Mid x F a' W → w.heap.size ≤ l → ¬ F l → W.heap[l]? = some (.loop st) → Mid x F a' (W.putObj l (.loop st')))
    (hbody : ∀ (l x : Nat) (F : Nat → Prop) (a' : Act) (W : World), Mid x F a' W → x < N → body.wpIn (FW (some l)) (n - 1 - 1) P (postB w.heap.size I Ix x F W) a' W)
    (hdone : ∀ (D : Nat) (F : Nat → Prop) (W : World), w.heap.size ≤ D → I N F W → W.heap[D]? = some (.deferred (some [])) → Q .normal { a with defers := { target := .collected D, args := #[] } :: a.defers } W)
    (hstop : ∀ (D : Nat) (c : Code) (W : World), w.heap.size ≤ D → Ix c W → W.heap[D]? = some (.deferred (some [])) → c.wpIn (FW none) n P Q { a with defers := { target := .collected D, args := #[] } :: a.defers } W) :
    (Code.rangeFunc g ps assign body).wpIn (FW none) n P Q a w := by
  refine wpIn_rangeFunc fun fn hfn => ?_
  obtain ⟨rec, hrec⟩ : ∃ rec : LoopState → Option Code → Loop, rec = fun st pe => { state := st, pending := pe, fn, tmps := a.tmps, params := ps, assign, body, defers := w.heap.size } := ⟨_, rfl⟩
  obtain ⟨W1, hW1⟩ : ∃ W1, (w.alloc (.deferred (some []))).alloc (.loop (rec .ready none)) = W1 := ⟨_, rfl⟩
  have hsz : W1.heap.size = w.heap.size + 2 := by rw [← hW1]; simp
  have hL1 : W1.heap[w.heap.size + 1]? = some (.loop (rec .ready none)) := by
    rw [← hW1]; have := World.alloc_heap_new (w.alloc (.deferred (some []))) (.loop (rec .ready none)); rwa [World.size_alloc] at this
  have hK1 : W1.heap[w.heap.size]? = some (.deferred (some [])) := by
    rw [← hW1]; exact (Below.heap_alloc _ _ _ (by simp)).trans (World.alloc_heap_new w _)
  have hb1 : Below w.heap.size w W1 := by
    rw [← hW1]; exact ((Below.refl _ w).alloc (Nat.le_refl _) _).trans (((Below.refl _ _).alloc (Nat.le_refl _) _).mono (by simp))
  refine ⟨w.heap.size + 1, [{ target := .collected w.heap.size, args := #[] }], W1, { target := .fn (.func gf) #[], args := vs ++ #[.func (.yield (w.heap.size + 1)) #[] #[]] }, W1, gf,
    vs ++ #[.func (.yield (w.heap.size + 1)) #[] #[]], W1, ?_, ?_, fun f' hf' => trivial, ?_, fun _ => h1, ?_⟩
  · rw [← hW1, hrec]; exact run_enterLoop_outer _ _ _ _ _
  · simp only [resolve, hg]
    simp [go_sem]
  · simp [invoke, go_sem, eg]
  have nF : ∀ {F : Nat → Prop} {A B : World}, (¬ F (w.heap.size + 1) ∧ ¬ F w.heap.size) → w.heap.size + 1 < A.heap.size → (¬ newBlk F A B (w.heap.size + 1) ∧ ¬ newBlk F A B w.heap.size) := fun h hs => ⟨fun h' => h'.elim h.1 fun h' => by omega, fun h' => h'.elim h.2 fun h' => by omega⟩
  refine (hseq W1 hb1 (w.heap.size + 1)
    (fun x F W => I x F W ∧ W.heap[w.heap.size + 1]? = some (.loop (rec .ready none)) ∧ W.heap[w.heap.size]? = some (.deferred (some [])) ∧ (¬ F (w.heap.size + 1) ∧ ¬ F w.heap.size))
    (fun W => ∃ c, Ix c W ∧ W.heap[w.heap.size + 1]? = some (.loop (rec .done (some c))) ∧ W.heap[w.heap.size]? = some (.deferred (some [])))
    (fun x F A B ⟨hi, hl, hk, hn⟩ hb => ⟨hI x F A B hi hb, (hb.block _ (heap_lt hl)).trans hl, (hb.block _ (heap_lt hk)).trans hk, nF hn (heap_lt hl)⟩)
    (fun A B ⟨c, hc, hl, hk⟩ hb => ⟨c, hIx c A B hc hb, (hb.block _ (heap_lt hl)).trans hl, (hb.block _ (heap_lt hk)).trans hk⟩)
    ?_ ⟨h0 W1 hb1, hL1, hK1, fun h => by have := hF0 _ h; omega, fun h => by have := hF0 _ h; omega⟩).mono ?_
  · rintro x F W ⟨hi, hl, hk, hn⟩ hlt
    have hlW := heap_lt hl
    have hy := run_yield (P := P) (args := (enc x).toArray) hl (by rw [hrec]; simpa using hps x hlt)
    rw [hrec] at hy
    refine ⟨fn, _, assign, body, hy, roundIn_of_wpIn hfn (wpIn_mono (hassign (w.heap.size + 1) x F W hi hlt) ?_)⟩
    rintro e a1 V hq
    cases e with
    | normal => ?_
    | _ => exact hq.elim
    obtain ⟨hk1, hf1, hmid⟩ := hq
    have hlV := hk1.same _ _ (by omega) hl rfl
    have hkV := hk1.same _ _ (Nat.le_refl _) hk rfl
    refine ⟨_, run_beginRound hlV (by rw [hrec]), ?_⟩
    have hl2 : (V.putObj (w.heap.size + 1) (.loop { rec .ready none with state := .busy })).heap[w.heap.size + 1]? = some (.loop { rec .ready none with state := .busy }) := World.putObj_heap_same (heap_lt hlV)
    have hk2 : (V.putObj (w.heap.size + 1) (.loop { rec .ready none with state := .busy })).heap[w.heap.size]? = some (.deferred (some [])) := (World.putObj_heap_other (by omega)).trans hkV
    have put : ∀ (V : World) (st : Loop), keptF F V (V.putObj (w.heap.size + 1) (.loop st)) ∨ ¬ ∀ k, F k → k < V.heap.size := fun V st => by
      by_cases h : ∀ k, F k → k < V.heap.size
      · exact .inl ⟨(grownBy_putObj' V _ _).size, fun k hk => ⟨h k hk, World.putObj_heap_other (fun e => hn.1 (e ▸ hk))⟩⟩
      · exact .inr h
    have kt : ∀ {A B C : World}, keptF F A B → keptF F B C → keptF F A C := fun h k => ⟨Nat.le_trans h.1 k.1, fun i hi => ⟨(h.2 i hi).1, (k.2 i hi).2.trans (h.2 i hi).2⟩⟩
    have kp : ∀ {V : World} {y : Nat} (st : Loop), I y F V → keptF F V (V.putObj (w.heap.size + 1) (.loop st)) := fun {V y} st h => (put V st).resolve_right (fun h' => h' (hIF _ _ _ h).2)
    have hf1 : keptF F W (V.putObj (w.heap.size + 1) (.loop { rec .ready none with state := .busy })) := kt hf1 ((put V _).resolve_right fun h' => h' fun k hk => Nat.lt_of_lt_of_le (hf1.2 k hk).1 hf1.1)
    refine wpIn_mono (hbody (w.heap.size + 1) x F a1 _ (hMp _ _ _ _ _ _ { rec .ready none with state := .busy } hmid (by omega) hn.1 hlV) hlt) ?_
    have fin : ∀ (jump : Option Code) (W3 : World), KeepsFrom w.heap.size (V.putObj (w.heap.size + 1) (.loop { rec .ready none with state := .busy })) W3 →
        (Instr.endRound (w.heap.size + 1) jump).run P W3 = .ok (.bool jump.isNone) (W3.putObj (w.heap.size + 1) (.loop (rec (if jump.isNone then .ready else .done) jump))) ∧
        W3.heap[w.heap.size + 1]? = some (.loop { rec .ready none with state := .busy }) ∧
        (W3.putObj (w.heap.size + 1) (.loop (rec (if jump.isNone then .ready else .done) jump))).heap[w.heap.size + 1]? = some (.loop (rec (if jump.isNone then .ready else .done) jump)) ∧
        (W3.putObj (w.heap.size + 1) (.loop (rec (if jump.isNone then .ready else .done) jump))).heap[w.heap.size]? = some (.deferred (some [])) := fun jump W3 hk3 => by
      have hl3 := hk3.same _ _ (by omega) hl2 rfl
      have := run_endRound (P := P) jump hl3
      rw [hrec] at this ⊢
      exact ⟨this, by rw [hrec] at hl3; exact hl3, World.putObj_heap_same (heap_lt hl3), (World.putObj_heap_other (by omega)).trans (hk3.same _ _ (Nat.le_refl _) hk2 rfl)⟩
    rintro e a3 W3 hp
    cases e with
    | normal =>
      obtain ⟨hk3, hi3, hf3⟩ := hp
      obtain ⟨hr, hl3, hl4, hk4⟩ := fin none W3 hk3
      exact ⟨_, _, hr, .inl ⟨rfl, ⟨hIp _ _ _ _ _ _ hi3 (by omega) hn.1 hl3, hl4, hk4, hn⟩, kt hf1 (kt hf3 (kp _ hi3))⟩⟩
    | ret =>
      obtain ⟨hk3, hi3, hf3⟩ := hp
      obtain ⟨hr, hl3, hl4, hk4⟩ := fin (some .ret) W3 hk3
      exact ⟨_, _, hr, .inr ⟨rfl, ⟨.ret, hIxp _ _ _ _ _ hi3 (by omega) hl3, hl4, hk4⟩, kt hf1 (kt hf3 ((put W3 _).resolve_right fun h' => h' fun k hk => Nat.lt_of_lt_of_le ((hf3.2 k hk).1) hf3.1))⟩⟩
    | exit id =>
      obtain ⟨hk3, hi3, hf3⟩ := hp
      obtain ⟨hr, hl3, hl4, hk4⟩ := fin (some (.exit id)) W3 hk3
      exact ⟨_, _, hr, .inr ⟨rfl, ⟨.exit id, hIxp _ _ _ _ _ hi3 (by omega) hl3, hl4, hk4⟩, kt hf1 (kt hf3 ((put W3 _).resolve_right fun h' => h' fun k hk => Nat.lt_of_lt_of_le ((hf3.2 k hk).1) hf3.1))⟩⟩
    | goto t =>
      obtain ⟨hk3, hi3, hf3⟩ := hp
      obtain ⟨hr, hl3, hl4, hk4⟩ := fin (some (.goto t)) W3 hk3
      exact ⟨_, _, hr, .inr ⟨rfl, ⟨.goto t, hIxp _ _ _ _ _ hi3 (by omega) hl3, hl4, hk4⟩, kt hf1 (kt hf3 ((put W3 _).resolve_right fun h' => h' fun k hk => Nat.lt_of_lt_of_le ((hf3.2 k hk).1) hf3.1))⟩⟩
    | panic ch => exact hp.elim
    | outgrown => exact hp.elim
  · rintro e W2 ⟨⟨v, rfl⟩, (⟨F, hi, hl, hk, hn⟩ | ⟨c, hi, hl, hk⟩)⟩
    · exact ⟨none, _, by have := run_endLoop (P := P) hl (by rw [hrec]; simp); rw [hrec] at this; exact this, hdone _ _ _ (Nat.le_refl _) (hIp _ _ _ _ _ _ hi (by omega) hn.1 hl) ((World.putObj_heap_other (by omega)).trans hk)⟩
    · exact ⟨some c, _, by have := run_endLoop (P := P) hl (by rw [hrec]; simp); rw [hrec] at this; exact this, hstop _ c _ (Nat.le_refl _) (hIxp _ _ _ _ _ hi (by omega) hl) ((World.putObj_heap_other (by omega)).trans hk)⟩
end Go.Abs
