/- Keys of maps: integers, structs of integers, strings: how the machine finds and checks them. No program in sight. -/
import Derived.Test.YtbemjdppfiabgaaAbsB
import Derived.Laws.StructEq
import Derived.StringKeys
namespace Go.Abs
open Go.RowKit

theorem intsV_spec : ∀ {vs : List Value} {l : List Int}, intsV vs = some l → vs = l.map fun n => Value.int .i64 n
  | [], l, h => by simp [intsV] at h; subst h; rfl
  | v :: r, l, h => by
    cases v with
    | int k n =>
      cases k with
      | i64 =>
        simp only [intsV] at h
        cases hr : intsV r with
        | none => simp [hr] at h
        | some q =>
          simp only [hr, Option.some.injEq] at h
          subst h
          rw [intsV_spec hr]; rfl
      | _ => simp [intsV] at h
    | _ => simp [intsV] at h

theorem bInts_inj {s t : ByteArray} (h : bInts s = bInts t) : s = t := by
  unfold bInts at h
  have h1 : s.data.toList = t.data.toList := by
    generalize s.data.toList = a at h
    generalize t.data.toList = b at h
    induction a generalizing b with
    | nil => cases b with
      | nil => rfl
      | cons x r => simp at h
    | cons x r ih => cases b with
      | nil => simp at h
      | cons y q =>
        simp only [List.map_cons, List.cons.injEq] at h
        rw [ih _ h.2]
        congr 1
        have : x.toNat = y.toNat := by have := h.1; omega
        exact UInt8.toNat_inj.1 this
  cases s; cases t
  have h2 := Array.ext' h1
  simp only at h2
  rw [h2]

theorem encK_inj {ks : KS} {a b : Value} {l : List Int} (ha : encK ks a = some l) (hb : encK ks b = some l) : a = b := by
  cases ks with
  | int =>
    cases a <;> simp [encK] at ha
    cases b <;> simp [encK] at hb
    rename_i k n k' n'
    cases k <;> simp [encK] at ha
    cases k' <;> simp [encK] at hb
    subst ha
    simp at hb; rw [hb]
  | ints n =>
    cases a <;> simp only [encK, reduceCtorEq] at ha
    cases b <;> simp only [encK, reduceCtorEq] at hb
    rename_i us vs
    cases hu : intsV us.toList with
    | none => simp [hu] at ha
    | some lu =>
      cases hv : intsV vs.toList with
      | none => simp [hv] at hb
      | some lv =>
        simp only [hu] at ha
        simp only [hv] at hb
        cases h1 : Nat.beq lu.length n <;> simp [h1] at ha
        cases h2 : Nat.beq lv.length n <;> simp [h2] at hb
        have e1 := intsV_spec hu
        have e2 := intsV_spec hv
        rw [ha] at e1; rw [hb] at e2
        have := Array.ext' (e1.trans e2.symm)
        rw [this]
  | str =>
    cases a <;> simp [encK] at ha
    cases b <;> simp [encK] at hb
    rw [bInts_inj (ha.trans hb.symm)]

def intFs (P : Program) : Nat → List Field → Bool
  | _, [] => true
  | i, f :: r => bif f.name == "_" then false else match P.underlying f.type with
    | some (.int .i64) => bif Nat.beq f.offset i then intFs P (i + 1) r else false
    | _ => false
/-- What kind of keys a type's values are. -/
def kShape (P : Program) (t : TypeId) : Option KS := match P.underlying t with
  | some (.int .i64) => some .int
  | some .string => some .str
  | some (.struct fs) => bif P.stoodInHeld t then none else bif intFs P 0 fs.toList then some (.ints fs.toList.length) else none
  | _ => none

structure KeyRun (P : Program) (kt : TypeId) (ks : KS) : Prop where
  check : ∀ (w : World) (em : Bool) {v : Value} {l : List Int}, encK ks v = some l → (Instr.checkKey em 10000 kt v).run P w = .ok () w
  find : ∀ (w : World) {x : Value} {lx : List Int}, encK ks x = some lx → ∀ es : List MapEntry, (∀ e ∈ es, ∃ l, encK ks e.key = some l) →
    ((Instr.findKey kt x es).run P w = .ok none w ∧ ∀ e ∈ es, e.key ≠ x) ∨ ∃ j e, (Instr.findKey kt x es).run P w = .ok (some (j, e.val)) w ∧ es[j]? = some e ∧ e.key = x
  stays : ∀ (w : World) {v : Value} {l : List Int}, encK ks v = some l → (Instr.keyThatStays v v).run P w = .ok v w

theorem KeyRun.plain {P : Program} {kt : TypeId} {ks : KS} {d : TypeDesc} (hd : P.underlying kt = some d) (hk : ∀ {v l}, encK ks v = some l → MapKept.IsKey d v) : KeyRun P kt ks where
  check w em v l h := MapKept.run_checkKey hd (hk h) em 9999
  find w x lx hx es hes := by
    rcases MapKept.findNow_spec (hk hx) es 0 (fun e he => let ⟨_, h⟩ := hes e he; hk h) with ⟨h1, h2⟩ | ⟨j, e, h1, h2, h3⟩
    · exact .inl ⟨MapKept.run_findKey hd h1, h2⟩
    · exact .inr ⟨j, e, by simpa using MapKept.run_findKey (w := w) hd h1, h2, h3⟩
  stays w v l h := MapKept.run_keyThatStays (hk h)

section
variable {P : Program} {w : World}

theorem intPart {t : TypeId} (h : P.underlying t = some (.int .i64)) (vs : Array Value) (i : Nat) {v : Value} (hv : vs[i]? = some v) : (part t vs i).run P w = .ok v w := by
  have h1 : (isAgg t).run P w = .ok false w := by
    simp only [isAgg, Sem.run_bind, run_underlying h, Result.andThen_ok]; rfl
  simp [part, h1, hv]

theorem intFs_eq : ∀ (fs : List Field) (i : Nat), intFs P i fs = true → ∀ (d : Nat) (l l' : List Int), l.length = i + fs.length → l'.length = i + fs.length →
    (Op.eqFields (d + 1) (l.map fun n => Value.int .i64 n).toArray (l'.map fun n => Value.int .i64 n).toArray fs).run P w = .ok (decide (l.drop i = l'.drop i)) w
  | [], i, _, d, l, l', h1, h2 => by
    have e1 : l.drop i = [] := List.drop_eq_nil_of_le (by simp at h1; omega)
    have e2 : l'.drop i = [] := List.drop_eq_nil_of_le (by simp at h2; omega)
    simp [Op.eqFields, e1, e2]
  | f :: fs, i, h, d, l, l', h1, h2 => by
    simp only [List.length_cons] at h1 h2
    simp only [intFs] at h
    cases hn : f.name == "_"
    · simp only [hn, cond_false] at h
      split at h
      · rename_i ht
        cases ho : Nat.beq f.offset i
        · simp [ho] at h
        · simp only [ho, cond_true] at h
          have ho' : f.offset = i := Nat.eq_of_beq_eq_true ho
          have ih := intFs_eq fs (i + 1) h d l l' (by omega) (by omega)
          have hl : i < l.length := by omega
          have hl' : i < l'.length := by omega
          have p1 := intPart (w := w) ht (l.map fun n => Value.int .i64 n).toArray i (v := .int .i64 l[i]) (by simp [hl])
          have p2 := intPart (w := w) ht (l'.map fun n => Value.int .i64 n).toArray i (v := .int .i64 l'[i]) (by simp [hl'])
          simp only [Op.eqFields, show f.name ≠ "_" from by simpa using hn, ne_eq, not_false_eq_true, if_true, Sem.run_bind, ho', p1, p2, Result.andThen_ok, run_equalIn_int w d f.type _ _ _ _ ht]
          rw [List.drop_eq_getElem_cons hl, List.drop_eq_getElem_cons hl']
          cases he : (l[i] == l'[i])
          · have : l[i] ≠ l'[i] := by simpa using he
            rw [decide_eq_false (fun e => this (List.cons.inj e).1)]
            simp
          · have : l[i] = l'[i] := by simpa using he
            simp only [this, List.cons.injEq, true_and]
            simpa using ih
      · cases h
    · simp [hn] at h

theorem intFs_check (em : Bool) (d : Nat) (cs : Array Value) : ∀ (fs : List Field) (i : Nat), intFs P i fs = true → (∀ j, i ≤ j → j < i + fs.length → ∃ n, cs[j]? = some (.int .i64 n)) →
    (forIn fs PUnit.unit fun f (_ : PUnit) => (if f.name ≠ "_" then part f.type cs f.offset >>= fun v => Instr.checkKey em (d + 1) f.type v >>= fun _ => pure (ForInStep.yield PUnit.unit)
      else pure (ForInStep.yield PUnit.unit) : Sem (ForInStep PUnit))).run P w = .ok PUnit.unit w
  | [], _, _, _ => by simp
  | f :: fs, i, h, hc => by
    simp only [intFs] at h
    cases hn : f.name == "_"
    · simp only [hn, cond_false] at h
      split at h
      · rename_i ht
        cases ho : Nat.beq f.offset i
        · simp [ho] at h
        · simp only [ho, cond_true] at h
          have ho' : f.offset = i := Nat.eq_of_beq_eq_true ho
          obtain ⟨n, hn'⟩ := hc i (Nat.le_refl _) (by simp)
          have p1 := intPart (w := w) ht cs i hn'
          have ih := intFs_check em d cs fs (i + 1) h (fun j h1 h2 => hc j (by omega) (by simp; omega))
          have hk := MapKept.run_checkKey (w := w) ht (k := .int .i64 n) (by simp [MapKept.IsKey]) em d
          simp only [List.forIn_cons, Sem.run_bind, show f.name ≠ "_" from by simpa using hn, ne_eq, not_false_eq_true, if_true, ho', p1, hk, Result.andThen_ok, Sem.run_pure]
          exact ih
      · cases h
    · simp [hn] at h

theorem KeyRun.struct {kt : TypeId} {fs : Array Field} (hu : P.underlying kt = some (.struct fs)) (hp : P.stoodInHeld kt = false) (hf : intFs P 0 fs.toList = true) : KeyRun P kt (.ints fs.toList.length) := by
  have val : ∀ {v l}, encK (.ints fs.toList.length) v = some l → v = .agg (l.map fun n => Value.int .i64 n).toArray ∧ l.length = fs.toList.length := fun {v l} h => by
    cases v <;> simp only [encK, reduceCtorEq] at h
    rename_i vs
    cases hv : intsV vs.toList with
    | none => simp [hv] at h
    | some q =>
      simp only [hv] at h
      cases hb : Nat.beq q.length fs.toList.length <;> simp only [hb, cond_false, cond_true, reduceCtorEq, Option.some.injEq] at h
      subst h
      have := intsV_spec hv
      refine ⟨?_, Nat.eq_of_beq_eq_true hb⟩
      rw [← this]
  have hff : P.fieldsOf kt = fs := by simp [Program.fieldsOf, hu]
  have eqr : ∀ (w : World) (l l' : List Int), l.length = fs.toList.length → l'.length = fs.toList.length → (Op.equal kt (.agg (l.map fun n => Value.int .i64 n).toArray) (.agg (l'.map fun n => Value.int .i64 n).toArray)).run P w = .ok (decide (l = l')) w := fun w l l' h1 h2 => by
    have := run_equalIn_struct (P := P) (w := w) 9999 kt (l.map fun n => Value.int .i64 n).toArray (l'.map fun n => Value.int .i64 n).toArray (by rw [hff]; exact hu) hp
    rw [hff] at this
    have h3 := intFs_eq (w := w) fs.toList 0 hf 9998 l l' (by omega) (by omega)
    simp only [List.drop_zero] at h3
    exact this.trans h3
  constructor
  · intro w em v l h
    obtain ⟨rfl, hl⟩ := val h
    rw [show (10000 : Nat) = 9999 + 1 from rfl, Instr.checkKey]
    simp only [Sem.run_bind, run_underlying hu, Result.andThen_ok]
    rw [← Array.forIn_toList]
    refine (congrArg (fun r : Result PUnit => r.andThen fun _ w' => Sem.run P (pure ()) w') (?_ : _ = Result.ok PUnit.unit w)).trans rfl
    exact intFs_check (w := w) em 9998 (l.map fun n => Value.int .i64 n).toArray fs.toList 0 hf (fun j _ h2 => ⟨l[j]'(by omega), by simp [show j < l.length by omega]⟩)
  · intro w x lx hx es hes
    obtain ⟨rfl, hlx⟩ := val hx
    have ask : ∀ (es : List MapEntry) (i : Nat), (∀ e ∈ es, ∃ l, encK (.ints fs.toList.length) e.key = some l) →
        ((Instr.findAsking kt (.agg (lx.map fun n => Value.int .i64 n).toArray) es i).run P w = .ok none w ∧ ∀ e ∈ es, e.key ≠ .agg (lx.map fun n => Value.int .i64 n).toArray) ∨
        ∃ j e, (Instr.findAsking kt (.agg (lx.map fun n => Value.int .i64 n).toArray) es i).run P w = .ok (some (i + j, e.val)) w ∧ es[j]? = some e ∧ e.key = .agg (lx.map fun n => Value.int .i64 n).toArray := by
      intro es
      induction es with
      | nil => intro i _; exact .inl ⟨by simp [Instr.findAsking], by simp⟩
      | cons e r ih =>
        intro i hes
        obtain ⟨l, hl⟩ := hes e List.mem_cons_self
        obtain ⟨hk, hll⟩ := val hl
        have he := eqr w lx l hlx hll
        rw [← hk] at he
        by_cases h : lx = l
        · right
          refine ⟨0, e, ?_, rfl, by rw [hk, h]⟩
          simp only [Instr.findAsking, Sem.run_bind, he, Result.andThen_ok, decide_eq_true h, if_true]
          rfl
        · have hne : e.key ≠ .agg (lx.map fun n => Value.int .i64 n).toArray := fun e1 => by
            rw [e1] at hl
            rw [hx] at hl
            exact h (Option.some.inj hl)
          rcases ih (i + 1) (fun e' h' => hes e' (List.mem_cons_of_mem _ h')) with ⟨h1, h2⟩ | ⟨j, e', h1, h2, h3⟩
          · left
            refine ⟨?_, fun e' h' => ?_⟩
            · simp only [Instr.findAsking, Sem.run_bind, he, Result.andThen_ok, decide_eq_false h, Bool.false_eq_true, if_false]
              exact h1
            · rcases List.mem_cons.1 h' with rfl | h'
              · exact hne
              · exact h2 e' h'
          · right
            refine ⟨j + 1, e', ?_, by simpa using h2, h3⟩
            simp only [Instr.findAsking, Sem.run_bind, he, Result.andThen_ok, decide_eq_false h, Bool.false_eq_true, if_false]
            rw [h1]
            congr 3
            omega
    have fk : (Instr.findKey kt (.agg (lx.map fun n => Value.int .i64 n).toArray) es).run P w = (Instr.findAsking kt (.agg (lx.map fun n => Value.int .i64 n).toArray) es).run P w := by
      cases es with
      | nil => simp [Instr.findKey, run_underlying hu, Instr.findNow, Instr.findAsking]
      | cons e r => simp [Instr.findKey, run_underlying hu, Instr.findNow, Instr.sameNow]
    rw [fk]
    rcases ask es 0 hes with h | ⟨j, e, h1, h2, h3⟩
    · exact .inl h
    · exact .inr ⟨j, e, by simpa using h1, h2, h3⟩
  · intro w v l h
    obtain ⟨rfl, hl⟩ := val h
    have : Instr.sameBits 10000 (.agg (l.map fun n => Value.int .i64 n).toArray) (.agg (l.map fun n => Value.int .i64 n).toArray) = true := by
      simp only [Instr.sameBits, beq_self_eq_true, Bool.true_and, List.all_eq_true]
      intro p hp
      have : p.1 = p.2 ∧ ∃ n, p.1 = .int .i64 n := by
        obtain ⟨i, hi, rfl⟩ := List.mem_iff_getElem.1 hp
        simp
      obtain ⟨e1, n, e2⟩ := this
      obtain ⟨a, b⟩ := p
      simp only at e1 e2
      subst e1 e2
      simp [Instr.sameBits]
    simp [Instr.keyThatStays, this]
end

theorem kShape_run {P : Program} {kt : TypeId} {ks : KS} (h : kShape P kt = some ks) : KeyRun P kt ks := by
  unfold kShape at h
  split at h
  · rename_i hu
    cases h
    exact KeyRun.plain hu fun {v l} h => by
      cases v <;> simp [encK] at h
      rename_i k n
      cases k <;> simp [encK] at h
      simp [MapKept.IsKey]
  · rename_i hu
    cases h
    exact KeyRun.plain hu fun {v l} h => by
      cases v <;> simp [encK] at h
      simp [MapKept.IsKey]
  · rename_i fs hu
    cases hp : P.stoodInHeld kt
    · simp only [hp, cond_false] at h
      cases hf : intFs P 0 fs.toList
      · simp [hf] at h
      · simp only [hf, cond_true, Option.some.injEq] at h
        subst h
        exact KeyRun.struct hu hp hf
    · simp [hp] at h
  · cases h
end Go.Abs
