/- Keys of maps: integers, structs of integers, strings: how the machine finds and checks them. No program in sight. -/
import Derived.Test.YtdhnfeoigmeopaaDoorAbsB
import Derived.Laws.StructEq
import Derived.StringKeys
namespace Go.Abs
open Go.RowKit
theorem intsV_spec : ∀ {vs : List Value} {l : List Int}, intsV vs = some l → vs = l.map fun n => Value.int .i64 n
  | [], l, h => by simp [intsV] at h; subst h; rfl
  | v :: r, l, h => by
    cases v with
    | int k n =>
      cases k with
      | i64 =>
        simp only [intsV] at h
        cases hr : intsV r with
        | none => simp [hr] at h
        | some q =>
          simp only [hr, Option.some.injEq] at h
          subst h
          rw [intsV_spec hr]; rfl
      | _ => simp [intsV] at h
    | _ => simp [intsV] at h
theorem bInts_inj {s t : ByteArray} (h : bInts s = bInts t) : s = t := by
  unfold bInts at h
  have h1 : s.data.toList = t.data.toList := by
    generalize s.data.toList = a at h
    generalize t.data.toList = b at h
    induction a generalizing b with
    | nil => cases b with
      | nil => rfl
      | cons x r => simp at h
    | cons x r ih => cases b with
      | nil => simp at h
      | cons y q =>
        simp only [List.map_cons, List.cons.injEq] at h
        rw [ih _ h.2]
        congr 1
        have : x.toNat = y.toNat := by have := h.1; omega
        exact UInt8.toNat_inj.1 this
  cases s; cases t
  have h2 := Array.ext' h1
  simp only at h2
  rw [h2]
theorem encK_inj {ks : KS} {a b : Value} {l : List Int} (ha : encK ks a = some l) (hb : encK ks b = some l) : a = b := by
  cases ks with
  | int =>
    cases a <;> simp [encK] at ha
    cases b <;> simp [encK] at hb
    rename_i k n k' n'
    cases k <;> simp [encK] at ha
    cases k' <;> simp [encK] at hb
    subst ha
    simp at hb; rw [hb]
  | ints n =>
    cases a <;> simp only [encK, reduceCtorEq] at ha
    cases b <;> simp only [encK, reduceCtorEq] at hb
    rename_i us vs
    cases hu : intsV us.toList with
    | none => simp [hu] at ha
    | some lu =>
      cases hv : intsV vs.toList with
      | none => simp [hv] at hb
      | some lv =>
        simp only [hu] at ha
        simp only [hv] at hb
        cases h1 : Nat.beq lu.length n <;> simp [h1] at ha
        cases h2 : Nat.beq lv.length n <;> simp [h2] at hb
        have e1 := intsV_spec hu
        have e2 := intsV_spec hv
        rw [ha] at e1; rw [hb] at e2
        have := Array.ext' (e1.trans e2.symm)
        rw [this]
  | str =>
    cases a <;> simp [encK] at ha
    cases b <;> simp [encK] at hb
    rw [bInts_inj (ha.trans hb.symm)]
def intFs (P : Program) : Nat → List Field → Bool
  | _, [] => true
  | i, f :: r => bif f.name == "_" then false else match P.underlying f.type with
    | some (.int .i64) => bif Nat.beq f.offset i then intFs P (i + 1) r else false
    | _ => false
def fldN (P : Program) (t : TypeId) : Option Nat := match P.underlying t with
  | some (.int .i64) => some 1
  | some (.struct gs) => bif P.stoodInHeld t then none else bif intFs P 0 gs.toList then (match P.info? t with
    | some i => bif Nat.beq i.size gs.toList.length then some gs.toList.length else none
    | none => none) else none
  | _ => none
def flatFs (P : Program) : Nat → List Field → Option Nat
  | i, [] => some i
  | i, f :: r => bif f.name == "_" then none else match fldN P f.type with
    | some n => bif Nat.beq f.offset i then flatFs P (i + n) r else none
    | none => none
def kShape (P : Program) (t : TypeId) : Option KS := match P.underlying t with
  | some (.int .i64) => some .int
  | some .string => some .str
  | some (.struct fs) => bif P.stoodInHeld t then none else match flatFs P 0 fs.toList with
    | some n => some (.ints n)
    | none => none
  | _ => none
structure KeyRun (P : Program) (kt : TypeId) (ks : KS) : Prop where
  check : ∀ (w : World) (em : Bool) {v : Value} {l : List Int}, encK ks v = some l → (Instr.checkKey em 10000 kt v).run P w = .ok () w
  find : ∀ (w : World) {x : Value} {lx : List Int}, encK ks x = some lx → ∀ es : List MapEntry, (∀ e ∈ es, ∃ l, encK ks e.key = some l) →
    ((Instr.findKey kt x es).run P w = .ok none w ∧ ∀ e ∈ es, e.key ≠ x) ∨ ∃ j e, (Instr.findKey kt x es).run P w = .ok (some (j, e.val)) w ∧ es[j]? = some e ∧ e.key = x
  stays : ∀ (w : World) {v : Value} {l : List Int}, encK ks v = some l → (Instr.keyThatStays v v).run P w = .ok v w
theorem KeyRun.plain {P : Program} {kt : TypeId} {ks : KS} {d : TypeDesc} (hd : P.underlying kt = some d) (hk : ∀ {v l}, encK ks v = some l → MapKept.IsKey d v) : KeyRun P kt ks where
  check w em v l h := MapKept.run_checkKey hd (hk h) em 9999
  find w x lx hx es hes := by
    rcases MapKept.findNow_spec (hk hx) es 0 (fun e he => let ⟨_, h⟩ := hes e he; hk h) with ⟨h1, h2⟩ | ⟨j, e, h1, h2, h3⟩
    · exact .inl ⟨MapKept.run_findKey hd h1, h2⟩
    · exact .inr ⟨j, e, by simpa using MapKept.run_findKey (w := w) hd h1, h2, h3⟩
  stays w v l h := MapKept.run_keyThatStays (hk h)
section
variable {P : Program} {w : World}
theorem intPart {t : TypeId} (h : P.underlying t = some (.int .i64)) (vs : Array Value) (i : Nat) {v : Value} (hv : vs[i]? = some v) : (part t vs i).run P w = .ok v w := by
  have h1 : (isAgg t).run P w = .ok false w := by
    simp only [isAgg, Sem.run_bind, run_underlying h, Result.andThen_ok]; rfl
  simp [part, h1, hv]
theorem intFs_eq : ∀ (fs : List Field) (i : Nat), intFs P i fs = true → ∀ (d : Nat) (l l' : List Int), l.length = i + fs.length → l'.length = i + fs.length →
    (Op.eqFields (d + 1) (l.map fun n => Value.int .i64 n).toArray (l'.map fun n => Value.int .i64 n).toArray fs).run P w = .ok (decide (l.drop i = l'.drop i)) w
  | [], i, _, d, l, l', h1, h2 => by
    have e1 : l.drop i = [] := List.drop_eq_nil_of_le (by simp at h1; omega)
    have e2 : l'.drop i = [] := List.drop_eq_nil_of_le (by simp at h2; omega)
    simp [Op.eqFields, e1, e2]
  | f :: fs, i, h, d, l, l', h1, h2 => by
    simp only [List.length_cons] at h1 h2
    simp only [intFs] at h
    cases hn : f.name == "_"
    · simp only [hn, cond_false] at h
      split at h
      · rename_i ht
        cases ho : Nat.beq f.offset i
        · simp [ho] at h
        · simp only [ho, cond_true] at h
          have ho' : f.offset = i := Nat.eq_of_beq_eq_true ho
          have ih := intFs_eq fs (i + 1) h d l l' (by omega) (by omega)
          have hl : i < l.length := by omega
          have hl' : i < l'.length := by omega
          have p1 := intPart (w := w) ht (l.map fun n => Value.int .i64 n).toArray i (v := .int .i64 l[i]) (by simp [hl])
          have p2 := intPart (w := w) ht (l'.map fun n => Value.int .i64 n).toArray i (v := .int .i64 l'[i]) (by simp [hl'])
          simp only [Op.eqFields, show f.name ≠ "_" from by simpa using hn, ne_eq, not_false_eq_true, if_true, Sem.run_bind, ho', p1, p2, Result.andThen_ok, run_equalIn_int w d f.type _ _ _ _ ht]
          rw [List.drop_eq_getElem_cons hl, List.drop_eq_getElem_cons hl']
          cases he : (l[i] == l'[i])
          · have : l[i] ≠ l'[i] := by simpa using he
            rw [decide_eq_false (fun e => this (List.cons.inj e).1)]
            simp
          · have : l[i] = l'[i] := by simpa using he
            simp only [this, List.cons.injEq, true_and]
            simpa using ih
      · cases h
    · simp [hn] at h
theorem intFs_check (em : Bool) (d : Nat) (cs : Array Value) : ∀ (fs : List Field) (i : Nat), intFs P i fs = true → (∀ j, i ≤ j → j < i + fs.length → ∃ n, cs[j]? = some (.int .i64 n)) →
    (forIn fs PUnit.unit fun f (_ : PUnit) => (if f.name ≠ "_" then part f.type cs f.offset >>= fun v => Instr.checkKey em (d + 1) f.type v >>= fun _ => pure (ForInStep.yield PUnit.unit)
      else pure (ForInStep.yield PUnit.unit) : Sem (ForInStep PUnit))).run P w = .ok PUnit.unit w
  | [], _, _, _ => by simp
  | f :: fs, i, h, hc => by
    simp only [intFs] at h
    cases hn : f.name == "_"
    · simp only [hn, cond_false] at h
      split at h
      · rename_i ht
        cases ho : Nat.beq f.offset i
        · simp [ho] at h
        · simp only [ho, cond_true] at h
          have ho' : f.offset = i := Nat.eq_of_beq_eq_true ho
          obtain ⟨n, hn'⟩ := hc i (Nat.le_refl _) (by simp)
          have p1 := intPart (w := w) ht cs i hn'
          have ih := intFs_check em d cs fs (i + 1) h (fun j h1 h2 => hc j (by omega) (by simp; omega))
          have hk := MapKept.run_checkKey (w := w) ht (k := .int .i64 n) (by simp [MapKept.IsKey]) em d
          simp only [List.forIn_cons, Sem.run_bind, show f.name ≠ "_" from by simpa using hn, ne_eq, not_false_eq_true, if_true, ho', p1, hk, Result.andThen_ok, Sem.run_pure]
          exact ih
      · cases h
    · simp [hn] at h
structure IntPart (P : Program) (t : TypeId) (n : Nat) (g : List Int → Value) : Prop where
  part : ∀ (w : World) (l : List Int) (i : Nat), i + n ≤ l.length → (Go.part t (l.map fun n => Value.int .i64 n).toArray i).run P w = .ok (g ((l.drop i).take n)) w
  eq : ∀ (w : World) (d : Nat) (a b : List Int), a.length = n → b.length = n → (Op.equalIn (d + 2) t (g a) (g b)).run P w = .ok (decide (a = b)) w
  check : ∀ (w : World) (em : Bool) (d : Nat) (a : List Int), a.length = n → (Instr.checkKey em (d + 2) t (g a)).run P w = .ok () w
theorem fldN_part {t : TypeId} {n : Nat} (h : fldN P t = some n) : ∃ g, IntPart P t n g := by
  unfold fldN at h
  split at h
  · rename_i hu
    cases h
    refine ⟨fun l => .int .i64 (l.headD 0), fun w l i hi => ?_, fun w d a b ha hb => ?_, fun w em d a ha => ?_⟩
    · have hl : i < l.length := by omega
      have := intPart (w := w) hu (l.map fun n => Value.int .i64 n).toArray i (v := .int .i64 l[i]) (by simp [hl])
      rw [this]
      have e : (l.drop i).take 1 = [l[i]] := by rw [List.drop_eq_getElem_cons hl]; rfl
      rw [e]; rfl
    · match a, b, ha, hb with
      | [x], [y], _, _ =>
        refine (run_equalIn_int w (d + 1) t _ _ _ _ hu).trans ?_
        simp
        by_cases hx : x = y <;> simp [hx]
    · exact MapKept.run_checkKey (w := w) hu (by simp [MapKept.IsKey]) em (d + 1)
  · rename_i gs hu
    cases hp : P.stoodInHeld t
    · simp only [hp, cond_false] at h
      cases hf : intFs P 0 gs.toList
      · simp [hf] at h
      · simp only [hf, cond_true] at h
        split at h
        · rename_i inf hinf
          cases hz : Nat.beq inf.size gs.toList.length
          · rw [hz] at h; cases h
          · rw [hz, cond_true] at h
            cases h
            have hz := Nat.eq_of_beq_eq_true hz
            have hff : P.fieldsOf t = gs := by simp [Program.fieldsOf, hu]
            refine ⟨fun l => .agg (l.map fun n => Value.int .i64 n).toArray, fun w l i hi => ?_, fun w d a b ha hb => ?_, fun w em d a ha => ?_⟩
            · have h1 : (isAgg t).run P w = .ok true w := by
                simp only [isAgg, Sem.run_bind, run_underlying hu, Result.andThen_ok]; rfl
              have h2 : (sizeOf t).run P w = .ok gs.toList.length w := by rw [← hz]; simp [sizeOf, typeInfo, hinf]
              simp only [Go.part, Sem.run_bind, h1, h2, Result.andThen_ok, if_true, Sem.run_pure]
              congr 2
              apply Array.ext'
              rw [Array.toList_extract]
              simp [List.extract, List.map_take, List.map_drop]
            · have := run_equalIn_struct (P := P) (w := w) (d + 1) t (a.map fun n => Value.int .i64 n).toArray (b.map fun n => Value.int .i64 n).toArray (by rw [hff]; exact hu) hp
              rw [hff] at this
              have h3 := intFs_eq (w := w) gs.toList 0 hf d a b (by omega) (by omega)
              simp only [List.drop_zero] at h3
              exact this.trans h3
            · rw [Instr.checkKey]
              simp only [Sem.run_bind, run_underlying hu, Result.andThen_ok]
              rw [← Array.forIn_toList]
              refine (congrArg (fun r : Result PUnit => r.andThen fun _ w' => Sem.run P (pure ()) w') (?_ : _ = Result.ok PUnit.unit w)).trans rfl
              exact intFs_check (w := w) em d (a.map fun n => Value.int .i64 n).toArray gs.toList 0 hf (fun j _ h2 => ⟨a[j]'(by omega), by simp [show j < a.length by omega]⟩)
        · cases h
    · simp [hp] at h
  · cases h
theorem flat_le : ∀ (fs : List Field) (i n : Nat), flatFs P i fs = some n → i ≤ n
  | [], i, n, h => by cases h; exact Nat.le_refl _
  | f :: fs, i, n, h => by
    simp only [flatFs] at h
    cases hn : f.name == "_"
    · simp only [hn, cond_false] at h
      split at h
      · rename_i k hk
        cases ho : Nat.beq f.offset i
        · simp [ho] at h
        · simp only [ho, cond_true] at h
          have := flat_le fs (i + k) n h
          omega
      · cases h
    · simp [hn] at h
theorem flat_eq : ∀ (fs : List Field) (i n : Nat), flatFs P i fs = some n → ∀ (d : Nat) (l l' : List Int), l.length = n → l'.length = n →
    (Op.eqFields (d + 2) (l.map fun n => Value.int .i64 n).toArray (l'.map fun n => Value.int .i64 n).toArray fs).run P w = .ok (decide (l.drop i = l'.drop i)) w
  | [], i, n, h, d, l, l', h1, h2 => by
    cases h
    have e1 : l.drop i = [] := List.drop_eq_nil_of_le (by omega)
    have e2 : l'.drop i = [] := List.drop_eq_nil_of_le (by omega)
    simp [Op.eqFields, e1, e2]
  | f :: fs, i, n, h, d, l, l', h1, h2 => by
    simp only [flatFs] at h
    cases hn : f.name == "_"
    · simp only [hn, cond_false] at h
      split at h
      · rename_i k hk
        cases ho : Nat.beq f.offset i
        · simp [ho] at h
        · simp only [ho, cond_true] at h
          have ho' : f.offset = i := Nat.eq_of_beq_eq_true ho
          have hle := flat_le fs (i + k) n h
          have ih := flat_eq fs (i + k) n h d l l' h1 h2
          obtain ⟨g, hg⟩ := fldN_part hk
          have p1 := hg.part w l i (by omega)
          have p2 := hg.part w l' i (by omega)
          have q := hg.eq w d ((l.drop i).take k) ((l'.drop i).take k) (by rw [List.length_take, List.length_drop]; omega) (by rw [List.length_take, List.length_drop]; omega)
          simp only [Op.eqFields, show f.name ≠ "_" from by simpa using hn, ne_eq, not_false_eq_true, if_true, Sem.run_bind, ho', p1, p2, Result.andThen_ok, q]
          have s1 : l.drop i = (l.drop i).take k ++ l.drop (i + k) := by rw [← List.drop_drop, List.take_append_drop]
          have s2 : l'.drop i = (l'.drop i).take k ++ l'.drop (i + k) := by rw [← List.drop_drop, List.take_append_drop]
          have hlen : ((l.drop i).take k).length = ((l'.drop i).take k).length := by simp only [List.length_take, List.length_drop]; omega
          by_cases he : (l.drop i).take k = (l'.drop i).take k
          · have : (l.drop i = l'.drop i) ↔ (l.drop (i + k) = l'.drop (i + k)) := by
              constructor
              · intro e
                rw [s1, s2] at e
                exact (List.append_inj e hlen).2
              · intro e
                rw [s1, s2, he, e]
            rw [decide_eq_true he]
            simp only [Bool.not_true, Bool.false_eq_true, if_false]
            refine (?_ : _ = _).trans (ih.trans (by rw [decide_eq_decide.2 this]))
            simp
          · have : ¬ l.drop i = l'.drop i := fun e => he (by rw [e])
            rw [decide_eq_false he, decide_eq_false this]
            simp
      · cases h
    · simp [hn] at h
theorem flat_check (em : Bool) (d : Nat) (l : List Int) : ∀ (fs : List Field) (i n : Nat), flatFs P i fs = some n → l.length = n →
    (forIn fs PUnit.unit fun f (_ : PUnit) => (if f.name ≠ "_" then part f.type (l.map fun n => Value.int .i64 n).toArray f.offset >>= fun v => Instr.checkKey em (d + 2) f.type v >>= fun _ => pure (ForInStep.yield PUnit.unit)
      else pure (ForInStep.yield PUnit.unit) : Sem (ForInStep PUnit))).run P w = .ok PUnit.unit w
  | [], _, _, _, _ => by simp
  | f :: fs, i, n, h, hl => by
    simp only [flatFs] at h
    cases hn : f.name == "_"
    · simp only [hn, cond_false] at h
      split at h
      · rename_i k hk
        cases ho : Nat.beq f.offset i
        · simp [ho] at h
        · simp only [ho, cond_true] at h
          have ho' : f.offset = i := Nat.eq_of_beq_eq_true ho
          have hle := flat_le fs (i + k) n h
          obtain ⟨g, hg⟩ := fldN_part hk
          have p1 := hg.part w l i (by omega)
          have hc := hg.check w em d ((l.drop i).take k) (by rw [List.length_take, List.length_drop]; omega)
          have ih := flat_check em d l fs (i + k) n h hl
          simp only [List.forIn_cons, Sem.run_bind, show f.name ≠ "_" from by simpa using hn, ne_eq, not_false_eq_true, if_true, ho', p1, hc, Result.andThen_ok, Sem.run_pure]
          exact ih
      · cases h
    · simp [hn] at h
theorem KeyRun.struct {kt : TypeId} {fs : Array Field} (hu : P.underlying kt = some (.struct fs)) (hp : P.stoodInHeld kt = false) {n : Nat} (hf : flatFs P 0 fs.toList = some n) : KeyRun P kt (.ints n) := by
  have val : ∀ {v l}, encK (.ints n) v = some l → v = .agg (l.map fun n => Value.int .i64 n).toArray ∧ l.length = n := fun {v l} h => by
    cases v <;> simp only [encK, reduceCtorEq] at h
    rename_i vs
    cases hv : intsV vs.toList with
    | none => simp [hv] at h
    | some q =>
      simp only [hv] at h
      cases hb : Nat.beq q.length n <;> simp only [hb, cond_false, cond_true, reduceCtorEq, Option.some.injEq] at h
      subst h
      have := intsV_spec hv
      refine ⟨?_, Nat.eq_of_beq_eq_true hb⟩
      rw [← this]
  have hff : P.fieldsOf kt = fs := by simp [Program.fieldsOf, hu]
  have eqr : ∀ (w : World) (l l' : List Int), l.length = n → l'.length = n → (Op.equal kt (.agg (l.map fun n => Value.int .i64 n).toArray) (.agg (l'.map fun n => Value.int .i64 n).toArray)).run P w = .ok (decide (l = l')) w := fun w l l' h1 h2 => by
    have := run_equalIn_struct (P := P) (w := w) 9999 kt (l.map fun n => Value.int .i64 n).toArray (l'.map fun n => Value.int .i64 n).toArray (by rw [hff]; exact hu) hp
    rw [hff] at this
    have h3 := flat_eq (w := w) fs.toList 0 n hf 9997 l l' (by omega) (by omega)
    simp only [List.drop_zero] at h3
    exact this.trans h3
  constructor
  · intro w em v l h
    obtain ⟨rfl, hl⟩ := val h
    rw [show (10000 : Nat) = 9999 + 1 from rfl, Instr.checkKey]
    simp only [Sem.run_bind, run_underlying hu, Result.andThen_ok]
    rw [← Array.forIn_toList]
    refine (congrArg (fun r : Result PUnit => r.andThen fun _ w' => Sem.run P (pure ()) w') (?_ : _ = Result.ok PUnit.unit w)).trans rfl
    exact flat_check (w := w) em 9997 l fs.toList 0 n hf hl
  · intro w x lx hx es hes
    obtain ⟨rfl, hlx⟩ := val hx
    have ask : ∀ (es : List MapEntry) (i : Nat), (∀ e ∈ es, ∃ l, encK (.ints n) e.key = some l) →
        ((Instr.findAsking kt (.agg (lx.map fun n => Value.int .i64 n).toArray) es i).run P w = .ok none w ∧ ∀ e ∈ es, e.key ≠ .agg (lx.map fun n => Value.int .i64 n).toArray) ∨
        ∃ j e, (Instr.findAsking kt (.agg (lx.map fun n => Value.int .i64 n).toArray) es i).run P w = .ok (some (i + j, e.val)) w ∧ es[j]? = some e ∧ e.key = .agg (lx.map fun n => Value.int .i64 n).toArray := by
      intro es
      induction es with
      | nil => intro i _; exact .inl ⟨by simp [Instr.findAsking], by simp⟩
      | cons e r ih =>
        intro i hes
        obtain ⟨l, hl⟩ := hes e List.mem_cons_self
        obtain ⟨hk, hll⟩ := val hl
        have he := eqr w lx l hlx hll
        rw [← hk] at he
        by_cases h : lx = l
        · right
          refine ⟨0, e, ?_, rfl, by rw [hk, h]⟩
          simp only [Instr.findAsking, Sem.run_bind, he, Result.andThen_ok, decide_eq_true h, if_true]
          rfl
        · have hne : e.key ≠ .agg (lx.map fun n => Value.int .i64 n).toArray := fun e1 => by
            rw [e1] at hl
            rw [hx] at hl
            exact h (Option.some.inj hl)
          rcases ih (i + 1) (fun e' h' => hes e' (List.mem_cons_of_mem _ h')) with ⟨h1, h2⟩ | ⟨j, e', h1, h2, h3⟩
          · left
            refine ⟨?_, fun e' h' => ?_⟩
            · simp only [Instr.findAsking, Sem.run_bind, he, Result.andThen_ok, decide_eq_false h, Bool.false_eq_true, if_false]
              exact h1
            · rcases List.mem_cons.1 h' with rfl | h'
              · exact hne
              · exact h2 e' h'
          · right
            refine ⟨j + 1, e', ?_, by simpa using h2, h3⟩
            simp only [Instr.findAsking, Sem.run_bind, he, Result.andThen_ok, decide_eq_false h, Bool.false_eq_true, if_false]
            rw [h1]
            congr 3
            omega
    have fk : (Instr.findKey kt (.agg (lx.map fun n => Value.int .i64 n).toArray) es).run P w = (Instr.findAsking kt (.agg (lx.map fun n => Value.int .i64 n).toArray) es).run P w := by
      cases es with
      | nil => simp [Instr.findKey, run_underlying hu, Instr.findNow, Instr.findAsking]
      | cons e r => simp [Instr.findKey, run_underlying hu, Instr.findNow, Instr.sameNow]
    rw [fk]
    rcases ask es 0 hes with h | ⟨j, e, h1, h2, h3⟩
    · exact .inl h
    · exact .inr ⟨j, e, by simpa using h1, h2, h3⟩
  · intro w v l h
    obtain ⟨rfl, hl⟩ := val h
    have : Instr.sameBits 10000 (.agg (l.map fun n => Value.int .i64 n).toArray) (.agg (l.map fun n => Value.int .i64 n).toArray) = true := by
      simp only [Instr.sameBits, beq_self_eq_true, Bool.true_and, List.all_eq_true]
      intro p hp
      have : p.1 = p.2 ∧ ∃ n, p.1 = .int .i64 n := by
        obtain ⟨i, hi, rfl⟩ := List.mem_iff_getElem.1 hp
        simp
      obtain ⟨e1, n, e2⟩ := this
      obtain ⟨a, b⟩ := p
      simp only at e1 e2
      subst e1 e2
      simp [Instr.sameBits]
    simp [Instr.keyThatStays, this]
end
theorem kShape_run {P : Program} {kt : TypeId} {ks : KS} (h : kShape P kt = some ks) : KeyRun P kt ks := by
  unfold kShape at h
  split at h
  · rename_i hu
    cases h
    exact KeyRun.plain hu fun {v l} h => by
      cases v <;> simp [encK] at h
      rename_i k n
      cases k <;> simp [encK] at h
      simp [MapKept.IsKey]
  · rename_i hu
    cases h
    exact KeyRun.plain hu fun {v l} h => by
      cases v <;> simp [encK] at h
      simp [MapKept.IsKey]
  · rename_i fs hu
    cases hp : P.stoodInHeld kt
    · simp only [hp, cond_false] at h
      split at h
      · rename_i n hf
        cases h
        exact KeyRun.struct hu hp hf
      · cases h
    · simp [hp] at h
  · cases h
end Go.Abs
