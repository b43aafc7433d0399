/- A region that draws its order, where one lookup and one entry's making of one map are not ordered: both orders read the same. -/
import Derived.Test.YtdhnfeoigmeopaaDoorAbsQ
namespace Go.Abs
open Go.RowKit
def softG (b : Bool) (g : Foot) : Foot := { tr := g.tr, tw := g.tw, hr := bif b then [] else g.hr, hw := g.hw }
def pairsOKs (x : Nat) (f : Foot) (b : Nat) : List Foot → Nat → Bool
  | [], _ => true
  | g :: r, i => bif meets (softG (Nat.beq i x) g) f then (bif b.testBit i then pairsOKs x f b r (i + 1) else false) else pairsOKs x f b r (i + 1)
def orderOKs (k0 j0 : Nat) (tbl : List Nat) (fs : List Foot) : List Oper → List Foot → Nat → Bool
  | o :: r, f :: q, j => pairsOKs (bif Nat.beq j j0 then k0 else fs.length) f (tbl.getD j 0) (fs.take j) 0 && (closedOK tbl o (tbl.getD j 0) fs.length && (downOK j o.after.toList && orderOKs k0 j0 tbl fs r q (j + 1)))
  | [], [], _ => true
  | _, _, _ => false
theorem pairsOKs_spec {x : Nat} {f : Foot} {b : Nat} : ∀ {l : List Foot} {i0 : Nat}, pairsOKs x f b l i0 = true → ∀ (i : Nat) (g : Foot), l[i]? = some g → meets (softG (Nat.beq (i0 + i) x) g) f = true → b.testBit (i0 + i) = true
  | [], _, _, i, g, h, _ => by simp at h
  | g' :: r, i0, hok, 0, g, h, hm => by
    simp only [List.getElem?_cons_zero, Option.some.injEq] at h
    subst h
    rw [Nat.add_zero] at hm
    simp only [pairsOKs, hm, cond_true] at hok
    cases hb : b.testBit i0 with
    | true => simp
    | false => simp [hb] at hok
  | g' :: r, i0, hok, i + 1, g, h, hm => by
    simp only [List.getElem?_cons_succ] at h
    have hr : pairsOKs x f b r (i0 + 1) = true := by
      simp only [pairsOKs] at hok
      cases hm' : meets (softG (Nat.beq i0 x) g') f with
      | false => simpa [hm'] using hok
      | true =>
        simp only [hm', cond_true] at hok
        cases hb : b.testBit i0 with
        | true => simpa [hb] using hok
        | false => simp [hb] at hok
    have := pairsOKs_spec hr i g h (by rw [show i0 + 1 + i = i0 + (i + 1) by omega]; exact hm)
    rwa [show i0 + 1 + i = i0 + (i + 1) by omega] at this
theorem orderOKs_spec {k0 j0 : Nat} {tbl : List Nat} {fs : List Foot} : ∀ {l : List Oper} {q : List Foot} {j0' : Nat}, orderOKs k0 j0 tbl fs l q j0' = true → ∀ (j : Nat) (o : Oper) (f : Foot), l[j]? = some o → q[j]? = some f →
    pairsOKs (bif Nat.beq (j0' + j) j0 then k0 else fs.length) f (tbl.getD (j0' + j) 0) (fs.take (j0' + j)) 0 = true ∧ closedOK tbl o (tbl.getD (j0' + j) 0) fs.length = true ∧ downOK (j0' + j) o.after.toList = true
  | [], q, _, _, j, o, f, h, _ => by simp at h
  | o' :: r, [], _, _, j, o, f, _, h => by simp at h
  | o' :: r, f' :: q, a, hok, 0, o, f, h, h' => by
    simp only [List.getElem?_cons_zero, Option.some.injEq] at h h'
    subst h h'
    simp only [orderOKs, Bool.and_eq_true] at hok
    exact ⟨hok.1, hok.2.1, hok.2.2.1⟩
  | o' :: r, f' :: q, a, hok, j + 1, o, f, h, h' => by
    simp only [List.getElem?_cons_succ] at h h'
    simp only [orderOKs, Bool.and_eq_true] at hok
    have := orderOKs_spec hok.2.2.2 j o f h h'
    rwa [show a + 1 + j = a + (j + 1) by omega] at this
theorem lastW_last {α : Type} (L : Nat → Bool) (v : α) : ∀ (ws : List (Option α)) (k : Nat) (init : α) (J : Nat), ws[J]? = some (some v) → L (k + J) = true → (∀ j u, ws[j]? = some (some u) → J < j → L (k + j) = false) → lastW ws L k init = v
  | [], _, _, J, h, _, _ => by simp at h
  | x :: r, k, init, 0, h, hL, ho => by
    simp only [List.getElem?_cons_zero, Option.some.injEq] at h
    subst h
    rw [Nat.add_zero] at hL
    simp only [lastW, hL, pickW]
    exact lastW_none _ _ _ _ fun j u hj => by have := ho (j + 1) u (by simpa using hj) (by omega); rwa [show k + 1 + j = k + (j + 1) by omega]
  | x :: r, k, init, J + 1, h, hL, ho => by
    simp only [lastW]
    exact lastW_last L v r (k + 1) _ J (by simpa using h) (by rwa [show k + 1 + J = k + (J + 1) by omega]) fun j u hj hlt => by
      have := ho (j + 1) u (by simpa using hj) (by omega)
      rwa [show k + 1 + j = k + (j + 1) by omega]
theorem objReads_h {σ : St} {h : List (Nat × Option AObj)} : ∀ {l : List Operand}, objReads { σ with h } l = objReads σ l
  | [] => rfl
  | y :: r => by
    simp only [objReads]
    rw [objReads_h (l := r)]
    rfl
section
variable {P : Program} {ro : Option Nat} {m : Nat} {ops : Array Oper} {orc : List (Nat × Orc)} {base : Nat} {w0 : World} {S0 : Env} {Q : Exit → Act → World → Prop} {k0 j0 : Nat}
structure SetupS (k0 j0 : Nat) (P : Program) (ops : Array Oper) (orc : List (Nat × Orc)) (base : Nat) (w0 : World) (S0 : Env) (Q : Exit → Act → World → Prop) (n0 : Nat) (σ : St) : Prop where
  vc : ∀ (j : Nat) (d : Option Tmp) (e : Eff), (trace P ops orc n0 ops.toList 0 σ)[j]? = some (d, e) → dstOK σ.nt σ.lo d = true ∧ AllP e.vc
  ord : orderOKs k0 j0 (aheads ops.toList []) (feet P ops orc n0 ops.toList 0 σ) ops.toList (feet P ops orc n0 ops.toList 0 σ) 0 = true
  lt : k0 < j0
  soft : ∀ (o : Oper) (d dj : Option Tmp) (e ej : Eff), ops.toList[k0]? = some o → (trace P ops orc n0 ops.toList 0 σ)[k0]? = some (d, e) → (trace P ops orc n0 ops.toList 0 σ)[j0]? = some (dj, ej) →
    opEff P ops (orcAt orc k0) (n0 + k0) { canon ((trace P ops orc n0 ops.toList 0 σ).take k0) (fun _ => true) 0 σ with h := ej.hw ++ (canon ((trace P ops orc n0 ops.toList 0 σ).take k0) (fun _ => true) 0 σ).h } o = e
  fin : ∀ kn blk a w, R base w0 S0 (canon (trace P ops orc n0 ops.toList 0 σ) (fun _ => true) 0 σ) kn blk a w → (∀ i, kn i → i < n0 + ops.size) → Q .normal a w
variable {n0 : Nat} {σ : St}
theorem SetupS.down (s : SetupS k0 j0 P ops orc base w0 S0 Q n0 σ) {j : Nat} {o : Oper} (ho : ops[j]? = some o) : (∀ e ∈ o.after.toList, Region.binds .any e = true → e.on < j) ∧
    (∀ i, i < ops.size → pre ops j i = true → ∃ e ∈ o.after.toList, Region.binds .any e = true ∧ (e.on = i ∨ pre ops e.on i = true)) := by
  have ho' : ops.toList[j]? = some o := by simpa using ho
  have hj : j < ops.size := (Array.getElem?_eq_some_iff.1 ho).1
  have hf : (feet P ops orc n0 ops.toList 0 σ)[j]? = some ((feet P ops orc n0 ops.toList 0 σ)[j]'(by rw [feet_len]; simpa using hj)) := List.getElem?_eq_getElem _
  obtain ⟨_, h2, h3⟩ := orderOKs_spec s.ord j o _ ho' hf
  rw [Nat.zero_add] at h2 h3
  refine ⟨downOK_spec h3, fun i hi hp => ?_⟩
  rw [feet_len] at h2
  obtain ⟨e, he, hb, h⟩ := edgesOK_spec (closedOK_spec h2 i (by simpa using hi) hp)
  exact ⟨e, he, hb, h⟩
theorem SetupS.pair (s : SetupS k0 j0 P ops orc base w0 S0 Q n0 σ) {i j : Nat} {f g : Foot} (hij : i < j) (hf : (feet P ops orc n0 ops.toList 0 σ)[i]? = some f) (hg : (feet P ops orc n0 ops.toList 0 σ)[j]? = some g) (hm : meets (softG (Nat.beq i (bif Nat.beq j j0 then k0 else (feet P ops orc n0 ops.toList 0 σ).length)) f) g = true) :
    pre ops j i = true := by
  have hj : j < ops.toList.length := by rw [← feet_len (P := P) (ops := ops) (orc := orc) (n0 := n0) ops.toList 0 σ]; exact (List.getElem?_eq_some_iff.1 hg).1
  obtain ⟨h1, _, _⟩ := orderOKs_spec s.ord j _ g (List.getElem?_eq_getElem hj) hg
  rw [Nat.zero_add] at h1
  have := pairsOKs_spec h1 i f (by rw [List.getElem?_take, if_pos hij]; exact hf) (by rw [Nat.zero_add]; exact hm)
  rwa [Nat.zero_add] at this
theorem SetupS.step (s : SetupS k0 j0 P ops orc base w0 S0 Q n0 σ) {L : Nat → Bool} (hdown : ∀ j, j < ops.size → L j = true → ∀ i, i < ops.size → pre ops j i = true → L i = true) {K : Nat} {o : Oper} (ho : ops[K]? = some o) (hK : L K = false)
    (hpre : ∀ i, i < ops.size → pre ops K i = true → L i = true) {d : Option Tmp} {e : Eff} (he : (trace P ops orc n0 ops.toList 0 σ)[K]? = some (d, e)) :
    d = o.dst ∧ opEff P ops (orcAt orc K) (n0 + K) (canon (trace P ops orc n0 ops.toList 0 σ) L 0 σ) o = e ∧
    (∀ t, ((canon (trace P ops orc n0 ops.toList 0 σ) L 0 σ).eff d e).get t = (canon (trace P ops orc n0 ops.toList 0 σ) (fun i => L i || decide (i = K)) 0 σ).get t) ∧
    (∀ i, ((canon (trace P ops orc n0 ops.toList 0 σ) L 0 σ).eff d e).obj i = (canon (trace P ops orc n0 ops.toList 0 σ) (fun i => L i || decide (i = K)) 0 σ).obj i) := by
  have ho' : ops.toList[K]? = some o := by simpa using ho
  have hKs : K < ops.size := (Array.getElem?_eq_some_iff.1 ho).1
  have hsp := trace_spec (P := P) (ops := ops) (orc := orc) (n0 := n0) ops.toList 0 σ K o ho'
  rw [hsp] at he
  simp only [Nat.zero_add, Option.some.injEq, Prod.mk.injEq] at he
  obtain ⟨rfl, he⟩ := he
  have hfK := feet_spec (P := P) (ops := ops) (orc := orc) (n0 := n0) ops.toList 0 σ K o ho'
  simp only [Nat.zero_add] at hfK hsp
  rw [he] at hfK hsp
  -- a place that K reads or writes: whoever else writes it is on the right side
  have side : ∀ (j : Nat) (dj : Option Tmp) (ej : Eff), (trace P ops orc n0 ops.toList 0 σ)[j]? = some (dj, ej) → j ≠ K →
      ((∃ t, dj = some t ∧ (o.dst = some t ∨ t ∈ tmpReads ops o)) ∨ (∃ i, i ∈ ej.hw.map (·.1) ∧ (i ∈ e.hw.map (·.1) ∨ (i ∈ objReads (canon ((trace P ops orc n0 ops.toList 0 σ).take K) (fun _ => true) 0 σ) (lookOps o.op) ∧ ¬ (K = k0 ∧ j = j0))))) →
      (j < K → L j = true) ∧ (K < j → L j = false) := by
    intro j dj ej hj hne hm
    have hjl : j < ops.toList.length := by
      have := (List.getElem?_eq_some_iff.1 hj).1
      rwa [trace_len] at this
    have hoj : ops.toList[j]? = some ops.toList[j] := List.getElem?_eq_getElem hjl
    have hspj := trace_spec (P := P) (ops := ops) (orc := orc) (n0 := n0) ops.toList 0 σ j _ hoj
    rw [hspj] at hj
    simp only [Nat.zero_add, Option.some.injEq, Prod.mk.injEq] at hj
    obtain ⟨rfl, hej⟩ := hj
    have hfj := feet_spec (P := P) (ops := ops) (orc := orc) (n0 := n0) ops.toList 0 σ j _ hoj
    simp only [Nat.zero_add] at hfj
    rw [hej] at hfj
    refine ⟨fun hlt => ?_, fun hlt => ?_⟩
    · refine hpre j (by simpa using hjl) (s.pair hlt hfj hfK ?_)
      rcases hm with ⟨t, h1, h2⟩ | ⟨i, h1, h2⟩
      · exact meets_t (t := t) h1 h2
      · exact meets_h (i := i) h1 (h2.imp id fun h => h.1)
    · have hp : pre ops j K = true := by
        refine s.pair hlt hfK hfj ?_
        rcases hm with ⟨t, h1, h2 | h2⟩ | ⟨i, h1, h2 | h2⟩
        · exact meets_t (t := t) h2 (.inl h1)
        · exact meets_t' (t := t) h1 h2
        · exact meets_h (i := i) h2 (.inl h1)
        · refine meets_h' (i := i) h1 ?_
          have hb : Nat.beq K (bif Nat.beq j j0 then k0 else (feet P ops orc n0 ops.toList 0 σ).length) = false := by
            cases hj : Nat.beq j j0 with
            | true =>
              simp only [cond_true]
              cases hK0 : Nat.beq K k0 with
              | false => rfl
              | true => exact absurd ⟨Nat.eq_of_beq_eq_true hK0, Nat.eq_of_beq_eq_true hj⟩ h2.2
            | false =>
              simp only [cond_false]
              cases hK0 : Nat.beq K (feet P ops orc n0 ops.toList 0 σ).length with
              | false => rfl
              | true =>
                have := Nat.eq_of_beq_eq_true hK0
                rw [feet_len] at this
                simp at this
                omega
          rw [hb]
          exact h2.1
      cases hLj : L j with
      | false => rfl
      | true =>
        have := hdown j (by simpa using hjl) hLj K hKs hp
        rw [hK] at this; cases this
  have readT : ∀ t, (o.dst = some t ∨ t ∈ tmpReads ops o) → (canon (trace P ops orc n0 ops.toList 0 σ) L 0 σ).get t = (canon ((trace P ops orc n0 ops.toList 0 σ).take K) (fun _ => true) 0 σ).get t := by
    intro t ht
    rw [get_canon, get_canon, List.map_take]
    refine lastW_read K L hK _ 0 _ (Nat.zero_le _) fun j v hj => ?_
    rw [Nat.zero_add]
    rw [List.getElem?_map] at hj
    cases hx : (trace P ops orc n0 ops.toList 0 σ)[j]? with
    | none => simp [hx] at hj
    | some x =>
      obtain ⟨dj, ej⟩ := x
      simp only [hx, Option.map_some, Option.some.injEq, tW] at hj
      by_cases hjK : j = K
      · subst hjK; exact ⟨fun h => by omega, fun h => by omega⟩
      · split at hj
        · rename_i hd
          exact side j dj ej hx hjK (.inl ⟨t, hd, ht⟩)
        · cases hj
  have readH : ∀ i, (∀ ej dj, K = k0 → (trace P ops orc n0 ops.toList 0 σ)[j0]? = some (dj, ej) → i ∈ ej.hw.map (·.1) → L j0 = false) → (i ∈ e.hw.map (·.1) ∨ i ∈ objReads (canon ((trace P ops orc n0 ops.toList 0 σ).take K) (fun _ => true) 0 σ) (lookOps o.op)) → (canon (trace P ops orc n0 ops.toList 0 σ) L 0 σ).obj i = (canon ((trace P ops orc n0 ops.toList 0 σ).take K) (fun _ => true) 0 σ).obj i := by
    intro i hcond hi
    rw [obj_canon, obj_canon, List.map_take]
    refine lastW_read K L hK _ 0 _ (Nat.zero_le _) fun j v hj => ?_
    rw [Nat.zero_add]
    rw [List.getElem?_map] at hj
    cases hx : (trace P ops orc n0 ops.toList 0 σ)[j]? with
    | none => simp [hx] at hj
    | some x =>
      obtain ⟨dj, ej⟩ := x
      simp only [hx, Option.map_some, Option.some.injEq, hW] at hj
      by_cases hjK : j = K
      · subst hjK; exact ⟨fun h => by omega, fun h => by omega⟩
      · by_cases hs : K = k0 ∧ j = j0
        · obtain ⟨hs1, hs2⟩ := hs
          have hlt := s.lt
          subst hs1 hs2
          exact ⟨fun h => by omega, fun _ => hcond ej dj rfl hx (look_mem hj)⟩
        · exact side j dj ej hx hjK (.inr ⟨i, look_mem hj, hi.imp id fun h => ⟨h, hs⟩⟩)
  refine ⟨rfl, ?_, fun t => ?_, fun i => ?_⟩
  · by_cases hs : K = k0 ∧ L j0 = true ∧ j0 < ops.size
    · obtain ⟨rfl, hL, hj0⟩ := hs
      have hlen : j0 < (trace P ops orc n0 ops.toList 0 σ).length := by rw [trace_len]; simpa using hj0
      have htr : (trace P ops orc n0 ops.toList 0 σ)[j0]? = some ((trace P ops orc n0 ops.toList 0 σ)[j0].1, (trace P ops orc n0 ops.toList 0 σ)[j0].2) := List.getElem?_eq_getElem hlen
      have hsoft := s.soft o _ _ _ _ ho' hsp htr
      rw [← hsoft]
      refine Eq.symm (opEff_local (σ' := canon (trace P ops orc n0 ops.toList 0 σ) L 0 σ) (fun t ht => (readT t (.inr ht)).symm) (fun i hi => ?_) ((rl_canon ((trace P ops orc n0 ops.toList 0 σ).take K) (fun _ => true) 0 σ).1.trans (rl_canon _ _ _ _).1.symm) (fun i hi => ?_))
      rotate_left
      · rw [hsoft] at hi
        have hno : i ∉ (trace P ops orc n0 ops.toList 0 σ)[j0].2.hw.map (·.1) := fun h9 => by
          have hlt := s.lt
          have h8 := (side j0 _ _ htr (by omega) (.inr ⟨i, h9, .inl hi⟩)).2 hlt
          rw [hL] at h8; cases h8
        show (match look ((trace P ops orc n0 ops.toList 0 σ)[j0].2.hw ++ _) i with | some x => x | none => none) = _
        rw [look_append]
        cases hl : look (trace P ops orc n0 ops.toList 0 σ)[j0].2.hw i with
        | some v => exact absurd (look_mem hl) hno
        | none =>
          refine (readH i (fun ej dj _ h1 h2 => ?_) (.inl hi)).symm
          rw [htr] at h1
          simp only [Option.some.injEq, Prod.mk.injEq] at h1
          obtain ⟨_, rfl⟩ := h1
          exact absurd h2 hno
      rw [objReads_h] at hi
      show (match look ((trace P ops orc n0 ops.toList 0 σ)[j0].2.hw ++ _) i with | some x => x | none => none) = _
      rw [look_append]
      cases hl : look (trace P ops orc n0 ops.toList 0 σ)[j0].2.hw i with
      | none =>
        refine (readH i (fun ej dj _ h1 h2 => ?_) (.inr hi)).symm
        rw [htr] at h1
        simp only [Option.some.injEq, Prod.mk.injEq] at h1
        obtain ⟨_, rfl⟩ := h1
        exfalso
        have : ∀ {l : List (Nat × Option AObj)}, i ∈ l.map (·.1) → look l i ≠ none := by
          intro l
          induction l with
          | nil => intro h; cases h
          | cons x r ih =>
            intro h
            rw [look_cons]
            by_cases e : x.1 = i
            · rw [if_pos e]; simp
            · rw [if_neg e]
              exact ih ((List.mem_cons.1 h).resolve_left fun h => e h.symm)
        exact this h2 hl
      | some v =>
        refine Eq.symm ?_
        rw [obj_canon]
        refine lastW_last L v _ 0 _ j0 (by rw [List.getElem?_map, htr]; simp only [Option.map_some, hW, hl]) (by rw [Nat.zero_add]; exact hL) fun j u hj hlt => ?_
        rw [Nat.zero_add]
        rw [List.getElem?_map] at hj
        cases hx : (trace P ops orc n0 ops.toList 0 σ)[j]? with
        | none => simp [hx] at hj
        | some x =>
          obtain ⟨dj, ej⟩ := x
          simp only [hx, Option.map_some, Option.some.injEq, hW] at hj
          have hlt2 := s.lt
          exact (side j dj ej hx (by omega) (.inr ⟨i, look_mem hj, .inr ⟨hi, fun h => by omega⟩⟩)).2 (by omega)
    · rw [← he]
      exact (opEff_local (fun t ht => (readT t (.inr ht)).symm) (fun i hi => (readH i (fun ej dj h1 h2 _ => by
        cases hL : L j0 with
        | false => rfl
        | true =>
          have := (List.getElem?_eq_some_iff.1 h2).1
          rw [trace_len] at this
          exact absurd ⟨h1, hL, by simpa using this⟩ hs) (.inr hi)).symm) ((rl_canon _ _ _ _).1.trans (rl_canon _ _ _ _).1.symm) (fun i hi => (readH i (fun ej dj h1 h2 _ => by
        cases hL : L j0 with
        | false => rfl
        | true =>
          have := (List.getElem?_eq_some_iff.1 h2).1
          rw [trace_len] at this
          exact absurd ⟨h1, hL, by simpa using this⟩ hs) (.inl (by rw [he] at hi; exact hi))).symm)).symm
  · rw [St.get_eff, get_canon t _ (fun i => L i || decide (i = K))]
    have hput := lastW_put K L ((trace P ops orc n0 ops.toList 0 σ).map (tW t)) 0 (σ.get t) (Nat.zero_le _) (fun v hv j u hj hlt => by
      rw [Nat.zero_add] at hlt ⊢
      rw [Nat.sub_zero, List.getElem?_map, hsp] at hv
      simp only [Option.map_some, Option.some.injEq, tW] at hv
      split at hv
      · rename_i hd
        rw [List.getElem?_map] at hj
        cases hx : (trace P ops orc n0 ops.toList 0 σ)[j]? with
        | none => simp [hx] at hj
        | some x =>
          obtain ⟨dj, ej⟩ := x
          simp only [hx, Option.map_some, Option.some.injEq, tW] at hj
          split at hj
          · rename_i hdj
            exact (side j dj ej hx (by omega) (.inl ⟨t, hdj, .inl hd⟩)).2 hlt
          · cases hj
      · cases hv)
    rw [hput, Nat.sub_zero, List.getElem?_map, hsp]
    simp only [Option.map_some, tW]
    by_cases hd : o.dst = some t
    · simp [hd]
    · simp only [hd, if_false, get_canon]
  · rw [St.obj_eff, obj_canon i _ (fun i => L i || decide (i = K))]
    have hput := lastW_put K L ((trace P ops orc n0 ops.toList 0 σ).map (hW i)) 0 (σ.obj i) (Nat.zero_le _) (fun v hv j u hj hlt => by
      rw [Nat.zero_add] at hlt ⊢
      rw [Nat.sub_zero, List.getElem?_map, hsp] at hv
      simp only [Option.map_some, Option.some.injEq, hW] at hv
      rw [List.getElem?_map] at hj
      cases hx : (trace P ops orc n0 ops.toList 0 σ)[j]? with
      | none => simp [hx] at hj
      | some x =>
        obtain ⟨dj, ej⟩ := x
        simp only [hx, Option.map_some, Option.some.injEq, hW] at hj
        exact (side j dj ej hx (by omega) (.inr ⟨i, look_mem hj, .inl (look_mem hv)⟩)).2 hlt)
    rw [hput, Nat.sub_zero, List.getElem?_map, hsp]
    simp only [Option.map_some, hW]
    cases hl : look e.hw i with
    | some v => rfl
    | none => simp only [obj_canon]
theorem SetupS.any (s : SetupS k0 j0 P ops orc base w0 S0 Q n0 σ) : ∀ (n : Nat) (listed : Array Bool) (kn : Nat → Prop) (blk : Nat → Option Loc) (a : Act) (w : World), listed.size = ops.size →
    (List.range ops.size).countP (fun i => !listed.getD i true) ≤ n →
    (∀ j, j < ops.size → listed.getD j true = true → ∀ i, i < ops.size → pre ops j i = true → listed.getD i true = true) →
    R base w0 S0 (canon (trace P ops orc n0 ops.toList 0 σ) (fun i => listed.getD i true) 0 σ) kn blk a w → (∀ i, kn i → i < n0 ∨ ∃ j, j < ops.size ∧ listed.getD j true = true ∧ i = n0 + j) →
    wpAnyIn (FW ro) m P .any ops Q n listed a w := by
  -- when none is ready, all are listed
  have allDone : ∀ (listed : Array Bool), listed.size = ops.size → Region.ready .any ops listed = [] → ∀ i, i < ops.size → listed.getD i true = true := by
    intro listed hsz hr i
    induction i using Nat.strongRecOn with
    | _ i ih =>
      intro hi
      cases hli : listed.getD i true with
      | true => rfl
      | false =>
        exfalso
        have hmem : i ∈ Region.ready .any ops listed := by
          unfold Region.ready
          refine List.mem_filter.2 ⟨List.mem_range.2 hi, ?_⟩
          have ho : ops[i]? = some ops[i] := Array.getElem?_eq_getElem hi
          simp only [hli, ho, Bool.not_false, Bool.true_and, Option.map_some, Option.getD_some]
          rw [Array.all_eq_true_iff_forall_mem]
          intro e he
          have hd := (s.down ho).1 e (Array.mem_toList_iff.2 he)
          cases hb : Region.binds .any e with
          | false => rfl
          | true =>
            have hlt := hd hb
            have h1 := ih e.on hlt (by omega)
            have : listed.getD e.on false = true := by
              rw [Array.getD_eq_getD_getElem?] at h1 ⊢
              have hx : listed[e.on]? = some listed[e.on] := Array.getElem?_eq_getElem (by omega)
              rw [hx] at h1 ⊢
              simpa using h1
            simp [this]
        rw [hr] at hmem
        cases hmem
  have last : ∀ (listed : Array Bool) (kn : Nat → Prop) (blk : Nat → Option Loc) (a : Act) (w : World), listed.size = ops.size → Region.ready .any ops listed = [] →
      R base w0 S0 (canon (trace P ops orc n0 ops.toList 0 σ) (fun i => listed.getD i true) 0 σ) kn blk a w → (∀ i, kn i → i < n0 ∨ ∃ j, j < ops.size ∧ listed.getD j true = true ∧ i = n0 + j) → Q .normal a w := by
    intro listed kn blk a w hsz hr hR hkn
    have hall := allDone listed hsz hr
    have same : (fun i => listed.getD i true) = fun _ => true := by
      funext i
      by_cases hi : i < ops.size
      · exact hall i hi
      · rw [Array.getD_eq_getD_getElem?, Array.getElem?_eq_none (by omega)]; rfl
    rw [same] at hR
    refine s.fin kn blk a w hR fun i hi => ?_
    rcases hkn i hi with h | ⟨j, hj, _, rfl⟩
    · omega
    · omega
  intro n
  induction n with
  | zero =>
    intro listed kn blk a w hsz hcnt hdown hR hkn
    have hr : Region.ready .any ops listed = [] := by
      have h0 : ∀ i ∈ List.range ops.size, ¬ ((!listed.getD i true) = true) := by
        have : (List.range ops.size).countP (fun i => !listed.getD i true) = 0 := Nat.le_zero.1 hcnt
        exact List.countP_eq_zero.1 this
      unfold Region.ready
      refine List.filter_eq_nil_iff.2 fun i hi h => ?_
      simp only [Bool.and_eq_true] at h
      exact h0 i hi h.1
    exact ⟨hr, last listed kn blk a w hsz hr hR hkn⟩
  | succ n ih =>
    intro listed kn blk a w hsz hcnt hdown hR hkn
    refine ⟨fun hr => last listed kn blk a w hsz hr hR hkn, fun K hK => ?_⟩
    unfold Region.ready at hK
    obtain ⟨hK1, hK2⟩ := List.mem_filter.1 hK
    have hKs : K < ops.size := List.mem_range.1 hK1
    have ho : ops[K]? = some ops[K] := Array.getElem?_eq_getElem hKs
    simp only [Bool.and_eq_true, ho, Option.map_some, Option.getD_some] at hK2
    have hLK : listed.getD K true = false := by simpa using hK2.1
    have hedges : ∀ e ∈ ops[K].after.toList, Region.binds .any e = true → listed.getD e.on true = true := by
      intro e he hb
      have := (Array.all_eq_true_iff_forall_mem.1 hK2.2) e (Array.mem_toList_iff.1 he)
      simp only [hb, Bool.not_true, Bool.false_or] at this
      rw [Array.getD_eq_getD_getElem?] at this ⊢
      cases hx : listed[e.on]? with
      | some v => rw [hx] at this; simpa using this
      | none => rfl
    have hpre : ∀ i, i < ops.size → pre ops K i = true → listed.getD i true = true := by
      intro i hi hp
      obtain ⟨e, he, hb, h⟩ := (s.down ho).2 i hi hp
      have h1 := hedges e he hb
      rcases h with rfl | h
      · exact h1
      · exact hdown e.on (by have := (s.down ho).1 e he hb; omega) h1 i hi h
    have hlen : K < (trace P ops orc n0 ops.toList 0 σ).length := by rw [trace_len]; simpa using hKs
    have htr : (trace P ops orc n0 ops.toList 0 σ)[K]? = some ((trace P ops orc n0 ops.toList 0 σ)[K].1, (trace P ops orc n0 ops.toList 0 σ)[K].2) := List.getElem?_eq_getElem hlen
    obtain ⟨hd, heff, hget, hobj⟩ := s.step (L := fun i => listed.getD i true) (fun j hj hL i hi hp => hdown j hj hL i hi hp) ho hLK hpre htr
    obtain ⟨hdst, hvc⟩ := s.vc K _ _ htr
    rw [← heff] at hvc
    have hnt := (nx_canon (trace P ops orc n0 ops.toList 0 σ) (fun i => listed.getD i true) 0 σ).2
    have hid : ¬ kn (n0 + K) := fun h => by
      rcases hkn _ h with h | ⟨j, _, hj, e⟩
      · omega
      · have : j = K := by omega
        subst this
        rw [hLK] at hj; cases hj
    unfold wpOpIn
    simp only [ho]
    refine opEff_sound hR hid hvc (by rw [hnt, (rl_canon _ _ _ _).2, ← hd]; exact hdst) fun a' w' ⟨kn', blk', hR', hk'⟩ => ?_
    have hLset : ∀ i, (listed.setIfInBounds K true).getD i true = (listed.getD i true || decide (i = K)) := by
      intro i
      simp only [Array.getD_eq_getD_getElem?, Array.getElem?_setIfInBounds]
      by_cases e : K = i
      · subst e
        simp [hsz, hKs]
      · have : ¬ (i = K) := fun h => e h.symm
        simp [e, this]
    refine ih (listed.setIfInBounds K true) kn' blk' a' w' (by simpa using hsz) ?_ ?_ ?_ ?_
    · have := countP_drop (fun i => !listed.getD i true) (fun i => !(listed.setIfInBounds K true).getD i true) (fun x hx => by
        rw [hLset] at hx; simp at hx; simpa using hx.1) (List.range ops.size) K (List.mem_range.2 hKs) (by simp [hLK]) (by simp [hLset])
      omega
    · intro j hj hL i hi hp
      rw [hLset] at hL ⊢
      simp only [Bool.or_eq_true, decide_eq_true_eq] at hL ⊢
      rcases hL with hL | rfl
      · exact .inl (hdown j hj hL i hi hp)
      · exact .inl (hpre i hi hp)
    · have e1 : (fun i => (listed.setIfInBounds K true).getD i true) = fun i => listed.getD i true || decide (i = K) := funext hLset
      rw [e1]
      rw [heff, ← hd] at hR'
      exact hR'.congr (fun t => (hget t).symm) (fun i => (hobj i).symm) ((nx_canon _ _ _ _).2.trans hnt.symm) ((rl_canon _ _ _ _).1.trans (rl_canon _ _ _ _).1.symm) ((rl_canon _ _ _ _).2.trans (rl_canon _ _ _ _).2.symm)
    · intro i hi
      rcases hk' i hi with h | h
      · rcases hkn i h with h | ⟨j, h1, h2, h3⟩
        · exact .inl h
        · exact .inr ⟨j, h1, by rw [hLset, h2]; rfl, h3⟩
      · exact .inr ⟨K, hKs, by rw [hLset]; simp, h⟩
def isLookup (o : Oper) : Bool := match o.op with
  | .lookup _ _ _ ok => !ok
  | _ => false
def isEntry (o : Oper) : Bool := match o.op with
  | .mapEntry .. => true
  | _ => false
def findIx (p : Oper → Bool) : List Oper → Nat → Option Nat
  | [], _ => none
  | o :: r, k => bif p o then some k else findIx p r (k + 1)
def softVC (P : Program) (ops : Array Oper) (orc : List (Nat × Orc)) (σ : St) (k0 j0 : Nat) : Prop := match ops.toList[k0]?, (trace P ops orc σ.nx ops.toList 0 { σ with nx := σ.nx + ops.size })[k0]?, (trace P ops orc σ.nx ops.toList 0 { σ with nx := σ.nx + ops.size })[j0]? with
  | some o, some (_, e), some (_, ej) => opEff P ops (orcAt orc k0) (σ.nx + k0) { canon ((trace P ops orc σ.nx ops.toList 0 { σ with nx := σ.nx + ops.size }).take k0) (fun _ => true) 0 { σ with nx := σ.nx + ops.size } with h := ej.hw ++ (canon ((trace P ops orc σ.nx ops.toList 0 { σ with nx := σ.nx + ops.size }).take k0) (fun _ => true) 0 { σ with nx := σ.nx + ops.size }).h } o = e
  | _, _, _ => False
def drawSoft (P : Program) (ops : Array Oper) (orc : List (Nat × Orc)) (σ : St) : Option Prop := match findIx isLookup ops.toList 0, findIx isEntry ops.toList 0 with
  | some k0, some j0 => bif Nat.blt k0 j0 && orderOKs k0 j0 (aheads ops.toList []) (feet P ops orc σ.nx ops.toList 0 { σ with nx := σ.nx + ops.size }) ops.toList (feet P ops orc σ.nx ops.toList 0 { σ with nx := σ.nx + ops.size }) 0 then some (softVC P ops orc σ k0 j0) else none
  | _, _ => none
theorem region_soft_any {σ : St} {a : Act} {w : World} (h : Fits base w0 S0 σ a w) (hvc : AllP (regionOut P ops orc σ).2) {p : Prop} (hord : drawSoft P ops orc σ = some p) (hp : p)
    (hQ : ∀ a' w', Fits base w0 S0 (regionOut P ops orc σ).1 a' w' → Q .normal a' w') : wpAnyIn (FW ro) m P .any ops Q ops.size (Array.replicate ops.size false) a { w with drawn := w.drawn + 1 } := by
  obtain ⟨kn, blk, r, hk⟩ := h
  have hnx := runOps_nx (P := P) ops orc σ.nx ops.toList 0 { σ with nx := σ.nx + ops.size } []
  obtain ⟨k0, j0, hlt, hord, hsoft⟩ : ∃ k0 j0, k0 < j0 ∧ orderOKs k0 j0 (aheads ops.toList []) (feet P ops orc σ.nx ops.toList 0 { σ with nx := σ.nx + ops.size }) ops.toList (feet P ops orc σ.nx ops.toList 0 { σ with nx := σ.nx + ops.size }) 0 = true ∧ softVC P ops orc σ k0 j0 := by
    unfold drawSoft at hord
    split at hord
    · rename_i k0 j0 _ _
      cases hb : Nat.blt k0 j0 && orderOKs k0 j0 (aheads ops.toList []) (feet P ops orc σ.nx ops.toList 0 { σ with nx := σ.nx + ops.size }) ops.toList (feet P ops orc σ.nx ops.toList 0 { σ with nx := σ.nx + ops.size }) 0 with
      | false => simp only [hb, cond_false] at hord; cases hord
      | true =>
        simp only [hb, cond_true, Option.some.injEq] at hord
        simp only [Bool.and_eq_true] at hb
        subst hord
        exact ⟨k0, j0, Nat.le_of_ble_eq_true hb.1, hb.2, hp⟩
    · cases hord
  have s : SetupS k0 j0 P ops orc base w0 S0 Q σ.nx { σ with nx := σ.nx + ops.size } := by
    refine ⟨runOps_each ops.toList 0 _ [] hvc, hord, hlt, fun o d dj e ej h1 h2 h3 => by unfold softVC at hsoft; simp only [h1, h2, h3] at hsoft; exact hsoft, fun kn' blk' a' w' hR hk' => hQ a' w' ⟨kn', blk', ?_, fun i hi => ?_⟩⟩
    · unfold regionOut
      rw [runOps_trace]; exact hR
    · have := hk' i hi
      show i < (runOps P ops orc σ.nx ops.toList 0 { σ with nx := σ.nx + ops.size } []).1.nx
      rw [hnx.1]; exact this
  have hrep : ∀ i, (Array.replicate ops.size false).getD i true = decide (ops.size ≤ i) := by
    intro i
    rw [Array.getD_eq_getD_getElem?, Array.getElem?_replicate]
    by_cases hi : i < ops.size
    · rw [if_pos hi]
      have : decide (ops.size ≤ i) = false := by simp; omega
      rw [this]; rfl
    · rw [if_neg hi]
      have : decide (ops.size ≤ i) = true := by simp; omega
      rw [this]; rfl
  refine s.any ops.size (Array.replicate ops.size false) kn blk a _ (by simp) (Nat.le_trans List.countP_le_length (by simp)) (fun j hj hL => ?_) ?_ fun i hi => .inl (hk i hi)
  · rw [hrep] at hL; simp at hL; omega
  · have e1 : (fun i => (Array.replicate ops.size false).getD i true) = fun i => decide (ops.size ≤ i) := funext hrep
    rw [e1]
    have hget : ∀ t, (canon (trace P ops orc σ.nx ops.toList 0 { σ with nx := σ.nx + ops.size }) (fun i => decide (ops.size ≤ i)) 0 { σ with nx := σ.nx + ops.size }).get t = σ.get t := by
      intro t
      rw [get_canon]
      refine lastW_none _ _ _ _ fun j v hj => ?_
      have := (List.getElem?_eq_some_iff.1 hj).1
      rw [List.length_map, trace_len] at this
      simp at this ⊢; omega
    have hobj : ∀ t, (canon (trace P ops orc σ.nx ops.toList 0 { σ with nx := σ.nx + ops.size }) (fun i => decide (ops.size ≤ i)) 0 { σ with nx := σ.nx + ops.size }).obj t = σ.obj t := by
      intro t
      rw [obj_canon]
      refine lastW_none _ _ _ _ fun j v hj => ?_
      have := (List.getElem?_eq_some_iff.1 hj).1
      rw [List.length_map, trace_len] at this
      simp at this ⊢; omega
    exact r.drew.congr hget hobj (nx_canon _ _ _ _).2 (rl_canon _ _ _ _).1 (rl_canon _ _ _ _).2
theorem region_soft_sound {σ : St} {a : Act} {w : World} {id : Nat} (hm : P.follows .mixedOrders = true) (h : Fits base w0 S0 σ a w) (hvc : AllP (regionOut P ops orc σ).2) {p : Prop} (hord : drawSoft P ops orc σ = some p) (hp : p)
    (hQ : ∀ a' w', Fits base w0 S0 (regionOut P ops orc σ).1 a' w' → Q .normal a' w') : (Code.region id ops true).wpIn (FW ro) m P Q a w :=
  wpIn_region_any hm (region_soft_any h hvc hord hp hQ)
end
end Go.Abs
