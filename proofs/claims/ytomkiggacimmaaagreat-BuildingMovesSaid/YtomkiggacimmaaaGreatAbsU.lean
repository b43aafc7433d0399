/- A region that draws its order, and whose last operations come behind all others: the others first, in whatever order, then the last ones. -/
import Derived.Test.YtomkiggacimmaaaGreatAbsT
import Derived.TacticsIn
namespace Go.Abs
open Go Go.RowKit

/-- Each edge leads back. -/
def downB (ops : List Oper) : Bool := (List.range ops.length).all fun j => match ops[j]? with
  | some o => o.after.toList.all fun e => !Region.binds .any e || decide (e.on < j)
  | none => true
/-- Each of the first m is waited for by a later one, the one in place m at the latest. -/
def usedB (ops : List Oper) (m : Nat) : Bool := (List.range m).all fun i => (List.range (m + 1)).any fun j => decide (i < j) && match ops[j]? with
  | some o => o.after.toList.any fun e => Region.binds .any e && decide (e.on = i)
  | none => false
/-- Each behind place m waits for the one ahead. -/
def chainB (ops : List Oper) (m : Nat) : Bool := (List.range ops.length).all fun j => decide (j ≤ m) || match ops[j]? with
  | some o => o.after.toList.any fun e => Region.binds .any e && decide (e.on = j - 1)
  | none => false
def noGuardB (ops : List Oper) (m : Nat) : Bool := (ops.take m).all fun o => o.guard.isNone

theorem downB_spec {ops : Array Oper} (h : downB ops.toList = true) {j : Nat} {o : Oper} (ho : ops[j]? = some o) : ∀ e ∈ o.after, Region.binds .any e = true → e.on < j := by
  intro e he hb
  have hj : j < ops.toList.length := by simpa using (Array.getElem?_eq_some_iff.1 ho).1
  have h1 := List.all_eq_true.1 h j (List.mem_range.2 hj)
  have ho' : ops.toList[j]? = some o := by simpa using ho
  simp only [ho'] at h1
  have h2 := List.all_eq_true.1 h1 e (by simpa using he)
  simpa [hb] using h2
theorem usedB_spec {ops : Array Oper} {m : Nat} (h : usedB ops.toList m = true) {i : Nat} (hi : i < m) : ∃ j o e, i < j ∧ j ≤ m ∧ ops[j]? = some o ∧ e ∈ o.after ∧ Region.binds .any e = true ∧ e.on = i := by
  have h1 := List.all_eq_true.1 h i (List.mem_range.2 hi)
  obtain ⟨j, hj, h2⟩ := List.any_eq_true.1 h1
  rw [Bool.and_eq_true, decide_eq_true_eq] at h2
  obtain ⟨h3, h4⟩ := h2
  cases ho : ops.toList[j]? with
  | none => simp [ho] at h4
  | some o =>
    simp only [ho] at h4
    obtain ⟨e, he, h5⟩ := List.any_eq_true.1 h4
    rw [Bool.and_eq_true, decide_eq_true_eq] at h5
    exact ⟨j, o, e, h3, by have := List.mem_range.1 hj; omega, by simpa using ho, by simpa using he, h5.1, h5.2⟩
theorem chainB_spec {ops : Array Oper} {m : Nat} (h : chainB ops.toList m = true) {j : Nat} {o : Oper} (ho : ops[j]? = some o) (hj : m < j) : ∃ e ∈ o.after, Region.binds .any e = true ∧ e.on = j - 1 := by
  have hjs : j < ops.toList.length := by simpa using (Array.getElem?_eq_some_iff.1 ho).1
  have h1 := List.all_eq_true.1 h j (List.mem_range.2 hjs)
  have ho' : ops.toList[j]? = some o := by simpa using ho
  rw [Bool.or_eq_true, decide_eq_true_eq] at h1
  rcases h1 with h1 | h1
  · omega
  · simp only [ho'] at h1
    obtain ⟨e, he, h5⟩ := List.any_eq_true.1 h1
    rw [Bool.and_eq_true, decide_eq_true_eq] at h5
    exact ⟨e, by simpa using he, h5.1, h5.2⟩

theorem mem_ready {ops : Array Oper} {L : Array Bool} {i : Nat} : i ∈ Region.ready .any ops L ↔ ∃ o, ops[i]? = some o ∧ L.getD i true = false ∧ ∀ e ∈ o.after, Region.binds .any e = true → L.getD e.on false = true := by
  unfold Region.ready
  rw [List.mem_filter, List.mem_range]
  constructor
  · rintro ⟨hi, h⟩
    have ho : ops[i]? = some ops[i] := Array.getElem?_eq_getElem hi
    simp only [ho, Option.map_some, Option.getD_some, Bool.and_eq_true, Bool.not_eq_true'] at h
    refine ⟨_, ho, h.1, fun e he hb => ?_⟩
    have := (Array.all_eq_true_iff_forall_mem.1 h.2) e he
    simpa [hb] using this
  · rintro ⟨o, ho, h1, h2⟩
    refine ⟨(Array.getElem?_eq_some_iff.1 ho).1, ?_⟩
    simp only [ho, Option.map_some, Option.getD_some, Bool.and_eq_true, Bool.not_eq_true']
    refine ⟨h1, Array.all_eq_true_iff_forall_mem.2 fun e he => ?_⟩
    cases hb : Region.binds .any e with
    | false => rfl
    | true => simpa using h2 e he hb

theorem getD_both {L : Array Bool} {i : Nat} (h : i < L.size) : L.getD i true = L.getD i false := by
  simp [Array.getD_eq_getD_getElem?, h]

/-- Where none may come up, all are listed. -/
theorem all_listed {ops : Array Oper} {L : Array Bool} (hd : downB ops.toList = true) (hs : L.size = ops.size) (hr : Region.ready .any ops L = []) : ∀ i, i < ops.size → L.getD i false = true := by
  intro i
  induction i using Nat.strongRecOn with
  | _ i ih =>
    intro hi
    cases hl : L.getD i true with
    | true => rw [← getD_both (by omega)]; exact hl
    | false =>
      exfalso
      have ho : ops[i]? = some ops[i] := Array.getElem?_eq_getElem hi
      have : i ∈ Region.ready .any ops L := mem_ready.2 ⟨_, ho, hl, fun e he hb => ih e.on (downB_spec hd ho e he hb) (by have := downB_spec hd ho e he hb; omega)⟩
      rw [hr] at this
      cases this

section
variable {F : Fence} {n : Nat} {P : Program} {ops pre : Array Oper} {Q : Exit → Act → World → Prop}

/-- The last ones, in their order. -/
theorem any_tail {m : Nat} (hd : downB ops.toList = true) (hc : chainB ops.toList m = true) : ∀ (r p fuel : Nat) (L : Array Bool) (a : Act) (w : World), m ≤ p → p + r = ops.size → r ≤ fuel → L.size = ops.size →
    (∀ i, i < ops.size → L.getD i false = decide (i < p)) → wpOpsIn F n P ops Q (List.range' p r) a w → wpAnyIn F n P .any ops Q fuel L a w := by
  intro r
  induction r with
  | zero =>
    intro p fuel L a w hp hs hf hsz hL h
    have hnil : Region.ready .any ops L = [] := by
      apply List.eq_nil_iff_forall_not_mem.2
      intro i hi
      obtain ⟨o, ho, h1, _⟩ := mem_ready.1 hi
      have hi' := (Array.getElem?_eq_some_iff.1 ho).1
      rw [getD_both (by omega), hL i hi', decide_eq_false_iff_not] at h1
      omega
    have hQ : Q .normal a w := by simpa [wpOpsIn] using h
    cases fuel with
    | zero => exact ⟨hnil, hQ⟩
    | succ f => exact ⟨fun _ => hQ, fun i hi => by rw [hnil] at hi; cases hi⟩
  | succ r ih =>
    intro p fuel L a w hp hs hf hsz hL h
    cases fuel with
    | zero => omega
    | succ f =>
      have hps : p < ops.size := by omega
      have ho : ops[p]? = some ops[p] := Array.getElem?_eq_getElem hps
      have hmem : p ∈ Region.ready .any ops L := mem_ready.2 ⟨_, ho, by rw [getD_both (by omega), hL p hps]; simp, fun e he hb => by
        have := downB_spec hd ho e he hb
        rw [hL _ (by omega), decide_eq_true_eq]; exact this⟩
      refine ⟨fun hn => (by rw [hn] at hmem; cases hmem), fun i hi => ?_⟩
      obtain ⟨o, hoi, h1, h2⟩ := mem_ready.1 hi
      have his := (Array.getElem?_eq_some_iff.1 hoi).1
      rw [getD_both (by omega), hL i his, decide_eq_false_iff_not] at h1
      have hip : i = p := by
        rcases Nat.lt_or_ge p i with hlt | hge
        · exfalso
          obtain ⟨e, he, hb, heq⟩ := chainB_spec hc hoi (by omega)
          have := h2 e he hb
          rw [hL _ (by omega), decide_eq_true_eq] at this
          omega
        · omega
      subst hip
      rw [List.range'_succ, wpOpsIn_cons] at h
      refine wpOpIn_mono (fun a' w' h' => ih (i + 1) f _ a' w' (by omega) (by omega) (by omega) (by simpa using hsz) (fun k hk => ?_) h') h
      rw [Array.getD_eq_getD_getElem?, Array.getElem?_setIfInBounds]
      by_cases e : i = k
      · subst e
        rw [if_pos rfl, if_pos (by omega), decide_eq_true (by omega)]; rfl
      · have := hL k hk
        rw [Array.getD_eq_getD_getElem?] at this
        rw [if_neg e, this, decide_eq_decide]
        omega

/-- What a region's others owe. -/
def tailQ (F : Fence) (n : Nat) (P : Program) (ops : Array Oper) (Q : Exit → Act → World → Prop) (m r : Nat) : Exit → Act → World → Prop
  | .normal, a, w => wpOpsIn F n P ops Q (List.range' m r) a w
  | e, a, w => Q e a w

theorem wpIn_tailQ {m r : Nat} {o : Oper} {a : Act} {w : World} {K : Act → World → Prop} (h : o.wpIn F n P a w K (tailQ F n P ops Q m r)) : o.wpIn F n P a w K Q := by
  unfold Oper.wpIn at *
  refine ⟨h.1, ?_⟩
  have hh := h.2
  generalize (o.semAt F.round a.eval).run P w = res at *
  have lo : LetsOut (tailQ F n P ops Q m r) → LetsOut Q := fun ⟨a, w, q⟩ => ⟨a, w, q⟩
  cases res with
  | ok x w' =>
    cases x <;> simp only [Oper.uponIn] at hh ⊢ <;>
      first
        | exact hh
        | exact ⟨hh.1, CallsIn.mono hh.2 (fun e w'' he => by cases e <;> first | exact he | exact lo he)⟩
        | exact ⟨hh.1, RoundIn.mono hh.2 (fun e w'' he => by cases e <;> first | exact he | exact lo he)⟩
  | halt x w' => cases x <;> simp only [Oper.uponIn] at hh ⊢ <;> exact hh

theorem any_split {tl : List Oper} (hops : ops.toList = pre.toList ++ tl) (hd : downB ops.toList = true) (hu : usedB ops.toList pre.size = true) (hc : chainB ops.toList pre.size = true) (hg : noGuardB ops.toList pre.size = true) (htl : tl ≠ []) :
    ∀ (f : Nat) (L L' : Array Bool) (a : Act) (w : World), L.size = pre.size → L'.size = ops.size → (∀ i, i < pre.size → L'.getD i false = L.getD i false) → (∀ i, pre.size ≤ i → i < ops.size → L'.getD i false = false) →
      (∀ j o, pre[j]? = some o → L.getD j false = true → ∀ e ∈ o.after, Region.binds .any e = true → L.getD e.on false = true) →
      wpAnyIn F n P .any pre (tailQ F n P ops Q pre.size tl.length) f L a w → wpAnyIn F n P .any ops Q (f + tl.length) L' a w := by
  have hsz : ops.size = pre.size + tl.length := by
    have := congrArg List.length hops
    simpa using this
  have hpre : ∀ i, i < pre.size → ops[i]? = pre[i]? := fun i hi => by
    have := congrArg (fun l : List Oper => l[i]?) hops
    simp only [Array.getElem?_toList] at this
    rw [this, List.getElem?_append_left (by simpa using hi), Array.getElem?_toList]
  have hdp : downB pre.toList = true := by
    refine List.all_eq_true.2 fun j hj => ?_
    have hj' : j < pre.size := by simpa using hj
    have h1 := List.all_eq_true.1 hd j (List.mem_range.2 (by simp; omega))
    rw [Array.getElem?_toList] at h1 ⊢
    rw [hpre j hj'] at h1
    exact h1
  have hgn : ∀ i o, i < pre.size → ops[i]? = some o → o.guard = none := fun i o hi ho => by
    have hm : o ∈ ops.toList.take pre.size := by
      refine List.mem_of_getElem? (i := i) ?_
      rw [List.getElem?_take, if_pos hi]; simpa using ho
    have := List.all_eq_true.1 hg o hm
    simpa using this
  -- the ones of the tail wait for all others
  have wait : ∀ (L L' : Array Bool), L.size = pre.size → L'.size = ops.size → (∀ i, i < pre.size → L'.getD i false = L.getD i false) → (∀ i, pre.size ≤ i → i < ops.size → L'.getD i false = false) →
      (∀ j o, pre[j]? = some o → L.getD j false = true → ∀ e ∈ o.after, Region.binds .any e = true → L.getD e.on false = true) →
      ∀ i, i ∈ Region.ready .any ops L' → pre.size ≤ i → ∀ k, k < pre.size → L.getD k false = true := by
    intro L L' hL hL' hsame htail hcl i hi hge
    obtain ⟨o, ho, _, h2⟩ := mem_ready.1 hi
    have his := (Array.getElem?_eq_some_iff.1 ho).1
    have him : i = pre.size := by
      rcases Nat.lt_or_ge pre.size i with hlt | hge'
      · exfalso
        obtain ⟨e, he, hb, heq⟩ := chainB_spec hc ho hlt
        have := h2 e he hb
        rw [htail _ (by omega) (by omega)] at this
        cases this
      · omega
    subst him
    intro k hk
    generalize hq : pre.size - k = q
    induction q using Nat.strongRecOn generalizing k with
    | _ q ih =>
      obtain ⟨j, oj, e, h3, h4, h5, h6, h7, h8⟩ := usedB_spec hu hk
      rcases Nat.lt_or_ge j pre.size with hj | hj
      · have := hcl j oj (by rw [← hpre j hj]; exact h5) (ih (pre.size - j) (by omega) j hj rfl) e h6 h7
        rw [h8] at this; exact this
      · have hje : j = pre.size := by omega
        rw [hje, ho] at h5
        cases h5
        have := h2 e h6 h7
        rw [h8, hsame k hk] at this
        exact this
  -- all of the others are listed
  have done : ∀ (f : Nat) (L L' : Array Bool) (a : Act) (w : World), L.size = pre.size → L'.size = ops.size → (∀ i, i < pre.size → L'.getD i false = L.getD i false) → (∀ i, pre.size ≤ i → i < ops.size → L'.getD i false = false) →
      (∀ k, k < pre.size → L.getD k false = true) → tailQ F n P ops Q pre.size tl.length .normal a w → wpAnyIn F n P .any ops Q (f + tl.length) L' a w := by
    intro f L L' a w hL hL' hsame htail hall hT
    refine any_tail hd hc tl.length pre.size _ L' a w (Nat.le_refl _) (by omega) (by omega) hL' (fun i hi => ?_) hT
    rcases Nat.lt_or_ge i pre.size with h | h
    · rw [hsame i h, hall i h, decide_eq_true h]
    · rw [htail i h hi, decide_eq_false (by omega)]
  intro f
  induction f with
  | zero =>
    intro L L' a w hL hL' hsame htail hcl h
    exact done 0 L L' a w hL hL' hsame htail (all_listed hdp hL h.1) h.2
  | succ f ih =>
    intro L L' a w hL hL' hsame htail hcl h
    obtain ⟨h0, h1⟩ := h
    by_cases hr : Region.ready .any pre L = []
    · exact done (f + 1) L L' a w hL hL' hsame htail (all_listed hdp hL hr) (h0 hr)
    · have notall : ¬ ∀ k, k < pre.size → L.getD k false = true := fun hall => by
        obtain ⟨k, hk⟩ := List.exists_mem_of_ne_nil _ hr
        obtain ⟨o, ho, h3, _⟩ := mem_ready.1 hk
        have hks := (Array.getElem?_eq_some_iff.1 ho).1
        rw [getD_both (by omega), hall k hks] at h3
        cases h3
      have hlen : 0 < tl.length := List.length_pos_iff.2 htl
      rw [show f + 1 + tl.length = (f + tl.length) + 1 by omega]
      have hready : ∀ i, i ∈ Region.ready .any ops L' → i < pre.size ∧ i ∈ Region.ready .any pre L := fun i hi => by
        rcases Nat.lt_or_ge i pre.size with hlt | hge
        · refine ⟨hlt, ?_⟩
          obtain ⟨o, ho, h3, h4⟩ := mem_ready.1 hi
          rw [getD_both (by omega), hsame i hlt, ← getD_both (by omega)] at h3
          refine mem_ready.2 ⟨o, by rw [← hpre i hlt]; exact ho, h3, fun e he hb => ?_⟩
          have := h4 e he hb
          rw [hsame _ (by have := downB_spec hd ho e he hb; omega)] at this
          exact this
        · exact absurd (wait L L' hL hL' hsame htail hcl i hi hge) notall
      refine ⟨fun hn => ?_, fun i hi => ?_⟩
      · exfalso
        obtain ⟨k, hk⟩ := List.exists_mem_of_ne_nil _ hr
        obtain ⟨o, ho, h3, h4⟩ := mem_ready.1 hk
        have hks := (Array.getElem?_eq_some_iff.1 ho).1
        have : k ∈ Region.ready .any ops L' := mem_ready.2 ⟨o, by rw [hpre k hks]; exact ho, by rw [getD_both (by omega), hsame k hks, ← getD_both (by omega)]; exact h3, fun e he hb => by
          rw [hsame _ (by have := downB_spec hdp ho e he hb; omega)]; exact h4 e he hb⟩
        rw [hn] at this
        cases this
      · obtain ⟨hlt, hip⟩ := hready i hi
        have h5 := h1 i hip
        obtain ⟨o, ho, _, h4⟩ := mem_ready.1 hip
        have ho' : ops[i]? = some o := by rw [hpre i hlt]; exact ho
        have hgo := hgn i o hlt ho'
        unfold wpOpIn at h5 ⊢
        simp only [ho, ho', Region.wanted, hgo, if_true] at h5 ⊢
        refine Oper.wpIn_mono (fun a' w' h' => ih (L.setIfInBounds i true) (L'.setIfInBounds i true) a' w' (by simpa using hL) (by simpa using hL') (fun k hk => ?_) (fun k hk1 hk2 => ?_) (fun j oj hoj hj e he hb => ?_) h') (wpIn_tailQ h5)
        · have := hsame k hk
          simp only [Array.getD_eq_getD_getElem?, Array.getElem?_setIfInBounds] at this ⊢
          by_cases e : i = k
          · subst e
            rw [if_pos rfl, if_pos rfl, if_pos (by omega), if_pos (by omega)]
          · rw [if_neg e, if_neg e]; exact this
        · have := htail k hk1 hk2
          simp only [Array.getD_eq_getD_getElem?, Array.getElem?_setIfInBounds] at this ⊢
          rw [if_neg (by omega)]; exact this
        · have mono : ∀ k, L.getD k false = true → (L.setIfInBounds i true).getD k false = true := fun k hk => by
            simp only [Array.getD_eq_getD_getElem?, Array.getElem?_setIfInBounds] at hk ⊢
            by_cases e : i = k
            · subst e; rw [if_pos rfl, if_pos (by omega)]; rfl
            · rw [if_neg e]; exact hk
          by_cases e' : j = i
          · subst e'
            rw [ho] at hoj
            cases hoj
            exact mono _ (h4 e he hb)
          · refine mono _ (hcl j oj hoj ?_ e he hb)
            simp only [Array.getD_eq_getD_getElem?, Array.getElem?_setIfInBounds] at hj ⊢
            rw [if_neg (fun h => e' h.symm)] at hj
            exact hj
end
/-- Operations that hand back a value and do no more. -/
def isV : Op → Bool
  | .move _ | .load _ _ | .binOp .. | .unOp .. | .indexAddr .. | .fieldAddr .. | .index .. | .field .. | .extract .. => true
  | _ => false
theorem vRun {P : Program} {s : Sem Value} {w w' : World} {x : Next} (h : (do pure (Next.value (← s)) : Sem Next).run P w = .ok x w') : ∃ v, x = .value v := by
  rw [Sem.run_bind] at h
  cases hs : s.run P w with
  | ok v w1 =>
    rw [hs] at h
    cases h; exact ⟨_, rfl⟩
  | halt y w1 => rw [hs] at h; cases h
theorem put_defers (a : Act) (d : Option Tmp) (v : Value) : (a.put d v).defers = a.defers := by cases d <;> rfl
theorem isV_value {P : Program} {ro : Option Nat} {ρ : Operand → Value} {o : Oper} {w w' : World} {x : Next} (hv : isV o.op = true) (h : (o.semAt ro ρ).run P w = .ok x w') : ∃ v, x = .value v := by
  rw [Oper.semAt_eq ro ρ o (fun c e => by rw [e] at hv; cases hv)] at h
  unfold execOp at h
  cases ho : o.op <;> simp only [ho, isV, Bool.false_eq_true] at hv h <;> first | exact vRun h | skip
  exact ⟨_, by cases h; rfl⟩
theorem any_defers {F : Fence} {n : Nat} {P : Program} {md : Region.Mode} {pre : Array Oper} {Q : Exit → Act → World → Prop} {I : Act → Prop} (hv : ∀ o ∈ pre.toList, isV o.op = true) (hI : ∀ a o v, o ∈ pre.toList → I a → I (a.put o.dst v)) :
    ∀ (f : Nat) (L : Array Bool) (a : Act) (w : World), I a → wpAnyIn F n P md pre Q f L a w → wpAnyIn F n P md pre (fun e a' w' => (e = .normal → I a') ∧ Q e a' w') f L a w := by
  intro f
  induction f with
  | zero => exact fun L a w hd h => ⟨h.1, fun _ => hd, h.2⟩
  | succ f ih =>
    intro L a w hd h
    refine ⟨fun hr => ⟨fun _ => hd, h.1 hr⟩, fun i hi => ?_⟩
    have h1 := h.2 i hi
    unfold wpOpIn at h1 ⊢
    split
    · rename_i ho
      simp only [ho] at h1
      exact ih _ _ _ hd h1
    · rename_i o ho
      simp only [ho] at h1
      have hmo : o ∈ pre.toList := by rw [Array.mem_toList_iff]; exact Array.mem_of_getElem? ho
      have hov := hv o hmo
      split
      · rename_i hw
        rw [if_pos hw] at h1
        unfold Oper.wpIn at h1 ⊢
        refine ⟨h1.1, ?_⟩
        have h2 := h1.2
        generalize hres : (o.semAt F.round a.eval).run P w = res at h2
        cases res with
        | ok x w' =>
          obtain ⟨v, rfl⟩ := isV_value hov hres
          simp only [Oper.uponIn] at h2 ⊢
          exact ih _ _ _ (hI _ _ _ hmo hd) h2
        | halt x w' =>
          cases x <;> simp only [Oper.uponIn] at h2 ⊢
          exact ⟨fun h => (by cases h), h2⟩
      · rename_i hw
        rw [if_neg hw] at h1
        exact ⟨h1.1, ih _ _ _ (hI _ _ _ hmo hd) h1.2⟩
theorem wpIn_monoQ {F : Fence} {n : Nat} {P : Program} {o : Oper} {a : Act} {w : World} {K : Act → World → Prop} {Q Q' : Exit → Act → World → Prop} (hq : ∀ e a w, Q e a w → Q' e a w) (h : o.wpIn F n P a w K Q) : o.wpIn F n P a w K Q' := by
  unfold Oper.wpIn at *
  refine ⟨h.1, ?_⟩
  have hh := h.2
  generalize (o.semAt F.round a.eval).run P w = res at *
  have lo : LetsOut Q → LetsOut Q' := fun ⟨a, w, q⟩ => ⟨a, w, hq _ _ _ q⟩
  cases res with
  | ok x w' =>
    cases x <;> simp only [Oper.uponIn] at hh ⊢ <;>
      first
        | exact hh
        | exact ⟨hh.1, CallsIn.mono hh.2 (fun e w'' he => by cases e <;> first | exact he | exact lo he | exact hq _ _ _ he)⟩
        | exact ⟨hh.1, RoundIn.mono hh.2 (fun e w'' he => by cases e <;> first | exact he | exact lo he | exact hq _ _ _ he)⟩
  | halt x w' => cases x <;> simp only [Oper.uponIn] at hh ⊢ <;> first | exact hh | exact hq _ _ _ hh
theorem any_mono {F : Fence} {n : Nat} {P : Program} {md : Region.Mode} {ops : Array Oper} {Q Q' : Exit → Act → World → Prop} (hq : ∀ e a w, Q e a w → Q' e a w) :
    ∀ (f : Nat) (L : Array Bool) (a : Act) (w : World), wpAnyIn F n P md ops Q f L a w → wpAnyIn F n P md ops Q' f L a w := by
  intro f
  induction f with
  | zero => exact fun L a w h => ⟨h.1, hq _ _ _ h.2⟩
  | succ f ih =>
    intro L a w h
    refine ⟨fun hr => hq _ _ _ (h.1 hr), fun i hi => ?_⟩
    have h1 := h.2 i hi
    unfold wpOpIn at h1 ⊢
    split
    · rename_i ho
      simp only [ho] at h1
      exact ih _ _ _ h1
    · rename_i o ho
      simp only [ho] at h1
      split
      · rename_i hw
        rw [if_pos hw] at h1
        exact wpIn_monoQ hq (Oper.wpIn_mono (fun a' w' => ih _ a' w') h1)
      · rename_i hw
        rw [if_neg hw] at h1
        exact ⟨h1.1, ih _ _ _ h1.2⟩
section
variable {P : Program} {ro : Option Nat} {m : Nat} {ops pre : Array Oper} {orc : List (Nat × Orc)} {base : Nat} {w0 : World} {S0 : Env} {Q : Exit → Act → World → Prop}
/-- A region of which all but the last operations are served: those last ones are left. -/
theorem region_split_sound {tl : List Oper} {σ : St} {a : Act} {w : World} {id : Nat} (hm : P.follows .mixedOrders = true) (hops : ops.toList = pre.toList ++ tl) (hb : (downB ops.toList && (usedB ops.toList pre.size && (chainB ops.toList pre.size && noGuardB ops.toList pre.size))) = true) (htl : tl ≠ [])
    (h : Fits base w0 S0 σ a w) (hvc : AllP (regionOut P pre orc σ).2) (hord : drawOK P pre orc σ = true)
    (hvs : (pre.toList.all fun o => isV o.op) = true)
    (hQ : ∀ a' w', a'.defers = a.defers → (∀ t, (pre.toList.all fun o => o.dst != some t) = true → a'.tmps.getD t undef = a.tmps.getD t undef) → Fits base w0 S0 (regionOut P pre orc σ).1 a' w' → wpListIn (FW ro) m P ops Q tl a' w') : (Code.region id ops true).wpIn (FW ro) m P Q a w := by
  simp only [Bool.and_eq_true] at hb
  obtain ⟨h1, h2, h3, h4⟩ := hb
  refine wpIn_region_any hm ?_
  have hsz : ops.size = pre.size + tl.length := by
    have := congrArg List.length hops
    simpa using this
  have rep : ∀ (k i : Nat), (Array.replicate k false).getD i false = false := fun k i => by
    simp only [Array.getD_eq_getD_getElem?, Array.getElem?_replicate]
    split <;> rfl
  rw [show wpAnyIn (FW ro) m P .any ops Q ops.size = wpAnyIn (FW ro) m P .any ops Q (pre.size + tl.length) by rw [hsz]]
  refine any_split hops h1 h2 h3 h4 htl pre.size (Array.replicate pre.size false) (Array.replicate ops.size false) a _ (by simp) (by simp) (fun i _ => by rw [rep, rep]) (fun i _ _ => rep _ _) (fun j o _ hj => by rw [rep] at hj; cases hj) ?_
  have h5 := region_draw_any (ro := ro) (m := m) (Q := fun e a' w' => match e with | .normal => Fits base w0 S0 (regionOut P pre orc σ).1 a' w' | _ => False) h hvc hord fun _ _ h => h
  have h6 := any_defers (I := fun a' => a'.defers = a.defers ∧ ∀ t, (pre.toList.all fun o => o.dst != some t) = true → a'.tmps.getD t undef = a.tmps.getD t undef) (fun o ho => List.all_eq_true.1 hvs o ho)
    (fun a1 o v ho ⟨i1, i2⟩ => ⟨by rw [put_defers]; exact i1, fun t ht => (by
      rw [← i2 t ht]
      have := List.all_eq_true.1 ht o ho
      have hne : o.dst ≠ some t := by simpa using this
      cases hd : o.dst with
      | none => rfl
      | some d =>
        have hdt : d ≠ t := fun e => hne (by rw [hd, e])
        simp only [Act.put, Array.getD_eq_getD_getElem?, Array.getElem?_setIfInBounds, if_neg hdt])⟩) _ _ a _ ⟨rfl, fun _ _ => rfl⟩ h5
  exact any_mono (fun e a' w' ⟨x, y⟩ => by
    cases e <;> simp only at y
    have h7 := hQ a' w' (x rfl).1 (x rfl).2 y
    rw [← wpOpsIn_eq_wpListIn tl pre.size (fun j => by
      have := congrArg (fun l : List Oper => l[pre.size + j]?) hops
      simp only [Array.getElem?_toList] at this
      rw [this, List.getElem?_append_right (by simp)]
      simp)] at h7
    exact h7) _ _ _ _ h6
/-- The same, cut behind the first k operations. -/
theorem region_cut_sound (k : Nat) {σ : St} {a : Act} {w : World} {id : Nat} (hm : P.follows .mixedOrders = true)
    (hb : (downB ops.toList && (usedB ops.toList (List.take k ops.toList).toArray.size && (chainB ops.toList (List.take k ops.toList).toArray.size && noGuardB ops.toList (List.take k ops.toList).toArray.size))) = true) (htl : (List.drop k ops.toList).isEmpty = false)
    (hord : drawOK P (List.take k ops.toList).toArray orc σ = true) (hvs : ((List.take k ops.toList).all fun o => isV o.op) = true)
    (h : Fits base w0 S0 σ a w) (hvc : AllP (regionOut P (List.take k ops.toList).toArray orc σ).2)
    (hQ : ∀ a' w', a'.defers = a.defers → (∀ t, ((List.take k ops.toList).all fun o => o.dst != some t) = true → a'.tmps.getD t undef = a.tmps.getD t undef) → Fits base w0 S0 (regionOut P (List.take k ops.toList).toArray orc σ).1 a' w' → wpListIn (FW ro) m P ops Q (List.drop k ops.toList) a' w') : (Code.region id ops true).wpIn (FW ro) m P Q a w :=
  region_split_sound hm (by simp) hb (fun e => by rw [e] at htl; cases htl) h hvc hord (by simpa using hvs) (fun a' w' h1 h2 h3 => hQ a' w' h1 (fun t ht => h2 t (by simpa using ht)) h3)
theorem AllP_of_eq {l l' : List Prop} (h : l = l') (hp : AllP l') : AllP l := h ▸ hp
theorem R.tmp_val {σ : St} {kn : Nat → Prop} {blk : Nat → Option Loc} {a : Act} {w : World} {t : Nat} {v : Value} (r : R base w0 S0 σ kn blk a w) (h : σ.get t = .val v) : a.tmps.getD t undef = v := by
  have := r.tmps t
  rw [h] at this
  exact this.val_eq
/-- A frame as it stands, told anew. -/
theorem fits_fresh {σ : St} {a : Act} {w : World} (hd : a.defers = []) (hs : a.tmps.size = σ.nt) (hh : σ.h = []) (hlo : σ.lo = 0) (ht : ∀ t, RelC (rdAll w w.heap.size) (σ.get t) (a.tmps.getD t undef)) (hgl : GlobOK (rdAll w w.heap.size)) :
    Fits w.heap.size w ⟨fun _ => True, [], w, none, fun _ => False, fun _ => undef⟩ σ a w := by
  have ho : ∀ id, σ.obj id = none := fun id => by unfold St.obj; rw [hh]; rfl
  refine ⟨fun _ => False, fun _ => none, ⟨BelowX.refl _ _ _, (fun _ h => h.elim), Nat.le_refl _, ⟨(by rw [hd]; exact ⟨List.nodup_nil, fun _ => rfl⟩), fun d h => (by rw [hd] at h; cases h)⟩, ⟨Nat.le_refl _, (fun B h => by cases h), fun _ _ h _ _ => h⟩, (fun h => absurd rfl h), (fun B h => by cases h), fun d v h => ((hgl d v (by simpa using h)).mono (fun a u h => ⟨h.1, (fun _ _ e => by cases e), .inl trivial, fun B h => by cases h⟩) (fun _ h => h) fun _ _ h => h.elim), hs, fun t => ?_, (fun id o h => by rw [ho] at h; cases h), (fun _ _ _ _ _ h => by cases h), (fun _ _ _ h => by cases h), (fun _ _ h => by cases h), fun t ht => by rw [hlo] at ht; exact absurd ht (Nat.not_lt_zero t)⟩, fun _ h => h.elim⟩
  exact (ht t).mono (fun a u h => ⟨h.1, (fun _ _ e => by cases e), .inl trivial, fun B h => by cases h⟩) (fun _ h => h) fun _ _ h => h.elim
end
end Go.Abs
