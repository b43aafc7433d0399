/- A region that draws its order: whatever order its edges let comes to the state that the text's own order comes to, where operations that are not ordered do not meet. A region that draws its order, whole. -/
import Derived.Test.YtdhnfeoigmeopaaDoorAbsO
section
namespace Go.Abs
open Go.RowKit
def pickW {α : Type} (b : Bool) (x : Option α) (init : α) : α := match b, x with
  | true, some v => v
  | _, _ => init
def lastW {α : Type} : List (Option α) → (Nat → Bool) → Nat → α → α
  | [], _, _, init => init
  | x :: r, L, k, init => lastW r L (k + 1) (pickW (L k) x init)
theorem lastW_none {α : Type} : ∀ (ws : List (Option α)) (L : Nat → Bool) (k : Nat) (init : α), (∀ j v, ws[j]? = some (some v) → L (k + j) = false) → lastW ws L k init = init
  | [], _, _, _, _ => rfl
  | x :: r, L, k, init, h => by
    have h0 : pickW (L k) x init = init := by
      cases x with
      | none => cases L k <;> rfl
      | some v => have := h 0 v rfl; simp at this; rw [this]; rfl
    simp only [lastW, h0]
    exact lastW_none r L (k + 1) init fun j v hj => by have := h (j + 1) v (by simpa using hj); rwa [show k + 1 + j = k + (j + 1) by omega]
theorem lastW_read {α : Type} (K : Nat) (L : Nat → Bool) (hK : L K = false) : ∀ (ws : List (Option α)) (k : Nat) (init : α), k ≤ K →
    (∀ j v, ws[j]? = some (some v) → (k + j < K → L (k + j) = true) ∧ (K < k + j → L (k + j) = false)) → lastW ws L k init = lastW (ws.take (K - k)) (fun _ => true) k init
  | [], k, init, _, _ => by simp [lastW]
  | x :: r, k, init, hk, h => by
    rcases Nat.lt_or_eq_of_le hk with hlt | rfl
    · have e : K - k = (K - (k + 1)) + 1 := by omega
      rw [e, List.take_succ_cons]
      simp only [lastW]
      have h0 : pickW (L k) x init = pickW true x init := by
        cases x with
        | none => cases L k <;> rfl
        | some v => have := (h 0 v rfl).1 (by omega); simp at this; rw [this]
      rw [h0]
      exact lastW_read K L hK r (k + 1) _ (by omega) fun j v hj => by
        have := h (j + 1) v (by simpa using hj)
        rwa [show k + 1 + j = k + (j + 1) by omega]
    · rw [Nat.sub_self, List.take_zero]
      exact lastW_none _ _ _ _ fun j v hj => by
        rcases Nat.eq_zero_or_pos j with rfl | hp
        · simpa using hK
        · exact (h j v hj).2 (by omega)
theorem lastW_put {α : Type} (K : Nat) (L : Nat → Bool) : ∀ (ws : List (Option α)) (k : Nat) (init : α), k ≤ K → (∀ v, ws[K - k]? = some (some v) → ∀ j u, ws[j]? = some (some u) → K < k + j → L (k + j) = false) →
    lastW ws (fun i => L i || decide (i = K)) k init = match ws[K - k]? with | some (some v) => v | _ => lastW ws L k init
  | [], k, init, _, _ => by simp [lastW]
  | x :: r, k, init, hk, h => by
    rcases Nat.lt_or_eq_of_le hk with hlt | rfl
    · have e : K - k = (K - (k + 1)) + 1 := by omega
      simp only [lastW]
      have h0 : decide (k = K) = false := by simp; omega
      rw [h0, Bool.or_false, e, List.getElem?_cons_succ]
      exact lastW_put K L r (k + 1) _ (by omega) fun v hv j u hj hlt => by
        have := h v (by rw [e, List.getElem?_cons_succ]; exact hv) (j + 1) u (by simpa using hj) (by omega)
        rwa [show k + 1 + j = k + (j + 1) by omega]
    · rw [Nat.sub_self] at h ⊢
      simp only [lastW, List.getElem?_cons_zero, decide_true, Bool.or_true]
      cases x with
      | some v =>
        simp only [pickW]
        refine lastW_none _ _ _ _ fun j u hj => ?_
        have := h v rfl (j + 1) u (by simpa using hj) (by omega)
        have e : decide (k + 1 + j = k) = false := by simp; omega
        rw [show k + 1 + j = k + (j + 1) by omega, this]
        simp
      | none =>
        have h0 : ∀ b, pickW b (none : Option α) init = init := fun b => by cases b <;> rfl
        simp only [h0]
        have : ∀ (r : List (Option α)) (q : Nat) (init : α), k < q → lastW r (fun i => L i || decide (i = k)) q init = lastW r L q init := by
          intro r
          induction r with
          | nil => intro q init _; rfl
          | cons y r ih =>
            intro q init hq
            have e : decide (q = k) = false := by simp; omega
            simp only [lastW, e, Bool.or_false]
            exact ih (q + 1) _ (by omega)
        exact this r (k + 1) init (by omega)
theorem look_append {α : Type} : ∀ (l m : List (Nat × α)) (i : Nat), look (l ++ m) i = match look l i with | some v => some v | none => look m i
  | [], m, i => rfl
  | (k, v) :: r, m, i => by
    simp only [List.cons_append, look_cons]
    by_cases h : k = i
    · simp [h]
    · simp only [if_neg h]; exact look_append r m i
theorem St.get_eff (σ : St) (dst : Option Tmp) (e : Eff) (t : Nat) : (σ.eff dst e).get t = if dst = some t then e.d else σ.get t := by
  cases dst with
  | none => simp [St.eff, St.get]
  | some d =>
    unfold St.get St.eff
    simp only [look_cons, Option.some.injEq]
    by_cases h : d = t <;> simp [h]
theorem St.obj_eff (σ : St) (dst : Option Tmp) (e : Eff) (id : Nat) : (σ.eff dst e).obj id = match look e.hw id with | some o => o | none => σ.obj id := by
  unfold St.obj St.eff
  simp only [look_append]
  cases look e.hw id <;> rfl
abbrev Tr := List (Option Tmp × Eff)
def stepS (b : Bool) (x : Option Tmp × Eff) (σ : St) : St := match b with
  | true => σ.eff x.1 x.2
  | false => σ
def canon : Tr → (Nat → Bool) → Nat → St → St
  | [], _, _, σ => σ
  | x :: r, L, k, σ => canon r L (k + 1) (stepS (L k) x σ)
def tW (t : Nat) (x : Option Tmp × Eff) : Option DV := if x.1 = some t then some x.2.d else none
def hW (id : Nat) (x : Option Tmp × Eff) : Option (Option AObj) := look x.2.hw id
theorem get_canon (t : Nat) : ∀ (tr : Tr) (L : Nat → Bool) (k : Nat) (σ : St), (canon tr L k σ).get t = lastW (tr.map (tW t)) L k (σ.get t)
  | [], _, _, _ => rfl
  | x :: r, L, k, σ => by
    simp only [canon, List.map_cons, lastW]
    rw [get_canon t r L (k + 1)]
    congr 1
    cases L k with
    | false => rfl
    | true =>
      simp only [stepS, pickW, St.get_eff, tW]
      by_cases h : x.1 = some t <;> simp [h]
theorem obj_canon (id : Nat) : ∀ (tr : Tr) (L : Nat → Bool) (k : Nat) (σ : St), (canon tr L k σ).obj id = lastW (tr.map (hW id)) L k (σ.obj id)
  | [], _, _, _ => rfl
  | x :: r, L, k, σ => by
    simp only [canon, List.map_cons, lastW]
    rw [obj_canon id r L (k + 1)]
    congr 1
    cases L k with
    | false => rfl
    | true =>
      simp only [stepS, pickW, St.obj_eff, hW]
      cases look x.2.hw id <;> rfl
theorem nx_canon : ∀ (tr : Tr) (L : Nat → Bool) (k : Nat) (σ : St), (canon tr L k σ).nx = σ.nx ∧ (canon tr L k σ).nt = σ.nt
  | [], _, _, _ => ⟨rfl, rfl⟩
  | x :: r, L, k, σ => by
    simp only [canon]
    have := nx_canon r L (k + 1) (stepS (L k) x σ)
    cases hL : L k <;> (rw [hL] at this; exact this)
theorem rl_canon : ∀ (tr : Tr) (L : Nat → Bool) (k : Nat) (σ : St), (canon tr L k σ).rn = σ.rn ∧ (canon tr L k σ).lo = σ.lo
  | [], _, _, _ => ⟨rfl, rfl⟩
  | x :: r, L, k, σ => by
    simp only [canon]
    have := rl_canon r L (k + 1) (stepS (L k) x σ)
    cases hL : L k <;> (rw [hL] at this; exact this)
def trace (P : Program) (ops : Array Oper) (orc : List (Nat × Orc)) (n0 : Nat) : List Oper → Nat → St → Tr
  | [], _, _ => []
  | o :: r, k, σ => (o.dst, opEff P ops (orcAt orc k) (n0 + k) σ o) :: trace P ops orc n0 r (k + 1) (σ.eff o.dst (opEff P ops (orcAt orc k) (n0 + k) σ o))
section
variable {P : Program} {ops : Array Oper} {orc : List (Nat × Orc)} {n0 : Nat}
theorem trace_len : ∀ (l : List Oper) (k : Nat) (σ : St), (trace P ops orc n0 l k σ).length = l.length
  | [], _, _ => rfl
  | o :: r, k, σ => by simp only [trace, List.length_cons, trace_len r]
theorem trace_spec : ∀ (l : List Oper) (k : Nat) (σ : St) (j : Nat) (o : Oper), l[j]? = some o →
    (trace P ops orc n0 l k σ)[j]? = some (o.dst, opEff P ops (orcAt orc (k + j)) (n0 + (k + j)) (canon ((trace P ops orc n0 l k σ).take j) (fun _ => true) k σ) o)
  | [], _, _, j, o, h => by simp at h
  | p :: r, k, σ, 0, o, h => by
    simp only [List.getElem?_cons_zero, Option.some.injEq] at h
    subst h
    simp [trace, canon]
  | p :: r, k, σ, j + 1, o, h => by
    simp only [List.getElem?_cons_succ] at h
    simp only [trace, List.getElem?_cons_succ, List.take_succ_cons, canon, stepS]
    rw [trace_spec r (k + 1) _ j o h, show k + 1 + j = k + (j + 1) by omega]
theorem runOps_trace : ∀ (l : List Oper) (k : Nat) (σ : St) (vc : List Prop), (runOps P ops orc n0 l k σ vc).1 = canon (trace P ops orc n0 l k σ) (fun _ => true) k σ
  | [], _, _, _ => rfl
  | o :: r, k, σ, vc => by
    simp only [runOps, trace, canon, stepS]
    exact runOps_trace r (k + 1) _ _
theorem runOps_each : ∀ (l : List Oper) (k : Nat) (σ : St) (vc : List Prop), AllP (runOps P ops orc n0 l k σ vc).2 → ∀ (j : Nat) (d : Option Tmp) (e : Eff), (trace P ops orc n0 l k σ)[j]? = some (d, e) → dstOK σ.nt σ.lo d = true ∧ AllP e.vc
  | [], _, _, _, _, j, d, e, h => by simp [trace] at h
  | o :: r, k, σ, vc, hvc, 0, d, e, h => by
    simp only [trace, List.getElem?_cons_zero, Option.some.injEq, Prod.mk.injEq] at h
    obtain ⟨rfl, rfl⟩ := h
    simp only [runOps] at hvc
    have hme := runOps_vc (P := P) ops orc n0 r (k + 1) (σ.eff o.dst (opEff P ops (orcAt orc k) (n0 + k) σ o)) (vc ++ (bif dstOK σ.nt σ.lo o.dst then (opEff P ops (orcAt orc k) (n0 + k) σ o).vc else [False]))
    cases hd : dstOK σ.nt σ.lo o.dst with
    | false =>
      simp only [hd, cond_false] at hme hvc
      exact (hvc False (hme False (by simp))).elim
    | true =>
      simp only [hd, cond_true] at hme hvc
      exact ⟨rfl, fun p hp => hvc p (hme p (List.mem_append_right _ hp))⟩
  | o :: r, k, σ, vc, hvc, j + 1, d, e, h => by
    simp only [trace, List.getElem?_cons_succ] at h
    simp only [runOps] at hvc
    exact runOps_each r (k + 1) _ _ hvc j d e h
structure Foot where
  tr : List Nat
  tw : Option Nat
  hr : List Nat
  hw : List Nat
def has : List Nat → Nat → Bool
  | [], _ => false
  | x :: r, i => bif Nat.beq x i then true else has r i
theorem has_mem : ∀ {l : List Nat} {i : Nat}, i ∈ l → has l i = true
  | x :: r, i, h => by
    simp only [has]
    rcases List.mem_cons.1 h with rfl | h
    · simp
    · cases Nat.beq x i
      · exact has_mem h
      · rfl
def meetL (l m : List Nat) : Bool := match l with
  | [] => false
  | x :: r => bif has m x then true else meetL r m
theorem meetL_mem : ∀ {l m : List Nat} {i : Nat}, i ∈ l → i ∈ m → meetL l m = true
  | x :: r, m, i, h, hm => by
    simp only [meetL]
    rcases List.mem_cons.1 h with rfl | h
    · rw [has_mem hm]; rfl
    · cases has m x
      · exact meetL_mem h hm
      · rfl
def optL : Option Nat → List Nat
  | some t => [t]
  | none => []
def meets (f g : Foot) : Bool := meetL (optL f.tw) (optL g.tw ++ g.tr) || (meetL (optL g.tw) f.tr || (meetL f.hw (g.hw ++ g.hr) || meetL g.hw f.hr))
def footOf (ops : Array Oper) (σ : St) (o : Oper) (e : Eff) : Foot := { tr := tmpReads ops o, tw := o.dst, hr := objReads σ (lookOps o.op), hw := e.hw.map (·.1) }
def feet (P : Program) (ops : Array Oper) (orc : List (Nat × Orc)) (n0 : Nat) : List Oper → Nat → St → List Foot
  | [], _, _ => []
  | o :: r, k, σ => footOf ops σ o (opEff P ops (orcAt orc k) (n0 + k) σ o) :: feet P ops orc n0 r (k + 1) (σ.eff o.dst (opEff P ops (orcAt orc k) (n0 + k) σ o))
theorem feet_spec : ∀ (l : List Oper) (k : Nat) (σ : St) (j : Nat) (o : Oper), l[j]? = some o →
    (feet P ops orc n0 l k σ)[j]? = some (footOf ops (canon ((trace P ops orc n0 l k σ).take j) (fun _ => true) k σ) o (opEff P ops (orcAt orc (k + j)) (n0 + (k + j)) (canon ((trace P ops orc n0 l k σ).take j) (fun _ => true) k σ) o))
  | [], _, _, j, o, h => by simp at h
  | p :: r, k, σ, 0, o, h => by
    simp only [List.getElem?_cons_zero, Option.some.injEq] at h
    subst h
    simp [feet, canon]
  | p :: r, k, σ, j + 1, o, h => by
    simp only [List.getElem?_cons_succ] at h
    simp only [feet, trace, List.getElem?_cons_succ, List.take_succ_cons, canon, stepS]
    rw [feet_spec r (k + 1) _ j o h, show k + 1 + j = k + (j + 1) by omega]
def aheadOf (acc : List Nat) : List Edge → Nat → Nat
  | [], s => s
  | e :: r, s => aheadOf acc r (bif Region.binds .any e then s ||| (2 ^ e.on ||| acc.getD e.on 0) else s)
def aheads : List Oper → List Nat → List Nat
  | [], acc => acc
  | o :: r, acc => aheads r (acc ++ [aheadOf acc o.after.toList 0])
def edgesOK (tbl : List Nat) (i : Nat) : List Edge → Bool
  | [] => false
  | e :: r => bif Region.binds .any e && (Nat.beq e.on i || (tbl.getD e.on 0).testBit i) then true else edgesOK tbl i r
def downOK (j : Nat) : List Edge → Bool
  | [] => true
  | e :: r => bif Region.binds .any e then (bif Nat.blt e.on j then downOK j r else false) else downOK j r
def closedOK (tbl : List Nat) (o : Oper) (b : Nat) : Nat → Bool
  | 0 => true
  | n + 1 => bif b.testBit n then (bif edgesOK tbl n o.after.toList then closedOK tbl o b n else false) else closedOK tbl o b n
def pairsOK (f : Foot) (b : Nat) : List Foot → Nat → Bool
  | [], _ => true
  | g :: r, i => bif meets g f then (bif b.testBit i then pairsOK f b r (i + 1) else false) else pairsOK f b r (i + 1)
def orderOK (tbl : List Nat) (fs : List Foot) : List Oper → List Foot → Nat → Bool
  | o :: r, f :: q, j => pairsOK f (tbl.getD j 0) (fs.take j) 0 && (closedOK tbl o (tbl.getD j 0) fs.length && (downOK j o.after.toList && orderOK tbl fs r q (j + 1)))
  | [], [], _ => true
  | _, _, _ => false
theorem pairsOK_spec {f : Foot} {b : Nat} : ∀ {l : List Foot} {i0 : Nat}, pairsOK f b l i0 = true → ∀ (i : Nat) (g : Foot), l[i]? = some g → meets g f = true → b.testBit (i0 + i) = true
  | [], _, _, i, g, h, _ => by simp at h
  | g' :: r, i0, hok, 0, g, h, hm => by
    simp only [List.getElem?_cons_zero, Option.some.injEq] at h
    subst h
    simp only [pairsOK, hm, cond_true] at hok
    cases hb : b.testBit i0 with
    | true => simp
    | false => simp [hb] at hok
  | g' :: r, i0, hok, i + 1, g, h, hm => by
    simp only [List.getElem?_cons_succ] at h
    have hr : pairsOK f b r (i0 + 1) = true := by
      simp only [pairsOK] at hok
      cases hm' : meets g' f with
      | false => simpa [hm'] using hok
      | true =>
        simp only [hm', cond_true] at hok
        cases hb : b.testBit i0 with
        | true => simpa [hb] using hok
        | false => simp [hb] at hok
    have := pairsOK_spec hr i g h hm
    rwa [show i0 + 1 + i = i0 + (i + 1) by omega] at this
theorem closedOK_spec {tbl : List Nat} {o : Oper} {b : Nat} : ∀ {n : Nat}, closedOK tbl o b n = true → ∀ i, i < n → b.testBit i = true → edgesOK tbl i o.after.toList = true
  | 0, _, i, hi, _ => by omega
  | n + 1, h, i, hi, hb => by
    simp only [closedOK] at h
    cases hn : b.testBit n with
    | false =>
      simp only [hn, cond_false] at h
      have : i ≠ n := fun e => by rw [e, hn] at hb; cases hb
      exact closedOK_spec h i (by omega) hb
    | true =>
      simp only [hn, cond_true] at h
      cases he : edgesOK tbl n o.after.toList with
      | false => simp [he] at h
      | true =>
        simp only [he, cond_true] at h
        rcases Nat.lt_or_eq_of_le (Nat.le_of_lt_succ hi) with hlt | rfl
        · exact closedOK_spec h i hlt hb
        · exact he
theorem edgesOK_spec {tbl : List Nat} {i : Nat} : ∀ {l : List Edge}, edgesOK tbl i l = true → ∃ e ∈ l, Region.binds .any e = true ∧ (e.on = i ∨ (tbl.getD e.on 0).testBit i = true)
  | [], h => by simp [edgesOK] at h
  | e :: r, h => by
    simp only [edgesOK] at h
    cases hb : (Region.binds .any e && (Nat.beq e.on i || (tbl.getD e.on 0).testBit i)) with
    | true =>
      simp only [Bool.and_eq_true, Bool.or_eq_true] at hb
      refine ⟨e, List.mem_cons_self, hb.1, ?_⟩
      rcases hb.2 with h2 | h2
      · exact .inl (Nat.eq_of_beq_eq_true h2)
      · exact .inr h2
    | false =>
      simp only [hb, cond_false] at h
      obtain ⟨e', he', h'⟩ := edgesOK_spec h
      exact ⟨e', List.mem_cons_of_mem _ he', h'⟩
theorem downOK_spec {j : Nat} : ∀ {l : List Edge}, downOK j l = true → ∀ e ∈ l, Region.binds .any e = true → e.on < j
  | [], _, e, he, _ => by cases he
  | x :: r, h, e, he, hb => by
    simp only [downOK] at h
    have hr : downOK j r = true := by
      cases hx : Region.binds .any x with
      | false => simpa [hx] using h
      | true =>
        simp only [hx, cond_true] at h
        cases hl : Nat.blt x.on j with
        | true => simpa [hl] using h
        | false => simp [hl] at h
    rcases List.mem_cons.1 he with rfl | he
    · simp only [hb, cond_true] at h
      cases hl : Nat.blt e.on j with
      | true => exact Nat.le_of_ble_eq_true hl
      | false => simp [hl] at h
    · exact downOK_spec hr e he hb
theorem orderOK_spec {tbl : List Nat} {fs : List Foot} : ∀ {l : List Oper} {q : List Foot} {j0 : Nat}, orderOK tbl fs l q j0 = true → ∀ (j : Nat) (o : Oper) (f : Foot), l[j]? = some o → q[j]? = some f →
    pairsOK f (tbl.getD (j0 + j) 0) (fs.take (j0 + j)) 0 = true ∧ closedOK tbl o (tbl.getD (j0 + j) 0) fs.length = true ∧ downOK (j0 + j) o.after.toList = true
  | [], _, _, _, j, o, f, h, _ => by simp at h
  | o' :: r, [], _, h, _, _, _, _, _ => by simp [orderOK] at h
  | o' :: r, f' :: q, j0, hok, 0, o, f, h1, h2 => by
    simp only [List.getElem?_cons_zero, Option.some.injEq] at h1 h2
    subst h1 h2
    simp only [orderOK, Bool.and_eq_true] at hok
    exact ⟨hok.1, hok.2.1, hok.2.2.1⟩
  | o' :: r, f' :: q, j0, hok, j + 1, o, f, h1, h2 => by
    simp only [List.getElem?_cons_succ] at h1 h2
    simp only [orderOK, Bool.and_eq_true] at hok
    have := orderOK_spec hok.2.2.2 j o f h1 h2
    rwa [show j0 + 1 + j = j0 + (j + 1) by omega] at this
end
end Go.Abs
end
section
namespace Go.Abs
open Go.RowKit
theorem countP_drop {α : Type} (p q : α → Bool) (hpq : ∀ x, q x = true → p x = true) : ∀ (l : List α) (i : α), i ∈ l → p i = true → q i = false → l.countP q < l.countP p
  | x :: r, i, h, hp, hq => by
    have hle : ∀ (l : List α), l.countP q ≤ l.countP p := fun l => by
      induction l with
      | nil => simp
      | cons y l ih =>
        simp only [List.countP_cons]
        have := hpq y
        cases hy : q y with
        | false => simp; omega
        | true => simp [this hy]; exact ih
    simp only [List.countP_cons]
    rcases List.mem_cons.1 h with rfl | h
    · have := hle r
      simp [hp, hq]; omega
    · have := countP_drop p q hpq r i h hp hq
      have h2 := hpq x
      cases hx : q x with
      | false => simp; omega
      | true => simp [h2 hx]; exact this
section
variable {P : Program} {ro : Option Nat} {m : Nat} {ops : Array Oper} {orc : List (Nat × Orc)} {base : Nat} {w0 : World} {S0 : Env} {Q : Exit → Act → World → Prop}
theorem meets_t {f g : Foot} {t : Nat} (hf : f.tw = some t) (hg : g.tw = some t ∨ t ∈ g.tr) : meets f g = true := by
  unfold meets
  have : meetL (optL f.tw) (optL g.tw ++ g.tr) = true := meetL_mem (i := t) (by rw [hf]; exact List.mem_singleton.2 rfl) (by
    rcases hg with h | h
    · rw [h]; exact List.mem_cons_self
    · exact List.mem_append_right _ h)
  rw [this]; rfl
theorem meets_t' {f g : Foot} {t : Nat} (hg : g.tw = some t) (hf : t ∈ f.tr) : meets f g = true := by
  unfold meets
  have : meetL (optL g.tw) f.tr = true := meetL_mem (i := t) (by rw [hg]; exact List.mem_singleton.2 rfl) hf
  rw [this]; simp
theorem meets_h {f g : Foot} {i : Nat} (hf : i ∈ f.hw) (hg : i ∈ g.hw ∨ i ∈ g.hr) : meets f g = true := by
  unfold meets
  have : meetL f.hw (g.hw ++ g.hr) = true := meetL_mem hf (List.mem_append.2 hg)
  rw [this]; simp
theorem meets_h' {f g : Foot} {i : Nat} (hg : i ∈ g.hw) (hf : i ∈ f.hr) : meets f g = true := by
  unfold meets
  have : meetL g.hw f.hr = true := meetL_mem hg hf
  rw [this]; simp
theorem look_mem {α : Type} : ∀ {l : List (Nat × α)} {i : Nat} {v : α}, look l i = some v → i ∈ l.map (·.1)
  | (k, x) :: r, i, v, h => by
    rw [look_cons] at h
    by_cases e : k = i
    · simp [e]
    · rw [if_neg e] at h
      exact List.mem_cons_of_mem _ (look_mem h)
structure Setup (P : Program) (ops : Array Oper) (orc : List (Nat × Orc)) (base : Nat) (w0 : World) (S0 : Env) (Q : Exit → Act → World → Prop) (n0 : Nat) (σ : St) : Prop where
  vc : ∀ (j : Nat) (d : Option Tmp) (e : Eff), (trace P ops orc n0 ops.toList 0 σ)[j]? = some (d, e) → dstOK σ.nt σ.lo d = true ∧ AllP e.vc
  ord : orderOK (aheads ops.toList []) (feet P ops orc n0 ops.toList 0 σ) ops.toList (feet P ops orc n0 ops.toList 0 σ) 0 = true
  fin : ∀ kn blk a w, R base w0 S0 (canon (trace P ops orc n0 ops.toList 0 σ) (fun _ => true) 0 σ) kn blk a w → (∀ i, kn i → i < n0 + ops.size) → Q .normal a w
variable {n0 : Nat} {σ : St}
theorem feet_len : ∀ (l : List Oper) (k : Nat) (σ : St), (feet P ops orc n0 l k σ).length = l.length
  | [], _, _ => rfl
  | o :: r, k, σ => by simp only [feet, List.length_cons, feet_len r]
def pre (ops : Array Oper) (j i : Nat) : Bool := ((aheads ops.toList []).getD j 0).testBit i
theorem Setup.down (s : Setup P ops orc base w0 S0 Q n0 σ) {j : Nat} {o : Oper} (ho : ops[j]? = some o) : (∀ e ∈ o.after.toList, Region.binds .any e = true → e.on < j) ∧
    (∀ i, i < ops.size → pre ops j i = true → ∃ e ∈ o.after.toList, Region.binds .any e = true ∧ (e.on = i ∨ pre ops e.on i = true)) := by
  have ho' : ops.toList[j]? = some o := by simpa using ho
  have hj : j < ops.size := (Array.getElem?_eq_some_iff.1 ho).1
  have hf : (feet P ops orc n0 ops.toList 0 σ)[j]? = some ((feet P ops orc n0 ops.toList 0 σ)[j]'(by rw [feet_len]; simpa using hj)) := List.getElem?_eq_getElem _
  obtain ⟨_, h2, h3⟩ := orderOK_spec s.ord j o _ ho' hf
  rw [Nat.zero_add] at h2 h3
  refine ⟨downOK_spec h3, fun i hi hp => ?_⟩
  rw [feet_len] at h2
  obtain ⟨e, he, hb, h⟩ := edgesOK_spec (closedOK_spec h2 i (by simpa using hi) hp)
  exact ⟨e, he, hb, h⟩
theorem Setup.pair (s : Setup P ops orc base w0 S0 Q n0 σ) {i j : Nat} {f g : Foot} (hij : i < j) (hf : (feet P ops orc n0 ops.toList 0 σ)[i]? = some f) (hg : (feet P ops orc n0 ops.toList 0 σ)[j]? = some g) (hm : meets f g = true) :
    pre ops j i = true := by
  have hj : j < ops.toList.length := by rw [← feet_len (P := P) (ops := ops) (orc := orc) (n0 := n0) ops.toList 0 σ]; exact (List.getElem?_eq_some_iff.1 hg).1
  obtain ⟨h1, _, _⟩ := orderOK_spec s.ord j _ g (List.getElem?_eq_getElem hj) hg
  rw [Nat.zero_add] at h1
  have := pairsOK_spec h1 i f (by rw [List.getElem?_take, if_pos hij]; exact hf) hm
  rwa [Nat.zero_add] at this
theorem Setup.step (s : Setup P ops orc base w0 S0 Q n0 σ) {L : Nat → Bool} (hdown : ∀ j, j < ops.size → L j = true → ∀ i, i < ops.size → pre ops j i = true → L i = true) {K : Nat} {o : Oper} (ho : ops[K]? = some o) (hK : L K = false)
    (hpre : ∀ i, i < ops.size → pre ops K i = true → L i = true) {d : Option Tmp} {e : Eff} (he : (trace P ops orc n0 ops.toList 0 σ)[K]? = some (d, e)) :
    d = o.dst ∧ opEff P ops (orcAt orc K) (n0 + K) (canon (trace P ops orc n0 ops.toList 0 σ) L 0 σ) o = e ∧
    (∀ t, ((canon (trace P ops orc n0 ops.toList 0 σ) L 0 σ).eff d e).get t = (canon (trace P ops orc n0 ops.toList 0 σ) (fun i => L i || decide (i = K)) 0 σ).get t) ∧
    (∀ i, ((canon (trace P ops orc n0 ops.toList 0 σ) L 0 σ).eff d e).obj i = (canon (trace P ops orc n0 ops.toList 0 σ) (fun i => L i || decide (i = K)) 0 σ).obj i) := by
  have ho' : ops.toList[K]? = some o := by simpa using ho
  have hKs : K < ops.size := (Array.getElem?_eq_some_iff.1 ho).1
  have hsp := trace_spec (P := P) (ops := ops) (orc := orc) (n0 := n0) ops.toList 0 σ K o ho'
  rw [hsp] at he
  simp only [Nat.zero_add, Option.some.injEq, Prod.mk.injEq] at he
  obtain ⟨rfl, he⟩ := he
  have hfK := feet_spec (P := P) (ops := ops) (orc := orc) (n0 := n0) ops.toList 0 σ K o ho'
  simp only [Nat.zero_add] at hfK hsp
  rw [he] at hfK hsp
  -- a place that K reads or writes: whoever else writes it is on the right side
  have side : ∀ (j : Nat) (dj : Option Tmp) (ej : Eff), (trace P ops orc n0 ops.toList 0 σ)[j]? = some (dj, ej) → j ≠ K →
      ((∃ t, dj = some t ∧ (o.dst = some t ∨ t ∈ tmpReads ops o)) ∨ (∃ i, i ∈ ej.hw.map (·.1) ∧ (i ∈ e.hw.map (·.1) ∨ i ∈ objReads (canon ((trace P ops orc n0 ops.toList 0 σ).take K) (fun _ => true) 0 σ) (lookOps o.op)))) →
      (j < K → L j = true) ∧ (K < j → L j = false) := by
    intro j dj ej hj hne hm
    have hjl : j < ops.toList.length := by
      have := (List.getElem?_eq_some_iff.1 hj).1
      rwa [trace_len] at this
    have hoj : ops.toList[j]? = some ops.toList[j] := List.getElem?_eq_getElem hjl
    have hspj := trace_spec (P := P) (ops := ops) (orc := orc) (n0 := n0) ops.toList 0 σ j _ hoj
    rw [hspj] at hj
    simp only [Nat.zero_add, Option.some.injEq, Prod.mk.injEq] at hj
    obtain ⟨rfl, hej⟩ := hj
    have hfj := feet_spec (P := P) (ops := ops) (orc := orc) (n0 := n0) ops.toList 0 σ j _ hoj
    simp only [Nat.zero_add] at hfj
    rw [hej] at hfj
    refine ⟨fun hlt => ?_, fun hlt => ?_⟩
    · refine hpre j (by simpa using hjl) (s.pair hlt hfj hfK ?_)
      rcases hm with ⟨t, h1, h2⟩ | ⟨i, h1, h2⟩
      · exact meets_t (t := t) h1 h2
      · exact meets_h (i := i) h1 h2
    · have hp : pre ops j K = true := by
        refine s.pair hlt hfK hfj ?_
        rcases hm with ⟨t, h1, h2 | h2⟩ | ⟨i, h1, h2 | h2⟩
        · exact meets_t (t := t) h2 (.inl h1)
        · exact meets_t' (t := t) h1 h2
        · exact meets_h (i := i) h2 (.inl h1)
        · exact meets_h' (i := i) h1 h2
      cases hLj : L j with
      | false => rfl
      | true =>
        have := hdown j (by simpa using hjl) hLj K hKs hp
        rw [hK] at this; cases this
  have readT : ∀ t, (o.dst = some t ∨ t ∈ tmpReads ops o) → (canon (trace P ops orc n0 ops.toList 0 σ) L 0 σ).get t = (canon ((trace P ops orc n0 ops.toList 0 σ).take K) (fun _ => true) 0 σ).get t := by
    intro t ht
    rw [get_canon, get_canon, List.map_take]
    refine lastW_read K L hK _ 0 _ (Nat.zero_le _) fun j v hj => ?_
    rw [Nat.zero_add]
    rw [List.getElem?_map] at hj
    cases hx : (trace P ops orc n0 ops.toList 0 σ)[j]? with
    | none => simp [hx] at hj
    | some x =>
      obtain ⟨dj, ej⟩ := x
      simp only [hx, Option.map_some, Option.some.injEq, tW] at hj
      by_cases hjK : j = K
      · subst hjK; exact ⟨fun h => by omega, fun h => by omega⟩
      · split at hj
        · rename_i hd
          exact side j dj ej hx hjK (.inl ⟨t, hd, ht⟩)
        · cases hj
  have readH : ∀ i, (i ∈ e.hw.map (·.1) ∨ i ∈ objReads (canon ((trace P ops orc n0 ops.toList 0 σ).take K) (fun _ => true) 0 σ) (lookOps o.op)) → (canon (trace P ops orc n0 ops.toList 0 σ) L 0 σ).obj i = (canon ((trace P ops orc n0 ops.toList 0 σ).take K) (fun _ => true) 0 σ).obj i := by
    intro i hi
    rw [obj_canon, obj_canon, List.map_take]
    refine lastW_read K L hK _ 0 _ (Nat.zero_le _) fun j v hj => ?_
    rw [Nat.zero_add]
    rw [List.getElem?_map] at hj
    cases hx : (trace P ops orc n0 ops.toList 0 σ)[j]? with
    | none => simp [hx] at hj
    | some x =>
      obtain ⟨dj, ej⟩ := x
      simp only [hx, Option.map_some, Option.some.injEq, hW] at hj
      by_cases hjK : j = K
      · subst hjK; exact ⟨fun h => by omega, fun h => by omega⟩
      · exact side j dj ej hx hjK (.inr ⟨i, look_mem hj, hi⟩)
  refine ⟨rfl, ?_, fun t => ?_, fun i => ?_⟩
  · rw [← he]
    exact (opEff_local (fun t ht => (readT t (.inr ht)).symm) (fun i hi => (readH i (.inr hi)).symm) ((rl_canon _ _ _ _).1.trans (rl_canon _ _ _ _).1.symm) (fun i hi => (readH i (.inl (by rw [he] at hi; exact hi))).symm)).symm
  · rw [St.get_eff, get_canon t _ (fun i => L i || decide (i = K))]
    have hput := lastW_put K L ((trace P ops orc n0 ops.toList 0 σ).map (tW t)) 0 (σ.get t) (Nat.zero_le _) (fun v hv j u hj hlt => by
      rw [Nat.zero_add] at hlt ⊢
      rw [Nat.sub_zero, List.getElem?_map, hsp] at hv
      simp only [Option.map_some, Option.some.injEq, tW] at hv
      split at hv
      · rename_i hd
        rw [List.getElem?_map] at hj
        cases hx : (trace P ops orc n0 ops.toList 0 σ)[j]? with
        | none => simp [hx] at hj
        | some x =>
          obtain ⟨dj, ej⟩ := x
          simp only [hx, Option.map_some, Option.some.injEq, tW] at hj
          split at hj
          · rename_i hdj
            exact (side j dj ej hx (by omega) (.inl ⟨t, hdj, .inl hd⟩)).2 hlt
          · cases hj
      · cases hv)
    rw [hput, Nat.sub_zero, List.getElem?_map, hsp]
    simp only [Option.map_some, tW]
    by_cases hd : o.dst = some t
    · simp [hd]
    · simp only [hd, if_false, get_canon]
  · rw [St.obj_eff, obj_canon i _ (fun i => L i || decide (i = K))]
    have hput := lastW_put K L ((trace P ops orc n0 ops.toList 0 σ).map (hW i)) 0 (σ.obj i) (Nat.zero_le _) (fun v hv j u hj hlt => by
      rw [Nat.zero_add] at hlt ⊢
      rw [Nat.sub_zero, List.getElem?_map, hsp] at hv
      simp only [Option.map_some, Option.some.injEq, hW] at hv
      rw [List.getElem?_map] at hj
      cases hx : (trace P ops orc n0 ops.toList 0 σ)[j]? with
      | none => simp [hx] at hj
      | some x =>
        obtain ⟨dj, ej⟩ := x
        simp only [hx, Option.map_some, Option.some.injEq, hW] at hj
        exact (side j dj ej hx (by omega) (.inr ⟨i, look_mem hj, .inl (look_mem hv)⟩)).2 hlt)
    rw [hput, Nat.sub_zero, List.getElem?_map, hsp]
    simp only [Option.map_some, hW]
    cases hl : look e.hw i with
    | some v => rfl
    | none => simp only [obj_canon]
theorem Setup.any (s : Setup P ops orc base w0 S0 Q n0 σ) : ∀ (n : Nat) (listed : Array Bool) (kn : Nat → Prop) (blk : Nat → Option Loc) (a : Act) (w : World), listed.size = ops.size →
    (List.range ops.size).countP (fun i => !listed.getD i true) ≤ n →
    (∀ j, j < ops.size → listed.getD j true = true → ∀ i, i < ops.size → pre ops j i = true → listed.getD i true = true) →
    R base w0 S0 (canon (trace P ops orc n0 ops.toList 0 σ) (fun i => listed.getD i true) 0 σ) kn blk a w → (∀ i, kn i → i < n0 ∨ ∃ j, j < ops.size ∧ listed.getD j true = true ∧ i = n0 + j) →
    wpAnyIn (FW ro) m P .any ops Q n listed a w := by
  -- when none is ready, all are listed
  have allDone : ∀ (listed : Array Bool), listed.size = ops.size → Region.ready .any ops listed = [] → ∀ i, i < ops.size → listed.getD i true = true := by
    intro listed hsz hr i
    induction i using Nat.strongRecOn with
    | _ i ih =>
      intro hi
      cases hli : listed.getD i true with
      | true => rfl
      | false =>
        exfalso
        have hmem : i ∈ Region.ready .any ops listed := by
          unfold Region.ready
          refine List.mem_filter.2 ⟨List.mem_range.2 hi, ?_⟩
          have ho : ops[i]? = some ops[i] := Array.getElem?_eq_getElem hi
          simp only [hli, ho, Bool.not_false, Bool.true_and, Option.map_some, Option.getD_some]
          rw [Array.all_eq_true_iff_forall_mem]
          intro e he
          have hd := (s.down ho).1 e (Array.mem_toList_iff.2 he)
          cases hb : Region.binds .any e with
          | false => rfl
          | true =>
            have hlt := hd hb
            have h1 := ih e.on hlt (by omega)
            have : listed.getD e.on false = true := by
              rw [Array.getD_eq_getD_getElem?] at h1 ⊢
              have hx : listed[e.on]? = some listed[e.on] := Array.getElem?_eq_getElem (by omega)
              rw [hx] at h1 ⊢
              simpa using h1
            simp [this]
        rw [hr] at hmem
        cases hmem
  have last : ∀ (listed : Array Bool) (kn : Nat → Prop) (blk : Nat → Option Loc) (a : Act) (w : World), listed.size = ops.size → Region.ready .any ops listed = [] →
      R base w0 S0 (canon (trace P ops orc n0 ops.toList 0 σ) (fun i => listed.getD i true) 0 σ) kn blk a w → (∀ i, kn i → i < n0 ∨ ∃ j, j < ops.size ∧ listed.getD j true = true ∧ i = n0 + j) → Q .normal a w := by
    intro listed kn blk a w hsz hr hR hkn
    have hall := allDone listed hsz hr
    have same : (fun i => listed.getD i true) = fun _ => true := by
      funext i
      by_cases hi : i < ops.size
      · exact hall i hi
      · rw [Array.getD_eq_getD_getElem?, Array.getElem?_eq_none (by omega)]; rfl
    rw [same] at hR
    refine s.fin kn blk a w hR fun i hi => ?_
    rcases hkn i hi with h | ⟨j, hj, _, rfl⟩
    · omega
    · omega
  intro n
  induction n with
  | zero =>
    intro listed kn blk a w hsz hcnt hdown hR hkn
    have hr : Region.ready .any ops listed = [] := by
      have h0 : ∀ i ∈ List.range ops.size, ¬ ((!listed.getD i true) = true) := by
        have : (List.range ops.size).countP (fun i => !listed.getD i true) = 0 := Nat.le_zero.1 hcnt
        exact List.countP_eq_zero.1 this
      unfold Region.ready
      refine List.filter_eq_nil_iff.2 fun i hi h => ?_
      simp only [Bool.and_eq_true] at h
      exact h0 i hi h.1
    exact ⟨hr, last listed kn blk a w hsz hr hR hkn⟩
  | succ n ih =>
    intro listed kn blk a w hsz hcnt hdown hR hkn
    refine ⟨fun hr => last listed kn blk a w hsz hr hR hkn, fun K hK => ?_⟩
    unfold Region.ready at hK
    obtain ⟨hK1, hK2⟩ := List.mem_filter.1 hK
    have hKs : K < ops.size := List.mem_range.1 hK1
    have ho : ops[K]? = some ops[K] := Array.getElem?_eq_getElem hKs
    simp only [Bool.and_eq_true, ho, Option.map_some, Option.getD_some] at hK2
    have hLK : listed.getD K true = false := by simpa using hK2.1
    have hedges : ∀ e ∈ ops[K].after.toList, Region.binds .any e = true → listed.getD e.on true = true := by
      intro e he hb
      have := (Array.all_eq_true_iff_forall_mem.1 hK2.2) e (Array.mem_toList_iff.1 he)
      simp only [hb, Bool.not_true, Bool.false_or] at this
      rw [Array.getD_eq_getD_getElem?] at this ⊢
      cases hx : listed[e.on]? with
      | some v => rw [hx] at this; simpa using this
      | none => rfl
    have hpre : ∀ i, i < ops.size → pre ops K i = true → listed.getD i true = true := by
      intro i hi hp
      obtain ⟨e, he, hb, h⟩ := (s.down ho).2 i hi hp
      have h1 := hedges e he hb
      rcases h with rfl | h
      · exact h1
      · exact hdown e.on (by have := (s.down ho).1 e he hb; omega) h1 i hi h
    have hlen : K < (trace P ops orc n0 ops.toList 0 σ).length := by rw [trace_len]; simpa using hKs
    have htr : (trace P ops orc n0 ops.toList 0 σ)[K]? = some ((trace P ops orc n0 ops.toList 0 σ)[K].1, (trace P ops orc n0 ops.toList 0 σ)[K].2) := List.getElem?_eq_getElem hlen
    obtain ⟨hd, heff, hget, hobj⟩ := s.step (L := fun i => listed.getD i true) (fun j hj hL i hi hp => hdown j hj hL i hi hp) ho hLK hpre htr
    obtain ⟨hdst, hvc⟩ := s.vc K _ _ htr
    rw [← heff] at hvc
    have hnt := (nx_canon (trace P ops orc n0 ops.toList 0 σ) (fun i => listed.getD i true) 0 σ).2
    have hid : ¬ kn (n0 + K) := fun h => by
      rcases hkn _ h with h | ⟨j, _, hj, e⟩
      · omega
      · have : j = K := by omega
        subst this
        rw [hLK] at hj; cases hj
    unfold wpOpIn
    simp only [ho]
    refine opEff_sound hR hid hvc (by rw [hnt, (rl_canon _ _ _ _).2, ← hd]; exact hdst) fun a' w' ⟨kn', blk', hR', hk'⟩ => ?_
    have hLset : ∀ i, (listed.setIfInBounds K true).getD i true = (listed.getD i true || decide (i = K)) := by
      intro i
      simp only [Array.getD_eq_getD_getElem?, Array.getElem?_setIfInBounds]
      by_cases e : K = i
      · subst e
        simp [hsz, hKs]
      · have : ¬ (i = K) := fun h => e h.symm
        simp [e, this]
    refine ih (listed.setIfInBounds K true) kn' blk' a' w' (by simpa using hsz) ?_ ?_ ?_ ?_
    · have := countP_drop (fun i => !listed.getD i true) (fun i => !(listed.setIfInBounds K true).getD i true) (fun x hx => by
        rw [hLset] at hx; simp at hx; simpa using hx.1) (List.range ops.size) K (List.mem_range.2 hKs) (by simp [hLK]) (by simp [hLset])
      omega
    · intro j hj hL i hi hp
      rw [hLset] at hL ⊢
      simp only [Bool.or_eq_true, decide_eq_true_eq] at hL ⊢
      rcases hL with hL | rfl
      · exact .inl (hdown j hj hL i hi hp)
      · exact .inl (hpre i hi hp)
    · have e1 : (fun i => (listed.setIfInBounds K true).getD i true) = fun i => listed.getD i true || decide (i = K) := funext hLset
      rw [e1]
      rw [heff, ← hd] at hR'
      exact hR'.congr (fun t => (hget t).symm) (fun i => (hobj i).symm) ((nx_canon _ _ _ _).2.trans hnt.symm) ((rl_canon _ _ _ _).1.trans (rl_canon _ _ _ _).1.symm) ((rl_canon _ _ _ _).2.trans (rl_canon _ _ _ _).2.symm)
    · intro i hi
      rcases hk' i hi with h | h
      · rcases hkn i h with h | ⟨j, h1, h2, h3⟩
        · exact .inl h
        · exact .inr ⟨j, h1, by rw [hLset, h2]; rfl, h3⟩
      · exact .inr ⟨K, hKs, by rw [hLset]; simp, h⟩
def drawOK (P : Program) (ops : Array Oper) (orc : List (Nat × Orc)) (σ : St) : Bool :=
  orderOK (aheads ops.toList []) (feet P ops orc σ.nx ops.toList 0 { σ with nx := σ.nx + ops.size }) ops.toList (feet P ops orc σ.nx ops.toList 0 { σ with nx := σ.nx + ops.size }) 0
theorem region_draw_any {σ : St} {a : Act} {w : World} (h : Fits base w0 S0 σ a w) (hvc : AllP (regionOut P ops orc σ).2) (hord : drawOK P ops orc σ = true)
    (hQ : ∀ a' w', Fits base w0 S0 (regionOut P ops orc σ).1 a' w' → Q .normal a' w') : wpAnyIn (FW ro) m P .any ops Q ops.size (Array.replicate ops.size false) a { w with drawn := w.drawn + 1 } := by
  obtain ⟨kn, blk, r, hk⟩ := h
  have hnx := runOps_nx (P := P) ops orc σ.nx ops.toList 0 { σ with nx := σ.nx + ops.size } []
  have s : Setup P ops orc base w0 S0 Q σ.nx { σ with nx := σ.nx + ops.size } := by
    refine ⟨runOps_each ops.toList 0 _ [] hvc, hord, fun kn' blk' a' w' hR hk' => hQ a' w' ⟨kn', blk', ?_, fun i hi => ?_⟩⟩
    · unfold regionOut
      rw [runOps_trace]; exact hR
    · have := hk' i hi
      show i < (runOps P ops orc σ.nx ops.toList 0 { σ with nx := σ.nx + ops.size } []).1.nx
      rw [hnx.1]; exact this
  have hrep : ∀ i, (Array.replicate ops.size false).getD i true = decide (ops.size ≤ i) := by
    intro i
    rw [Array.getD_eq_getD_getElem?, Array.getElem?_replicate]
    by_cases hi : i < ops.size
    · rw [if_pos hi]
      have : decide (ops.size ≤ i) = false := by simp; omega
      rw [this]; rfl
    · rw [if_neg hi]
      have : decide (ops.size ≤ i) = true := by simp; omega
      rw [this]; rfl
  refine s.any ops.size (Array.replicate ops.size false) kn blk a _ (by simp) (Nat.le_trans List.countP_le_length (by simp)) (fun j hj hL => ?_) ?_ fun i hi => .inl (hk i hi)
  · rw [hrep] at hL; simp at hL; omega
  · have e1 : (fun i => (Array.replicate ops.size false).getD i true) = fun i => decide (ops.size ≤ i) := funext hrep
    rw [e1]
    have hget : ∀ t, (canon (trace P ops orc σ.nx ops.toList 0 { σ with nx := σ.nx + ops.size }) (fun i => decide (ops.size ≤ i)) 0 { σ with nx := σ.nx + ops.size }).get t = σ.get t := by
      intro t
      rw [get_canon]
      refine lastW_none _ _ _ _ fun j v hj => ?_
      have := (List.getElem?_eq_some_iff.1 hj).1
      rw [List.length_map, trace_len] at this
      simp at this ⊢; omega
    have hobj : ∀ t, (canon (trace P ops orc σ.nx ops.toList 0 { σ with nx := σ.nx + ops.size }) (fun i => decide (ops.size ≤ i)) 0 { σ with nx := σ.nx + ops.size }).obj t = σ.obj t := by
      intro t
      rw [obj_canon]
      refine lastW_none _ _ _ _ fun j v hj => ?_
      have := (List.getElem?_eq_some_iff.1 hj).1
      rw [List.length_map, trace_len] at this
      simp at this ⊢; omega
    exact r.drew.congr hget hobj (nx_canon _ _ _ _).2 (rl_canon _ _ _ _).1 (rl_canon _ _ _ _).2
theorem region_draw_sound {σ : St} {a : Act} {w : World} {id : Nat} (hm : P.follows .mixedOrders = true) (h : Fits base w0 S0 σ a w) (hvc : AllP (regionOut P ops orc σ).2) (hord : drawOK P ops orc σ = true)
    (hQ : ∀ a' w', Fits base w0 S0 (regionOut P ops orc σ).1 a' w' → Q .normal a' w') : (Code.region id ops true).wpIn (FW ro) m P Q a w :=
  wpIn_region_any hm (region_draw_any h hvc hord hQ)
end
end Go.Abs
end
