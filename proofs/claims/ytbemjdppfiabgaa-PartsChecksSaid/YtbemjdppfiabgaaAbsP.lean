/- A region that draws its order: whatever order its edges let comes to the state that the text's own order comes to, where operations that are not ordered do not meet. -/
import Derived.Test.YtbemjdppfiabgaaAbsO
namespace Go.Abs
open Go.RowKit

def pickW {α : Type} (b : Bool) (x : Option α) (init : α) : α := match b, x with
  | true, some v => v
  | _, _ => init

/-- The last word on a place, of those that are listed. -/
def lastW {α : Type} : List (Option α) → (Nat → Bool) → Nat → α → α
  | [], _, _, init => init
  | x :: r, L, k, init => lastW r L (k + 1) (pickW (L k) x init)

theorem lastW_none {α : Type} : ∀ (ws : List (Option α)) (L : Nat → Bool) (k : Nat) (init : α), (∀ j v, ws[j]? = some (some v) → L (k + j) = false) → lastW ws L k init = init
  | [], _, _, _, _ => rfl
  | x :: r, L, k, init, h => by
    have h0 : pickW (L k) x init = init := by
      cases x with
      | none => cases L k <;> rfl
      | some v => have := h 0 v rfl; simp at this; rw [this]; rfl
    simp only [lastW, h0]
    exact lastW_none r L (k + 1) init fun j v hj => by have := h (j + 1) v (by simpa using hj); rwa [show k + 1 + j = k + (j + 1) by omega]

theorem lastW_read {α : Type} (K : Nat) (L : Nat → Bool) (hK : L K = false) : ∀ (ws : List (Option α)) (k : Nat) (init : α), k ≤ K →
    (∀ j v, ws[j]? = some (some v) → (k + j < K → L (k + j) = true) ∧ (K < k + j → L (k + j) = false)) → lastW ws L k init = lastW (ws.take (K - k)) (fun _ => true) k init
  | [], k, init, _, _ => by simp [lastW]
  | x :: r, k, init, hk, h => by
    rcases Nat.lt_or_eq_of_le hk with hlt | rfl
    · have e : K - k = (K - (k + 1)) + 1 := by omega
      rw [e, List.take_succ_cons]
      simp only [lastW]
      have h0 : pickW (L k) x init = pickW true x init := by
        cases x with
        | none => cases L k <;> rfl
        | some v => have := (h 0 v rfl).1 (by omega); simp at this; rw [this]
      rw [h0]
      exact lastW_read K L hK r (k + 1) _ (by omega) fun j v hj => by
        have := h (j + 1) v (by simpa using hj)
        rwa [show k + 1 + j = k + (j + 1) by omega]
    · rw [Nat.sub_self, List.take_zero]
      exact lastW_none _ _ _ _ fun j v hj => by
        rcases Nat.eq_zero_or_pos j with rfl | hp
        · simpa using hK
        · exact (h j v hj).2 (by omega)

theorem lastW_put {α : Type} (K : Nat) (L : Nat → Bool) : ∀ (ws : List (Option α)) (k : Nat) (init : α), k ≤ K → (∀ v, ws[K - k]? = some (some v) → ∀ j u, ws[j]? = some (some u) → K < k + j → L (k + j) = false) →
    lastW ws (fun i => L i || decide (i = K)) k init = match ws[K - k]? with | some (some v) => v | _ => lastW ws L k init
  | [], k, init, _, _ => by simp [lastW]
  | x :: r, k, init, hk, h => by
    rcases Nat.lt_or_eq_of_le hk with hlt | rfl
    · have e : K - k = (K - (k + 1)) + 1 := by omega
      simp only [lastW]
      have h0 : decide (k = K) = false := by simp; omega
      rw [h0, Bool.or_false, e, List.getElem?_cons_succ]
      exact lastW_put K L r (k + 1) _ (by omega) fun v hv j u hj hlt => by
        have := h v (by rw [e, List.getElem?_cons_succ]; exact hv) (j + 1) u (by simpa using hj) (by omega)
        rwa [show k + 1 + j = k + (j + 1) by omega]
    · rw [Nat.sub_self] at h ⊢
      simp only [lastW, List.getElem?_cons_zero, decide_true, Bool.or_true]
      cases x with
      | some v =>
        simp only [pickW]
        refine lastW_none _ _ _ _ fun j u hj => ?_
        have := h v rfl (j + 1) u (by simpa using hj) (by omega)
        have e : decide (k + 1 + j = k) = false := by simp; omega
        rw [show k + 1 + j = k + (j + 1) by omega, this]
        simp
      | none =>
        have h0 : ∀ b, pickW b (none : Option α) init = init := fun b => by cases b <;> rfl
        simp only [h0]
        have : ∀ (r : List (Option α)) (q : Nat) (init : α), k < q → lastW r (fun i => L i || decide (i = k)) q init = lastW r L q init := by
          intro r
          induction r with
          | nil => intro q init _; rfl
          | cons y r ih =>
            intro q init hq
            have e : decide (q = k) = false := by simp; omega
            simp only [lastW, e, Bool.or_false]
            exact ih (q + 1) _ (by omega)
        exact this r (k + 1) init (by omega)

theorem look_append {α : Type} : ∀ (l m : List (Nat × α)) (i : Nat), look (l ++ m) i = match look l i with | some v => some v | none => look m i
  | [], m, i => rfl
  | (k, v) :: r, m, i => by
    simp only [List.cons_append, look_cons]
    by_cases h : k = i
    · simp [h]
    · simp only [if_neg h]; exact look_append r m i

theorem St.get_eff (σ : St) (dst : Option Tmp) (e : Eff) (t : Nat) : (σ.eff dst e).get t = if dst = some t then e.d else σ.get t := by
  cases dst with
  | none => simp [St.eff, St.get]
  | some d =>
    unfold St.get St.eff
    simp only [look_cons, Option.some.injEq]
    by_cases h : d = t <;> simp [h]
theorem St.obj_eff (σ : St) (dst : Option Tmp) (e : Eff) (id : Nat) : (σ.eff dst e).obj id = match look e.hw id with | some o => o | none => σ.obj id := by
  unfold St.obj St.eff
  simp only [look_append]
  cases look e.hw id <;> rfl

abbrev Tr := List (Option Tmp × Eff)

def stepS (b : Bool) (x : Option Tmp × Eff) (σ : St) : St := match b with
  | true => σ.eff x.1 x.2
  | false => σ

def canon : Tr → (Nat → Bool) → Nat → St → St
  | [], _, _, σ => σ
  | x :: r, L, k, σ => canon r L (k + 1) (stepS (L k) x σ)

def tW (t : Nat) (x : Option Tmp × Eff) : Option DV := if x.1 = some t then some x.2.d else none
def hW (id : Nat) (x : Option Tmp × Eff) : Option (Option AObj) := look x.2.hw id

theorem get_canon (t : Nat) : ∀ (tr : Tr) (L : Nat → Bool) (k : Nat) (σ : St), (canon tr L k σ).get t = lastW (tr.map (tW t)) L k (σ.get t)
  | [], _, _, _ => rfl
  | x :: r, L, k, σ => by
    simp only [canon, List.map_cons, lastW]
    rw [get_canon t r L (k + 1)]
    congr 1
    cases L k with
    | false => rfl
    | true =>
      simp only [stepS, pickW, St.get_eff, tW]
      by_cases h : x.1 = some t <;> simp [h]
theorem obj_canon (id : Nat) : ∀ (tr : Tr) (L : Nat → Bool) (k : Nat) (σ : St), (canon tr L k σ).obj id = lastW (tr.map (hW id)) L k (σ.obj id)
  | [], _, _, _ => rfl
  | x :: r, L, k, σ => by
    simp only [canon, List.map_cons, lastW]
    rw [obj_canon id r L (k + 1)]
    congr 1
    cases L k with
    | false => rfl
    | true =>
      simp only [stepS, pickW, St.obj_eff, hW]
      cases look x.2.hw id <;> rfl
theorem nx_canon : ∀ (tr : Tr) (L : Nat → Bool) (k : Nat) (σ : St), (canon tr L k σ).nx = σ.nx ∧ (canon tr L k σ).nt = σ.nt
  | [], _, _, _ => ⟨rfl, rfl⟩
  | x :: r, L, k, σ => by
    simp only [canon]
    have := nx_canon r L (k + 1) (stepS (L k) x σ)
    cases hL : L k <;> (rw [hL] at this; exact this)

theorem rl_canon : ∀ (tr : Tr) (L : Nat → Bool) (k : Nat) (σ : St), (canon tr L k σ).rn = σ.rn ∧ (canon tr L k σ).lo = σ.lo
  | [], _, _, _ => ⟨rfl, rfl⟩
  | x :: r, L, k, σ => by
    simp only [canon]
    have := rl_canon r L (k + 1) (stepS (L k) x σ)
    cases hL : L k <;> (rw [hL] at this; exact this)

/-- The run in the text's order, with what each operation did. -/
def trace (P : Program) (ops : Array Oper) (orc : List (Nat × Orc)) (n0 : Nat) : List Oper → Nat → St → Tr
  | [], _, _ => []
  | o :: r, k, σ => (o.dst, opEff P ops (orcAt orc k) (n0 + k) σ o) :: trace P ops orc n0 r (k + 1) (σ.eff o.dst (opEff P ops (orcAt orc k) (n0 + k) σ o))

section
variable {P : Program} {ops : Array Oper} {orc : List (Nat × Orc)} {n0 : Nat}

theorem trace_len : ∀ (l : List Oper) (k : Nat) (σ : St), (trace P ops orc n0 l k σ).length = l.length
  | [], _, _ => rfl
  | o :: r, k, σ => by simp only [trace, List.length_cons, trace_len r]

theorem trace_spec : ∀ (l : List Oper) (k : Nat) (σ : St) (j : Nat) (o : Oper), l[j]? = some o →
    (trace P ops orc n0 l k σ)[j]? = some (o.dst, opEff P ops (orcAt orc (k + j)) (n0 + (k + j)) (canon ((trace P ops orc n0 l k σ).take j) (fun _ => true) k σ) o)
  | [], _, _, j, o, h => by simp at h
  | p :: r, k, σ, 0, o, h => by
    simp only [List.getElem?_cons_zero, Option.some.injEq] at h
    subst h
    simp [trace, canon]
  | p :: r, k, σ, j + 1, o, h => by
    simp only [List.getElem?_cons_succ] at h
    simp only [trace, List.getElem?_cons_succ, List.take_succ_cons, canon, stepS]
    rw [trace_spec r (k + 1) _ j o h, show k + 1 + j = k + (j + 1) by omega]

theorem runOps_trace : ∀ (l : List Oper) (k : Nat) (σ : St) (vc : List Prop), (runOps P ops orc n0 l k σ vc).1 = canon (trace P ops orc n0 l k σ) (fun _ => true) k σ
  | [], _, _, _ => rfl
  | o :: r, k, σ, vc => by
    simp only [runOps, trace, canon, stepS]
    exact runOps_trace r (k + 1) _ _

theorem runOps_each : ∀ (l : List Oper) (k : Nat) (σ : St) (vc : List Prop), AllP (runOps P ops orc n0 l k σ vc).2 → ∀ (j : Nat) (d : Option Tmp) (e : Eff), (trace P ops orc n0 l k σ)[j]? = some (d, e) → dstOK σ.nt σ.lo d = true ∧ AllP e.vc
  | [], _, _, _, _, j, d, e, h => by simp [trace] at h
  | o :: r, k, σ, vc, hvc, 0, d, e, h => by
    simp only [trace, List.getElem?_cons_zero, Option.some.injEq, Prod.mk.injEq] at h
    obtain ⟨rfl, rfl⟩ := h
    simp only [runOps] at hvc
    have hme := runOps_vc (P := P) ops orc n0 r (k + 1) (σ.eff o.dst (opEff P ops (orcAt orc k) (n0 + k) σ o)) (vc ++ (bif dstOK σ.nt σ.lo o.dst then (opEff P ops (orcAt orc k) (n0 + k) σ o).vc else [False]))
    cases hd : dstOK σ.nt σ.lo o.dst with
    | false =>
      simp only [hd, cond_false] at hme hvc
      exact (hvc False (hme False (by simp))).elim
    | true =>
      simp only [hd, cond_true] at hme hvc
      exact ⟨rfl, fun p hp => hvc p (hme p (List.mem_append_right _ hp))⟩
  | o :: r, k, σ, vc, hvc, j + 1, d, e, h => by
    simp only [trace, List.getElem?_cons_succ] at h
    simp only [runOps] at hvc
    exact runOps_each r (k + 1) _ _ hvc j d e h

/-- What an operation reads and writes. -/
structure Foot where
  tr : List Nat
  tw : Option Nat
  hr : List Nat
  hw : List Nat

def has : List Nat → Nat → Bool
  | [], _ => false
  | x :: r, i => bif Nat.beq x i then true else has r i
theorem has_mem : ∀ {l : List Nat} {i : Nat}, i ∈ l → has l i = true
  | x :: r, i, h => by
    simp only [has]
    rcases List.mem_cons.1 h with rfl | h
    · simp
    · cases Nat.beq x i
      · exact has_mem h
      · rfl

def meetL (l m : List Nat) : Bool := match l with
  | [] => false
  | x :: r => bif has m x then true else meetL r m
theorem meetL_mem : ∀ {l m : List Nat} {i : Nat}, i ∈ l → i ∈ m → meetL l m = true
  | x :: r, m, i, h, hm => by
    simp only [meetL]
    rcases List.mem_cons.1 h with rfl | h
    · rw [has_mem hm]; rfl
    · cases has m x
      · exact meetL_mem h hm
      · rfl

def optL : Option Nat → List Nat
  | some t => [t]
  | none => []

/-- Two operations meet. -/
def meets (f g : Foot) : Bool := meetL (optL f.tw) (optL g.tw ++ g.tr) || (meetL (optL g.tw) f.tr || (meetL f.hw (g.hw ++ g.hr) || meetL g.hw f.hr))

def footOf (ops : Array Oper) (σ : St) (o : Oper) (e : Eff) : Foot := { tr := tmpReads ops o, tw := o.dst, hr := objReads σ (lookOps o.op), hw := e.hw.map (·.1) }

def feet (P : Program) (ops : Array Oper) (orc : List (Nat × Orc)) (n0 : Nat) : List Oper → Nat → St → List Foot
  | [], _, _ => []
  | o :: r, k, σ => footOf ops σ o (opEff P ops (orcAt orc k) (n0 + k) σ o) :: feet P ops orc n0 r (k + 1) (σ.eff o.dst (opEff P ops (orcAt orc k) (n0 + k) σ o))

theorem feet_spec : ∀ (l : List Oper) (k : Nat) (σ : St) (j : Nat) (o : Oper), l[j]? = some o →
    (feet P ops orc n0 l k σ)[j]? = some (footOf ops (canon ((trace P ops orc n0 l k σ).take j) (fun _ => true) k σ) o (opEff P ops (orcAt orc (k + j)) (n0 + (k + j)) (canon ((trace P ops orc n0 l k σ).take j) (fun _ => true) k σ) o))
  | [], _, _, j, o, h => by simp at h
  | p :: r, k, σ, 0, o, h => by
    simp only [List.getElem?_cons_zero, Option.some.injEq] at h
    subst h
    simp [feet, canon]
  | p :: r, k, σ, j + 1, o, h => by
    simp only [List.getElem?_cons_succ] at h
    simp only [feet, trace, List.getElem?_cons_succ, List.take_succ_cons, canon, stepS]
    rw [feet_spec r (k + 1) _ j o h, show k + 1 + j = k + (j + 1) by omega]

/-- Which operations stand ahead of each, as bits. -/
def aheadOf (acc : List Nat) : List Edge → Nat → Nat
  | [], s => s
  | e :: r, s => aheadOf acc r (bif Region.binds .any e then s ||| (2 ^ e.on ||| acc.getD e.on 0) else s)
def aheads : List Oper → List Nat → List Nat
  | [], acc => acc
  | o :: r, acc => aheads r (acc ++ [aheadOf acc o.after.toList 0])

def edgesOK (tbl : List Nat) (i : Nat) : List Edge → Bool
  | [] => false
  | e :: r => bif Region.binds .any e && (Nat.beq e.on i || (tbl.getD e.on 0).testBit i) then true else edgesOK tbl i r
def downOK (j : Nat) : List Edge → Bool
  | [] => true
  | e :: r => bif Region.binds .any e then (bif Nat.blt e.on j then downOK j r else false) else downOK j r
def closedOK (tbl : List Nat) (o : Oper) (b : Nat) : Nat → Bool
  | 0 => true
  | n + 1 => bif b.testBit n then (bif edgesOK tbl n o.after.toList then closedOK tbl o b n else false) else closedOK tbl o b n
def pairsOK (f : Foot) (b : Nat) : List Foot → Nat → Bool
  | [], _ => true
  | g :: r, i => bif meets g f then (bif b.testBit i then pairsOK f b r (i + 1) else false) else pairsOK f b r (i + 1)
/-- Whatever meets is ordered; the order is the edges' own. -/
def orderOK (tbl : List Nat) (fs : List Foot) : List Oper → List Foot → Nat → Bool
  | o :: r, f :: q, j => pairsOK f (tbl.getD j 0) (fs.take j) 0 && (closedOK tbl o (tbl.getD j 0) fs.length && (downOK j o.after.toList && orderOK tbl fs r q (j + 1)))
  | [], [], _ => true
  | _, _, _ => false

theorem pairsOK_spec {f : Foot} {b : Nat} : ∀ {l : List Foot} {i0 : Nat}, pairsOK f b l i0 = true → ∀ (i : Nat) (g : Foot), l[i]? = some g → meets g f = true → b.testBit (i0 + i) = true
  | [], _, _, i, g, h, _ => by simp at h
  | g' :: r, i0, hok, 0, g, h, hm => by
    simp only [List.getElem?_cons_zero, Option.some.injEq] at h
    subst h
    simp only [pairsOK, hm, cond_true] at hok
    cases hb : b.testBit i0 with
    | true => simp
    | false => simp [hb] at hok
  | g' :: r, i0, hok, i + 1, g, h, hm => by
    simp only [List.getElem?_cons_succ] at h
    have hr : pairsOK f b r (i0 + 1) = true := by
      simp only [pairsOK] at hok
      cases hm' : meets g' f with
      | false => simpa [hm'] using hok
      | true =>
        simp only [hm', cond_true] at hok
        cases hb : b.testBit i0 with
        | true => simpa [hb] using hok
        | false => simp [hb] at hok
    have := pairsOK_spec hr i g h hm
    rwa [show i0 + 1 + i = i0 + (i + 1) by omega] at this

theorem closedOK_spec {tbl : List Nat} {o : Oper} {b : Nat} : ∀ {n : Nat}, closedOK tbl o b n = true → ∀ i, i < n → b.testBit i = true → edgesOK tbl i o.after.toList = true
  | 0, _, i, hi, _ => by omega
  | n + 1, h, i, hi, hb => by
    simp only [closedOK] at h
    cases hn : b.testBit n with
    | false =>
      simp only [hn, cond_false] at h
      have : i ≠ n := fun e => by rw [e, hn] at hb; cases hb
      exact closedOK_spec h i (by omega) hb
    | true =>
      simp only [hn, cond_true] at h
      cases he : edgesOK tbl n o.after.toList with
      | false => simp [he] at h
      | true =>
        simp only [he, cond_true] at h
        rcases Nat.lt_or_eq_of_le (Nat.le_of_lt_succ hi) with hlt | rfl
        · exact closedOK_spec h i hlt hb
        · exact he

theorem edgesOK_spec {tbl : List Nat} {i : Nat} : ∀ {l : List Edge}, edgesOK tbl i l = true → ∃ e ∈ l, Region.binds .any e = true ∧ (e.on = i ∨ (tbl.getD e.on 0).testBit i = true)
  | [], h => by simp [edgesOK] at h
  | e :: r, h => by
    simp only [edgesOK] at h
    cases hb : (Region.binds .any e && (Nat.beq e.on i || (tbl.getD e.on 0).testBit i)) with
    | true =>
      simp only [Bool.and_eq_true, Bool.or_eq_true] at hb
      refine ⟨e, List.mem_cons_self, hb.1, ?_⟩
      rcases hb.2 with h2 | h2
      · exact .inl (Nat.eq_of_beq_eq_true h2)
      · exact .inr h2
    | false =>
      simp only [hb, cond_false] at h
      obtain ⟨e', he', h'⟩ := edgesOK_spec h
      exact ⟨e', List.mem_cons_of_mem _ he', h'⟩

theorem downOK_spec {j : Nat} : ∀ {l : List Edge}, downOK j l = true → ∀ e ∈ l, Region.binds .any e = true → e.on < j
  | [], _, e, he, _ => by cases he
  | x :: r, h, e, he, hb => by
    simp only [downOK] at h
    have hr : downOK j r = true := by
      cases hx : Region.binds .any x with
      | false => simpa [hx] using h
      | true =>
        simp only [hx, cond_true] at h
        cases hl : Nat.blt x.on j with
        | true => simpa [hl] using h
        | false => simp [hl] at h
    rcases List.mem_cons.1 he with rfl | he
    · simp only [hb, cond_true] at h
      cases hl : Nat.blt e.on j with
      | true => exact Nat.le_of_ble_eq_true hl
      | false => simp [hl] at h
    · exact downOK_spec hr e he hb

theorem orderOK_spec {tbl : List Nat} {fs : List Foot} : ∀ {l : List Oper} {q : List Foot} {j0 : Nat}, orderOK tbl fs l q j0 = true → ∀ (j : Nat) (o : Oper) (f : Foot), l[j]? = some o → q[j]? = some f →
    pairsOK f (tbl.getD (j0 + j) 0) (fs.take (j0 + j)) 0 = true ∧ closedOK tbl o (tbl.getD (j0 + j) 0) fs.length = true ∧ downOK (j0 + j) o.after.toList = true
  | [], _, _, _, j, o, f, h, _ => by simp at h
  | o' :: r, [], _, h, _, _, _, _, _ => by simp [orderOK] at h
  | o' :: r, f' :: q, j0, hok, 0, o, f, h1, h2 => by
    simp only [List.getElem?_cons_zero, Option.some.injEq] at h1 h2
    subst h1 h2
    simp only [orderOK, Bool.and_eq_true] at hok
    exact ⟨hok.1, hok.2.1, hok.2.2.1⟩
  | o' :: r, f' :: q, j0, hok, j + 1, o, f, h1, h2 => by
    simp only [List.getElem?_cons_succ] at h1 h2
    simp only [orderOK, Bool.and_eq_true] at hok
    have := orderOK_spec hok.2.2.2 j o f h1 h2
    rwa [show j0 + 1 + j = j0 + (j + 1) by omega] at this
end
end Go.Abs
