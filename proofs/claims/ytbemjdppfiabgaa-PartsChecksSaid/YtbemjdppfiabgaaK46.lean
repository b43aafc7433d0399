/- Contracts. -/
import Derived.Test.YtbemjdppfiabgaaK45
set_option linter.unusedVariables false
set_option linter.unusedSimpArgs false
set_option maxRecDepth 100000
namespace Go.Abs
open Go
/-- The nodes of a member. -/
def nuN (s : Scf) (m : Nat) : Nat := endN (s.K m) (s.A m) (s.B m)
def nuX (s : Scf) (m j : Nat) : Int := endX s (s.K m) (s.A m) (s.B m) j
/-- Whether a node is among the first ones of a member; of the first members. -/
def tch (s : Scf) (m : Nat) : Nat → Nat → Bool
  | 0, _ => false
  | k + 1, i => decide (nuX s m k = i) || tch s m k i
def usd (s : Scf) : Nat → Nat → Bool
  | 0, _ => false
  | m + 1, i => tch s m (nuN s m) i || usd s m i
def usK (s : Scf) (m k i : Nat) : Bool := tch s m k i || usd s m i
/-- A colouring of nodes that all members keep; the first ones. -/
def CstK (s : Scf) (m k : Nat) (c : Nat → Nat) : Prop := (∀ p, p < m → ∀ j, j < nuN s p → c (nuX s p j).toNat = c (nuX s p 0).toNat) ∧ ∀ j, j < k → c (nuX s m j).toNat = c (nuX s m 0).toNat
def Cst (s : Scf) (c : Nat → Nat) : Prop := ∀ m, m < s.nM → ∀ j, j < nuN s m → c (nuX s m j).toNat = c (nuX s m 0).toNat
/-- Members of the same part. -/
def Cn (s : Scf) (m p : Nat) : Prop := ∀ c, Cst s c → c (nuX s m 0).toNat = c (nuX s p 0).toNat
open Classical in
noncomputable def dP (p : Prop) : Bool := decide p
theorem dP_iff {p : Prop} : dP p = true ↔ p := by classical exact decide_eq_true_iff
theorem dP_no {p : Prop} (h : ¬ p) : dP p = false := by classical exact decide_eq_false h
theorem dP_congr {p q : Prop} (h : p ↔ q) : dP p = dP q := by rw [propext h]
noncomputable def fsB (s : Scf) (m : Nat) : Bool := dP (¬ ∃ p, p < m ∧ Cn s p m)
noncomputable def cpN (s : Scf) : Nat := flN (fsB s) s.nM
noncomputable def cpV (s : Scf) : Nat := if chkE s = 0 then cpN s else 0
def rtB (s : Scf) (U : Nat → Int) (i : Nat) : Bool := usd s s.nM i && decide (U i = i)
theorem tch_iff {s : Scf} {m i : Nat} : ∀ {k : Nat}, tch s m k i = true ↔ ∃ j, j < k ∧ nuX s m j = i
  | 0 => ⟨fun h => (by cases h), fun ⟨j, hj, _⟩ => absurd hj (Nat.not_lt_zero j)⟩
  | k + 1 => by
    rw [tch, Bool.or_eq_true, decide_eq_true_iff, tch_iff]
    constructor
    · rintro (h | ⟨j, hj, h⟩)
      · exact ⟨k, by omega, h⟩
      · exact ⟨j, by omega, h⟩
    · rintro ⟨j, hj, h⟩
      rcases Nat.lt_or_ge j k with h1 | h1
      · exact .inr ⟨j, h1, h⟩
      · obtain rfl : j = k := by omega
        exact .inl h
theorem usd_iff {s : Scf} {i : Nat} : ∀ {m : Nat}, usd s m i = true ↔ ∃ p, p < m ∧ ∃ j, j < nuN s p ∧ nuX s p j = i
  | 0 => ⟨fun h => (by cases h), fun ⟨j, hj, _⟩ => absurd hj (Nat.not_lt_zero j)⟩
  | m + 1 => by
    rw [usd, Bool.or_eq_true, tch_iff, usd_iff]
    constructor
    · rintro (h | ⟨p, hp, h⟩)
      · exact ⟨m, by omega, h⟩
      · exact ⟨p, by omega, h⟩
    · rintro ⟨p, hp, h⟩
      rcases Nat.lt_or_ge p m with h1 | h1
      · exact .inr ⟨p, h1, h⟩
      · obtain rfl : p = m := by omega
        exact .inl h
/-- The root of each node: a colouring. -/
def rcf : Nat → (Nat → Int) → Nat → Nat
  | 0, _, i => i
  | k + 1, U, i => if U i = i then i else rcf k U (U i).toNat
theorem rcf_fix {U : Nat → Int} {i : Nat} (h : U i = i) : ∀ k, rcf k U i = i
  | 0 => rfl
  | k + 1 => by rw [rcf, if_pos h]
section
variable {n : Nat} {U : Nat → Int} {d : Nat → Nat}
theorem Acy.lt (h : Acy n U d) {i : Nat} (hi : i < n) : (U i).toNat < n := by have := h.bd i hi; omega
theorem Acy.zero (h : Acy n U d) {i : Nat} (hi : i < n) (hd : d i = 0) : U i = i := Decidable.byContradiction fun e => by have := h.dn i hi e; omega
theorem rcf_stab (h : Acy n U d) : ∀ {k l i : Nat}, i < n → d i ≤ k → d i ≤ l → rcf k U i = rcf l U i
  | 0, l, i, hi, hk, _ => by
    have e := h.zero hi (by omega)
    rw [rcf_fix e, rcf_fix e]
  | k + 1, 0, i, hi, _, hl => by
    have e := h.zero hi (by omega)
    rw [rcf_fix e, rcf_fix e]
  | k + 1, l + 1, i, hi, hk, hl => by
    rw [rcf, rcf]
    by_cases e : U i = i
    · rw [if_pos e, if_pos e]
    · rw [if_neg e, if_neg e]
      have := h.dn i hi e
      exact rcf_stab h (h.lt hi) (by omega) (by omega)
theorem rcf_root (h : Acy n U d) : ∀ {k i : Nat}, i < n → d i ≤ k → rcf k U i < n ∧ U (rcf k U i) = rcf k U i
  | 0, i, hi, hk => by
    have e := h.zero hi (by omega)
    rw [rcf_fix e]; exact ⟨hi, e⟩
  | k + 1, i, hi, hk => by
    by_cases e : U i = i
    · rw [rcf_fix e]; exact ⟨hi, e⟩
    · rw [rcf, if_neg e]
      have := h.dn i hi e
      exact rcf_root h (h.lt hi) (by omega)
theorem rcf_inv (h : Acy n U d) {c : Nat → Nat} (hc : Inv n U c) : ∀ {k i : Nat}, i < n → c (rcf k U i) = c i
  | 0, i, hi => rfl
  | k + 1, i, hi => by
    rw [rcf]
    split
    · rfl
    · rw [rcf_inv h hc (h.lt hi), hc i hi]
def rcN (U : Nat → Int) (d : Nat → Nat) (i : Nat) : Nat := rcf (d i) U i
theorem rcN_inv (h : Acy n U d) : Inv n U (rcN U d) := fun i hi => by
  by_cases e : U i = i
  · rw [e, Int.toNat_natCast]
  · have h1 := h.dn i hi e
    unfold rcN
    obtain ⟨k, hk⟩ : ∃ k, d i = k + 1 := ⟨d i - 1, by omega⟩
    rw [hk, rcf, if_neg e]
    exact rcf_stab h (h.lt hi) (Nat.le_refl _) (by omega)
theorem rcN_fix {i : Nat} (h : U i = i) : rcN U d i = i := rcf_fix h _
/-- One root hung at another. -/
theorem Acy.join (h : Acy n U d) {a b : Nat} (ha : a < n) (hb : b < n) (ea : U a = a) (eb : U b = b) : (∃ d', Acy n (fun j => if j = a then (b : Int) else U j) d') ∧ ∀ c, Inv n (fun j => if j = a then (b : Int) else U j) c ↔ Inv n U c ∧ c a = c b := by
  constructor
  · refine ⟨fun j => d j + if rcN U d j = a ∧ a ≠ b then d b + 1 else 0, fun i hi => ?_, fun i hi hn => ?_⟩
    · by_cases e : i = a
      · rw [if_pos e]; omega
      · rw [if_neg e]; exact h.bd i hi
    · by_cases e : i = a
      · subst e
        rw [if_pos rfl] at hn ⊢
        have hab : i ≠ b := fun e => hn (by rw [e])
        simp only [Int.toNat_natCast]
        rw [if_neg (show ¬ (rcN U d b = i ∧ i ≠ b) from fun h => hab (by rw [← h.1, rcN_fix eb])), if_pos (show rcN U d i = i ∧ i ≠ b from ⟨rcN_fix ea, hab⟩)]
        omega
      · rw [if_neg e] at hn ⊢
        have h1 := h.dn i hi hn
        simp only [rcN_inv h i hi]
        omega
  · intro c
    constructor
    · intro hc
      refine ⟨fun i hi => ?_, ?_⟩
      · by_cases e : i = a
        · rw [e, ea, Int.toNat_natCast]
        · have := hc i hi
          simp only [if_neg e] at this
          exact this
      · have := hc a ha
        simp only [if_true, Int.toNat_natCast] at this
        exact this.symm
    · rintro ⟨hc, he⟩ i hi
      by_cases e : i = a
      · simp only [e, if_true, Int.toNat_natCast]; exact he.symm
      · simp only [if_neg e]; exact hc i hi
end
/-- The pointers behind the first members, and the first nodes of one. -/
structure UFI (s : Scf) (m k : Nat) (U : Nat → Int) : Prop where
  ac : ∃ d, Acy s.nN U d
  iv : ∀ c, Inv s.nN U c ↔ CstK s m k c
  us : ∀ i, i < s.nN → usK s m k i = false → U i = i
  uu : ∀ i, i < s.nN → usK s m k i = true → usK s m k (U i).toNat = true
theorem UFI.zero {s : Scf} : UFI s 0 0 (fun j => (j : Int)) :=
  ⟨⟨fun _ => 0, fun i hi => by omega, fun i _ h => absurd rfl h⟩, fun c => ⟨fun _ => ⟨fun p hp => absurd hp (Nat.not_lt_zero p), fun j hj => absurd hj (Nat.not_lt_zero j)⟩, fun _ i _ => by rw [Int.toNat_natCast]⟩, fun _ _ _ => rfl, fun i _ h => by rw [Int.toNat_natCast]; exact h⟩
theorem UFI.next {s : Scf} {m : Nat} {U : Nat → Int} (h : UFI s m (nuN s m) U) : UFI s (m + 1) 0 U := by
  have e : ∀ i, usK s (m + 1) 0 i = usK s m (nuN s m) i := fun i => by unfold usK; rw [tch, Bool.false_or, usd]
  refine ⟨h.ac, fun c => (h.iv c).trans ⟨fun ⟨h1, h2⟩ => ⟨fun p hp => ?_, fun j hj => absurd hj (Nat.not_lt_zero j)⟩, fun ⟨h1, _⟩ => ⟨fun p hp => h1 p (by omega), h1 m (by omega)⟩⟩, fun i hi hu => h.us i hi (by rw [← e]; exact hu), fun i hi hu => by rw [e]; exact h.uu i hi (by rw [← e]; exact hu)⟩
  rcases Nat.lt_or_ge p m with h3 | h3
  · exact h1 p h3
  · obtain rfl : p = m := by omega
    exact h2
/-- One node more: its root is hung at the first one's. -/
noncomputable def joU (s : Scf) (m k : Nat) (U : Nat → Int) (j : Nat) : Int := if j = rtN U (nuX s m k).toNat then (rtN (rtU U (nuX s m k).toNat) (nuX s m 0).toNat : Int) else rtU (rtU U (nuX s m k).toNat) (nuX s m 0).toNat j
theorem UFI.join {s : Scf} {m k : Nat} {U : Nat → Int} (h : UFI s m k U) (hx : ∀ j, 0 ≤ nuX s m j ∧ nuX s m j < s.nN) : rtN U (nuX s m k).toNat < s.nN ∧ rtN (rtU U (nuX s m k).toNat) (nuX s m 0).toNat < s.nN ∧ (∃ d, Acy s.nN (rtU U (nuX s m k).toNat) d) ∧ UFI s m (k + 1) (joU s m k U) := by
  obtain ⟨d, ac⟩ := h.ac
  have hxk := hx k
  have hx0 := hx 0
  have hk : (nuX s m k).toNat < s.nN := by omega
  have h0 : (nuX s m 0).toNat < s.nN := by omega
  have ux : usK s m (k + 1) (nuX s m k).toNat = true := by
    unfold usK
    rw [Bool.or_eq_true]
    exact .inl (tch_iff.2 ⟨k, by omega, by omega⟩)
  have ux0 : usK s m (k + 1) (nuX s m 0).toNat = true := by
    unfold usK
    rw [Bool.or_eq_true]
    exact .inl (tch_iff.2 ⟨0, by omega, by omega⟩)
  generalize ex : (nuX s m k).toNat = x at hk ux ⊢
  generalize ex0 : (nuX s m 0).toNat = x0 at h0 ux0 ⊢
  have hus : ∀ i, usK s m (k + 1) i = (decide (nuX s m k = i) || usK s m k i) := fun i => by unfold usK; rw [tch, Bool.or_assoc]
  have hmono : ∀ i, usK s m k i = true → usK s m (k + 1) i = true := fun i hi => by rw [hus, hi, Bool.or_true]
  have hno : ∀ i, usK s m (k + 1) i = false → usK s m k i = false := fun i hi => by
    rw [hus, Bool.or_eq_false_iff] at hi
    exact hi.2
  have iu : Inv s.nN U (fun i => if usK s m (k + 1) i = true then 1 else 0) := fun i hi => by
    cases hu : usK s m (k + 1) i with
    | false =>
      have e := h.us i hi (hno i hu)
      simp only [e, Int.toNat_natCast, hu]
    | true =>
      have : usK s m (k + 1) (U i).toNat = true := by
        cases hq : usK s m k i with
        | true => exact hmono _ (h.uu i hi hq)
        | false => rw [h.us i hi hq, Int.toNat_natCast]; exact hu
      simp only [this, hu]
  obtain ⟨a1, a2, a3, a4, a5, a6⟩ := rtR_ok ac hk
  obtain ⟨b1, b2, b3, b4, b5, b6⟩ := rtR_ok a3 h0
  have hjo : joU s m k U = fun j => if j = (rtR U x).2 then (((rtR (rtR U x).1 x0).2 : Nat) : Int) else (rtR (rtR U x).1 x0).1 j := by
    unfold joU
    rw [ex, ex0]
    rfl
  have hr1 : rtU U x = (rtR U x).1 := rfl
  have hr2 : rtN U x = (rtR U x).2 := rfl
  have hr3 : rtN (rtR U x).1 x0 = (rtR (rtR U x).1 x0).2 := rfl
  rw [hjo, hr1, hr2, hr3]
  refine ⟨a2, b2, ⟨d, a3⟩, ?_⟩
  generalize rtR U x = p at a1 a2 a3 a4 a5 a6 b1 b2 b3 b4 b5 b6 ⊢
  obtain ⟨U1, a⟩ := p
  dsimp only at a1 a2 a3 a4 a5 a6 b1 b2 b3 b4 b5 b6 ⊢
  generalize rtR U1 x0 = q at b1 b2 b3 b4 b5 b6 ⊢
  obtain ⟨U2, b⟩ := q
  dsimp only at b1 b2 b3 b4 b5 b6 ⊢
  have i1 := (a4 _).2 iu
  have i2 := (b4 _).2 i1
  have ua : usK s m (k + 1) a = true := Decidable.byContradiction fun hn => by
    have := a6 _ iu
    simp only [ux, if_true, if_neg hn] at this
    cases this
  have ub : usK s m (k + 1) b = true := Decidable.byContradiction fun hn => by
    have := b6 _ i1
    simp only [ux0, if_true, if_neg hn] at this
    cases this
  have ea2 : U2 a = a := (b5 a a2).2 a1
  obtain ⟨ac', hj⟩ := Acy.join b3 a2 b2 ea2 b1
  refine ⟨ac', fun c => (hj c).trans ⟨fun ⟨h1, h2⟩ => ?_, fun h1 => ?_⟩, fun i hi hu => ?_, fun i hi hu => ?_⟩
  · have hc1 := (b4 c).1 h1
    have hc := (a4 c).1 hc1
    have e1 := a6 c hc
    have e2 := b6 c hc1
    obtain ⟨k1, k2⟩ := (h.iv c).1 hc
    refine ⟨k1, fun j hj' => ?_⟩
    rcases Nat.lt_or_ge j k with h3 | h3
    · exact k2 j h3
    · obtain rfl : j = k := by omega
      rw [ex, ex0, ← e1, ← e2, h2]
  · obtain ⟨k1, k2⟩ := h1
    have hc := (h.iv c).2 ⟨k1, fun j hj' => k2 j (by omega)⟩
    have hc1 := (a4 c).2 hc
    have e3 := k2 k (by omega)
    rw [ex, ex0] at e3
    exact ⟨(b4 c).2 hc1, by rw [a6 c hc, b6 c hc1, e3]⟩
  · have hia : i ≠ a := fun e => by rw [e, ua] at hu; cases hu
    simp only [if_neg hia]
    exact (b5 i hi).2 ((a5 i hi).2 (h.us i hi (hno i hu)))
  · by_cases e : i = a
    · simp only [if_pos e, Int.toNat_natCast]; exact ub
    · simp only [if_neg e]
      have h9 := i2 i hi
      refine Decidable.byContradiction fun hn => ?_
      simp only [if_neg hn, hu, if_true] at h9
      cases h9
abbrev colJ (cols : List (Nat → DV)) (j : Nat) : Int := match cols with
  | [c] => iOf (c j)
  | _ => 0
noncomputable abbrev rRoot : Orc := .bro fun _ cols x => (rtU (fun j => colJ cols j) (iOf x).toNat, dI (rtN (fun j => colJ cols j) (iOf x).toNat : Int))
abbrev upO (σ : St) (j : Nat) : Int := objJ1 (σ.obj (mid (cellOf σ 0 (σ.get 6)))) j
/-- The count of the roots: the pointers turn, the roots stay. -/
structure CtI (s : Scf) (U : Nat → Int) (i : Nat) (V : Nat → Int) : Prop where
  le : i ≤ s.nN
  ac : ∃ d, Acy s.nN V d
  fx : ∀ j, j < s.nN → (V j = j ↔ U j = j)
theorem UFI.congr {s : Scf} {m k : Nat} {U V : Nat → Int} (h : UFI s m k U) (e : ∀ j, j < s.nN → V j = U j) : UFI s m k V := by
  obtain ⟨⟨d, ac⟩, iv, us, uu⟩ := h
  refine ⟨⟨d, fun i hi => by rw [e i hi]; exact ac.bd i hi, fun i hi hn => by rw [e i hi] at hn ⊢; exact ac.dn i hi hn⟩, fun c => ⟨fun hc => (iv c).1 fun i hi => by rw [← e i hi]; exact hc i hi, fun hc i hi => by rw [e i hi]; exact (iv c).2 hc i hi⟩, fun i hi hu => by rw [e i hi]; exact us i hi hu, fun i hi hu => by rw [e i hi]; exact uu i hi hu⟩
/-- One more. -/
theorem flN_one {p q : Nat → Bool} {a : Nat} (hp : p a = false) (hq : q a = true) (h : ∀ i, i ≠ a → q i = p i) : ∀ {n : Nat}, a < n → flN q n = flN p n + 1
  | 0, hn => absurd hn (Nat.not_lt_zero a)
  | n + 1, hn => by
    rw [flN, flN]
    by_cases e : n = a
    · subst e
      rw [hp, hq, if_pos rfl, if_neg Bool.false_ne_true, flN_eq (p := q) (q := p) fun i hi => h i (by omega)]
    · rw [flN_one hp hq h (by omega), h n e]
      omega
theorem cls_count {f : Nat → Nat} {n : Nat} : ∀ {m : Nat}, (∀ p, p < m → f p < n) → flN (fun r => dP (∃ p, p < m ∧ f p = r)) n = flN (fun p => dP (¬ ∃ q, q < p ∧ f q = f p)) m
  | 0, _ => by
    show _ = 0
    have : ∀ n, flN (fun r => dP (∃ p, p < 0 ∧ f p = r)) n = 0 := fun n => by
      induction n with
      | zero => rfl
      | succ n ih =>
        rw [flN, ih]
        have : dP (∃ p, p < 0 ∧ f p = n) = false := dP_no fun ⟨p, hp, _⟩ => absurd hp (Nat.not_lt_zero p)
        rw [this]; rfl
    exact this n
  | m + 1, hm => by
    have ih := cls_count (f := f) (n := n) (m := m) fun p hp => hm p (by omega)
    rw [flN]
    by_cases e : ∃ q, q < m ∧ f q = f m
    · rw [if_neg (by rw [dP_iff]; exact fun h => h e), Nat.add_zero, ← ih]
      refine flN_eq fun r _ => dP_congr ⟨fun ⟨p, hp, hr⟩ => ?_, fun ⟨p, hp, hr⟩ => ⟨p, by omega, hr⟩⟩
      rcases Nat.lt_or_ge p m with h1 | h1
      · exact ⟨p, h1, hr⟩
      · obtain rfl : p = m := by omega
        obtain ⟨q, hq, hqe⟩ := e
        exact ⟨q, hq, by rw [hqe, hr]⟩
    · rw [if_pos (dP_iff.2 e), ← ih]
      refine flN_one (a := f m) (dP_no e) (dP_iff.2 ⟨m, by omega, rfl⟩) (fun i hi => dP_congr ⟨fun ⟨p, hp, hr⟩ => ?_, fun ⟨p, hp, hr⟩ => ⟨p, by omega, hr⟩⟩) (hm m (by omega))
      rcases Nat.lt_or_ge p m with h1 | h1
      · exact ⟨p, h1, hr⟩
      · obtain rfl : p = m := by omega
        exact absurd hr.symm hi
theorem nuN_pos (s : Scf) (m : Nat) : 0 < nuN s m := by
  unfold nuN endN
  split
  · decide
  · split <;> decide
/-- The roots that are used are as many as the parts. -/
theorem UFI.count {s : Scf} {U : Nat → Int} (h : UFI s s.nM 0 U) (hx : ∀ m, m < s.nM → ∀ j, 0 ≤ nuX s m j ∧ nuX s m j < s.nN) : flN (rtB s U) s.nN = cpN s := by
  obtain ⟨d, ac⟩ := h.ac
  have hcst : ∀ c, Inv s.nN U c ↔ Cst s c := fun c => (h.iv c).trans ⟨fun ⟨h1, _⟩ => h1, fun h1 => ⟨h1, fun j hj => absurd hj (Nat.not_lt_zero j)⟩⟩
  have hu : ∀ i, usK s s.nM 0 i = usd s s.nM i := fun i => by unfold usK; rw [tch, Bool.false_or]
  have h0 : ∀ m, m < s.nM → (nuX s m 0).toNat < s.nN := fun m hm => by have := hx m hm 0; omega
  have hcn : ∀ p m, p < s.nM → m < s.nM → (Cn s p m ↔ rcN U d (nuX s p 0).toNat = rcN U d (nuX s m 0).toNat) := fun p m hp hm => by
    constructor
    · intro hc
      exact hc _ ((hcst _).1 (rcN_inv ac))
    · intro e c hc
      have hi := (hcst c).2 hc
      have e1 : c (rcN U d (nuX s p 0).toNat) = c (nuX s p 0).toNat := rcf_inv ac hi (h0 p hp)
      have e2 : c (rcN U d (nuX s m 0).toNat) = c (nuX s m 0).toNat := rcf_inv ac hi (h0 m hm)
      rw [← e1, ← e2, e]
  have e1 : flN (rtB s U) s.nN = flN (fun r => dP (∃ p, p < s.nM ∧ rcN U d (nuX s p 0).toNat = r)) s.nN := by
    refine flN_eq fun r hr => ?_
    rw [Bool.eq_iff_iff, rtB, Bool.and_eq_true, decide_eq_true_iff, dP_iff, usd_iff]
    constructor
    · rintro ⟨⟨p, hp, j, hj, e⟩, hfix⟩
      refine ⟨p, hp, ?_⟩
      have hk := (hcst _).1 (rcN_inv ac) p hp j hj
      rw [← hk, e, Int.toNat_natCast, rcN_fix hfix]
    · rintro ⟨p, hp, e⟩
      obtain ⟨q1, q2⟩ := rcf_root (k := d (nuX s p 0).toNat) ac (h0 p hp) (Nat.le_refl _)
      have q2 : U (rcN U d (nuX s p 0).toNat) = rcN U d (nuX s p 0).toNat := q2
      rw [e] at q2
      refine ⟨?_, q2⟩
      have iu : Inv s.nN U (fun i => if usd s s.nM i = true then 1 else 0) := fun i hi => by
        cases hq : usd s s.nM i with
        | false =>
          have := h.us i hi (by rw [hu]; exact hq)
          simp only [this, Int.toNat_natCast, hq]
        | true =>
          have := h.uu i hi (by rw [hu]; exact hq)
          rw [hu] at this
          simp only [this, hq]
      have e2 : (if usd s s.nM (rcN U d (nuX s p 0).toNat) = true then 1 else 0) = if usd s s.nM (nuX s p 0).toNat = true then 1 else 0 := rcf_inv ac iu (h0 p hp)
      have e3 : usd s s.nM (nuX s p 0).toNat = true := usd_iff.2 ⟨p, hp, 0, nuN_pos s p, by have := hx p hp 0; omega⟩
      rw [e, e3, if_pos rfl] at e2
      refine usd_iff.1 (Decidable.byContradiction fun hn => ?_)
      rw [if_neg hn] at e2
      cases e2
  rw [e1, cls_count (f := fun m => rcN U d (nuX s m 0).toNat) fun p hp => (rcf_root ac (h0 p hp) (Nat.le_refl _)).1]
  unfold cpN
  refine flN_eq fun m hm => dP_congr (not_congr ⟨fun ⟨q, hq, e⟩ => ⟨q, hq, (hcn q m (by omega) hm).2 e⟩, fun ⟨q, hq, e⟩ => ⟨q, hq, (hcn q m (by omega) hm).1 e⟩⟩)
end Go.Abs
