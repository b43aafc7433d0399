/- Contracts. Contracts. -/
import Derived.Test.YtbemjdppfiabgaaK46
import Derived.Test.YtbemjdppfiabgaaK9
section
set_option linter.unusedVariables false
set_option linter.unusedSimpArgs false
set_option maxRecDepth 100000
namespace Go.Abs
open Go
/-- Whether two members have a node in common. -/
def metB (s : Scf) (k a b k' a' b' : Int) : Nat → Bool
  | 0 => false
  | j + 1 => metB s k a b k' a' b' j || hasN (fun q => endX s k' a' b' q) (endX s k a b j) (endN k' a' b')
def met (s : Scf) (m p : Nat) : Bool := metB s (s.K m) (s.A m) (s.B m) (s.K p) (s.A p) (s.B p) (endN (s.K m) (s.A m) (s.B m))
theorem metB_iff {s : Scf} {k a b k' a' b' : Int} : ∀ {n : Nat}, metB s k a b k' a' b' n = true ↔ ∃ j, j < n ∧ ∃ q, q < endN k' a' b' ∧ endX s k' a' b' q = endX s k a b j
  | 0 => ⟨fun h => (by cases h), fun ⟨j, hj, _⟩ => absurd hj (Nat.not_lt_zero j)⟩
  | n + 1 => by
    rw [metB, Bool.or_eq_true, metB_iff, hasN_iff]
    constructor
    · rintro (⟨j, hj, h⟩ | h)
      · exact ⟨j, by omega, h⟩
      · exact ⟨n, by omega, h⟩
    · rintro ⟨j, hj, h⟩
      rcases Nat.lt_or_ge j n with h1 | h1
      · exact .inl ⟨j, h1, h⟩
      · obtain rfl : j = n := by omega
        exact .inr h
theorem met_iff {s : Scf} {m p : Nat} : met s m p = true ↔ ∃ j, j < nuN s m ∧ ∃ q, q < nuN s p ∧ nuX s p q = nuX s m j := metB_iff
theorem Cn.refl (s : Scf) (m : Nat) : Cn s m m := fun _ _ => rfl
theorem Cn.trans {s : Scf} {a b c : Nat} (h : Cn s a b) (h2 : Cn s b c) : Cn s a c := fun f hf => (h f hf).trans (h2 f hf)
theorem met_cn {s : Scf} {m p : Nat} (hm : m < s.nM) (hp : p < s.nM) (h : met s m p = true) : Cn s m p := fun c hc => by
  obtain ⟨j, hj, q, hq, e⟩ := met_iff.1 h
  rw [← hc m hm j hj, ← e, hc p hp q hq]
/-- What is closed under meeting holds whole parts. -/
theorem cn_closed {s : Scf} {S : Nat → Prop} (hX : ∀ m, m < s.nM → ∀ j, 0 ≤ nuX s m j ∧ nuX s m j < s.nN) (hS : ∀ p, p < s.nM → S p → ∀ m, m < s.nM → met s p m = true → S m) {p m : Nat} (hp : p < s.nM) (hm : m < s.nM) (hc : Cn s p m) (h : S p) : S m := by
  have key : ∀ {m : Nat}, m < s.nM → ∀ {j : Nat}, j < nuN s m → ((∃ p, p < s.nM ∧ S p ∧ ∃ i, i < nuN s p ∧ (nuX s p i).toNat = (nuX s m j).toNat) ↔ S m) := fun {m} hm {j} hj => by
    constructor
    · rintro ⟨p, hp, hs, i, hi, e⟩
      refine hS p hp hs m hm (met_iff.2 ⟨i, hi, j, hj, ?_⟩)
      have h1 := (hX p hp i).1
      have h2 := (hX m hm j).1
      omega
    · intro hs
      exact ⟨m, hm, hs, j, hj, rfl⟩
  have hcst : Cst s (fun x => if dP (∃ p, p < s.nM ∧ S p ∧ ∃ i, i < nuN s p ∧ (nuX s p i).toNat = x) = true then 1 else 0) := fun m hm j hj => by
    have e := dP_congr ((key hm hj).trans (key hm (nuN_pos s m)).symm)
    dsimp only
    rw [e]
  have e := hc _ hcst
  rw [if_pos (dP_iff.2 ((key hp (nuN_pos s p)).2 h))] at e
  refine Classical.byContradiction fun hn => ?_
  rw [if_neg (fun h9 => hn ((key hm (nuN_pos s m)).1 (dP_iff.1 h9)))] at e
  cases e
/-- The members that have no mark. -/
def unm (s : Scf) (mk : Nat → Int) : Nat := flN (fun m => decide (mk m = 0)) s.nM
structure BI (s : Scf) (i : Nat) (mk : Nat → Int) : Prop where
  le : i ≤ s.nM
  mkd : ∀ m, m < s.nM → (mk m ≠ 0 ↔ ∃ p, p < i ∧ Cn s p m)
structure QI (s : Scf) (i k L : Nat) (Q mk : Nat → Int) : Prop where
  le : k ≤ L
  lt : i < s.nM
  q : ∀ j, j < L → ∃ d : Nat, Q j = d ∧ d < s.nM ∧ Cn s i d
  mkd : ∀ m, m < s.nM → (mk m ≠ 0 ↔ (∃ p, p < i ∧ Cn s p m) ∨ ∃ j, j < L ∧ Q j = m)
  cl : ∀ j, j < k → ∀ m, m < s.nM → met s (Q j).toNat m = true → mk m ≠ 0
  sz : unm s mk + L ≤ s.nM
  fs : fsB s i = true
  im : mk i ≠ 0
structure QK (s : Scf) (i k B m L : Nat) (Q mk : Nat → Int) : Prop where
  qi : QI s i k L Q mk
  lt : k < L
  le : m ≤ s.nM
  ck : ∀ p, p < m → met s (Q k).toNat p = true → mk p ≠ 0
  sb : unm s mk + L ≤ B
theorem unm_drop {s : Scf} {mk : Nat → Int} {n : Int} {m : Nat} (hm : m < s.nM) (h0 : mk m = 0) (hn : n ≠ 0) : unm s (fun a => if a = m then n else mk a) + 1 ≤ unm s mk := by
  refine flN_drop (p := fun a => decide (mk a = 0)) (q := fun a => decide ((if a = m then n else mk a) = 0)) (fun a ha => ?_) (i := m) (decide_eq_true h0) (decide_eq_false (by rw [if_pos rfl]; exact hn)) hm
  rw [decide_eq_true_iff] at ha ⊢
  by_cases e : a = m
  · rw [e]; exact h0
  · rwa [if_neg e] at ha
theorem BI.zero {s : Scf} : BI s 0 (fun _ => 0) := ⟨Nat.zero_le _, fun m _ => ⟨fun h => absurd rfl h, fun ⟨p, hp, _⟩ => absurd hp (Nat.not_lt_zero p)⟩⟩
theorem BI.skip {s : Scf} {i : Nat} {mk : Nat → Int} (h : BI s i mk) (hi : i < s.nM) (h0 : mk i ≠ 0) : BI s (i + 1) mk ∧ ¬ fsB s i = true := by
  obtain ⟨p0, hp0, hc0⟩ := (h.mkd i hi).1 h0
  refine ⟨⟨hi, fun m hm => (h.mkd m hm).trans ⟨fun ⟨p, hp, hc⟩ => ⟨p, by omega, hc⟩, fun ⟨p, hp, hc⟩ => ?_⟩⟩, fun hf => dP_iff.1 hf ⟨p0, hp0, hc0⟩⟩
  rcases Nat.lt_or_ge p i with h1 | h1
  · exact ⟨p, h1, hc⟩
  · obtain rfl : p = i := by omega
    exact ⟨p0, hp0, hc0.trans hc⟩
theorem BI.start {s : Scf} {i : Nat} {mk : Nat → Int} {n : Int} (h : BI s i mk) (hi : i < s.nM) (h0 : mk i = 0) (hn : n ≠ 0) : QI s i 0 1 (fun _ => (i : Int)) (fun a => if a = i then n else mk a) := by
  refine ⟨Nat.zero_le _, hi, fun j _ => ⟨i, rfl, hi, Cn.refl s i⟩, fun m hm => ?_, fun j hj => absurd hj (Nat.not_lt_zero j), ?_, dP_iff.2 fun ⟨p, hp, hc⟩ => (h.mkd i hi).2 ⟨p, hp, hc⟩ h0, by rw [if_pos rfl]; exact hn⟩
  · by_cases e : m = i
    · rw [if_pos e]
      exact ⟨fun _ => .inr ⟨0, by omega, by rw [e]⟩, fun _ => hn⟩
    · rw [if_neg e, h.mkd m hm]
      exact ⟨.inl, fun hh => hh.elim (fun h => h) fun ⟨_, _, e2⟩ => absurd (by omega) e⟩
  · have h1 := unm_drop hi h0 hn
    have h2 : unm s mk ≤ s.nM := flN_le _ _
    omega
theorem QI.fin {s : Scf} {i k L : Nat} {Q mk : Nat → Int} (h : QI s i k L Q mk) (hX : ∀ m, m < s.nM → ∀ j, 0 ≤ nuX s m j ∧ nuX s m j < s.nN) (hk : ¬ k < L) : BI s (i + 1) mk := by
  refine ⟨h.lt, fun m hm => ⟨fun h0 => ?_, fun ⟨p, hp, hc⟩ => ?_⟩⟩
  · rcases (h.mkd m hm).1 h0 with ⟨p, hp, hc⟩ | ⟨j, hj, e⟩
    · exact ⟨p, by omega, hc⟩
    · obtain ⟨d, e2, _, hc⟩ := h.q j hj
      obtain rfl : d = m := by omega
      exact ⟨i, by omega, hc⟩
  · rcases Nat.lt_or_ge p i with h1 | h1
    · exact (h.mkd m hm).2 (.inl ⟨p, h1, hc⟩)
    · obtain rfl : p = i := by omega
      refine cn_closed (S := fun m => mk m ≠ 0) hX (fun a ha hs b hb hmet => ?_) h.lt hm hc h.im
      rcases (h.mkd a ha).1 hs with ⟨p0, hp0, hc0⟩ | ⟨j, hj, e⟩
      · exact (h.mkd b hb).2 (.inl ⟨p0, hp0, hc0.trans (met_cn ha hb hmet)⟩)
      · exact h.cl j (by omega) b hb (by rw [e, Int.toNat_natCast]; exact hmet)
theorem QI.begin {s : Scf} {i k L : Nat} {Q mk : Nat → Int} (h : QI s i k L Q mk) (hk : k < L) : QK s i k (unm s mk + L) 0 L Q mk := ⟨h, hk, Nat.zero_le _, fun p hp => absurd hp (Nat.not_lt_zero p), Nat.le_refl _⟩
theorem QK.done {s : Scf} {i k B m L : Nat} {Q mk : Nat → Int} (h : QK s i k B m L Q mk) (hm : ¬ m < s.nM) : QI s i (k + 1) L Q mk :=
  ⟨h.lt, h.qi.lt, h.qi.q, h.qi.mkd, fun j hj a ha hmet => by
    rcases Nat.lt_or_ge j k with h1 | h1
    · exact h.qi.cl j h1 a ha hmet
    · obtain rfl : j = k := by omega
      exact h.ck a (by omega) hmet, h.qi.sz, h.qi.fs, h.qi.im⟩
theorem QK.skip {s : Scf} {i k B m L : Nat} {Q mk : Nat → Int} (h : QK s i k B m L Q mk) (hm : m < s.nM) (hno : mk m = 0 → ¬ met s (Q k).toNat m = true) : QK s i k B (m + 1) L Q mk :=
  ⟨h.qi, h.lt, hm, fun p hp hmet => by
    rcases Nat.lt_or_ge p m with h1 | h1
    · exact h.ck p h1 hmet
    · obtain rfl : p = m := by omega
      exact fun h0 => hno h0 hmet, h.sb⟩
theorem QK.take {s : Scf} {i k B m L : Nat} {Q mk : Nat → Int} {n : Int} (h : QK s i k B m L Q mk) (hm : m < s.nM) (h0 : mk m = 0) (hn : n ≠ 0) (hmet : met s (Q k).toNat m = true) : QK s i k B (m + 1) (L + 1) (fun j => if j < L then Q j else (m : Int)) (fun a => if a = m then n else mk a) := by
  obtain ⟨⟨le, lt, q, mkd, cl, sz, fs, im⟩, kl, lem, ck, sb⟩ := h
  have hd := unm_drop hm h0 hn
  have hkeep : ∀ a, mk a ≠ 0 → (if a = m then n else mk a) ≠ 0 := fun a ha => by
    by_cases e : a = m
    · rw [if_pos e]; exact hn
    · rw [if_neg e]; exact ha
  refine ⟨⟨by omega, lt, fun j hj => ?_, fun a ha => ?_, fun j hj a ha hmet => ?_, by omega, fs, hkeep i im⟩, by omega, hm, fun p hp hp2 => ?_, by omega⟩
  · by_cases e : j < L
    · obtain ⟨d, h1, h2, h3⟩ := q j e
      exact ⟨d, by rw [if_pos e]; exact h1, h2, h3⟩
    · obtain ⟨d, h1, h2, h3⟩ := q k kl
      rw [h1, Int.toNat_natCast] at hmet
      exact ⟨m, if_neg e, hm, h3.trans (met_cn h2 hm hmet)⟩
  · by_cases e : a = m
    · rw [if_pos e]
      exact ⟨fun _ => .inr ⟨L, by omega, by rw [if_neg (Nat.lt_irrefl _), e]⟩, fun _ => hn⟩
    · rw [if_neg e, mkd a ha]
      constructor
      · rintro (h | ⟨j, hj, h⟩)
        · exact .inl h
        · exact .inr ⟨j, by omega, by rw [if_pos hj]; exact h⟩
      · rintro (h | ⟨j, hj, h⟩)
        · exact .inl h
        · by_cases e2 : j < L
          · rw [if_pos e2] at h; exact .inr ⟨j, e2, h⟩
          · rw [if_neg e2] at h; exact absurd (by omega) e
  · have hj2 : j < L := by omega
    rw [if_pos hj2] at hmet
    exact hkeep a (cl j hj a ha hmet)
  · rw [if_pos kl] at hp2
    by_cases e : p = m
    · rw [if_pos e]; exact hn
    · rw [if_neg e]; exact ck p (by omega) hp2
end Go.Abs
end
section
set_option linter.unusedVariables false
set_option linter.unusedSimpArgs false
set_option maxRecDepth 100000
namespace Go.Abs
open Go
noncomputable def A93_meet_c (s : Scf) (k a b k' a' b' : Int) : Ann := { orc := [(1, [(2, .res fun q => .lst (endN (fI 0 (arg q 1)) (fI 1 (arg q 1)) (fI 2 (arg q 1))) [fun j => dI (endX s (fI 0 (arg q 1)) (fI 1 (arg q 1)) (fI 2 (arg q 1)) j)]), (5, .res fun q => .lst (endN (fI 0 (arg q 1)) (fI 1 (arg q 1)) (fI 2 (arg q 1))) [fun j => dI (endX s (fI 0 (arg q 1)) (fI 1 (arg q 1)) (fI 2 (arg q 1)) j)])]), (5, [(5, .res fun q => dB (hasN (fun j => colI 0 (arg q 0) j) (aI q 1) (lenOf (arg q 0))))])], loops := [(0, { ι := Nat, keep := [7, 8], boxes := [], ts := fun _ i => [(9, dI (i : Int))], inv := fun _ i => i ≤ endN k a b ∧ metB s k a b k' a' b' i = false, mu := fun _ i => endN k a b - i, rd := fun _ σ => (iOf (σ.get 9)).toNat })], cuts := [] }
theorem meet_c (s : Scf) (k a b k' a' b' : Int) (hn : s.nN ≤ 1000000) (ha : 0 ≤ a ∧ a < s.nN) (hb : 0 ≤ b ∧ b < s.nN) (ha' : 0 ≤ a' ∧ a' < s.nN) (hb' : 0 ≤ b' ∧ b' < s.nN) : FnC prog 93 [scfD s, dM k a b, dM k' a' b'] (dB (metB s k a b k' a' b' (endN k a b))) := by
  refine FnC_owed hmix (A93_meet_c s k a b k' a' b') (V := .need [FnC prog 135 [.agg [.lst s.nN [fun i => (dI (s.X i)), fun i => (dI (s.Y i)), fun i => (dI (s.Z i))], .lst s.nM [fun i => (dI (s.K i)), fun i => (dI (s.A i)), fun i => (dI (s.B i))]], .val (.agg (Array.mk [.int .i64 k, .int .i64 a, .int .i64 b]))] (.lst (endN k a b) [fun j => (dI (endX s k a b j))]), FnC prog 135 [.agg [.lst s.nN [fun i => (dI (s.X i)), fun i => (dI (s.Y i)), fun i => (dI (s.Z i))], .lst s.nM [fun i => (dI (s.K i)), fun i => (dI (s.A i)), fun i => (dI (s.B i))]], .val (.agg (Array.mk [.int .i64 k', .int .i64 a', .int .i64 b']))] (.lst (endN k' a' b') [fun j => (dI (endX s k' a' b' j))])] (.loop Nat (fun a_1 => a_1 ≤ endN k a b ∧ metB s k a b k' a' b' a_1 = false) (0:Int).toNat [(0:Int) = (↑(0:Int).toNat : Int), endN k a b = endN k a b, ∀ i < endN k a b, endX s k a b i = endX s k a b i, endN k' a' b' = endN k' a' b', ∀ i < endN k' a' b', endX s k' a' b' i = endX s k' a' b' i] fun i => .ite (decide ((i:Int) < (↑(endN k a b) : Int))) (.need [(0:Int) ≤ (i:Int) ∧ (i:Int) < (↑(endN k a b) : Int), FnC prog 27 [.lst (endN k' a' b') [fun j => (dI (endX s k' a' b' j))], (dI (endX s k a b (i:Int).toNat))] ((dB (hasN (endX s k' a' b') (endX s k a b (i:Int).toNat) (endN k' a' b'))))] (.ite (hasN (endX s k' a' b') (endX s k a b (i:Int).toNat) (endN k' a' b')) (.done [true = metB s k a b k' a' b' (endN k a b)]) (.need [i64In ((i:Int) + 1)] (.done [(i:Int) + 1 = (↑((i:Int) + 1).toNat : Int), endN k a b = endN k a b, ∀ i < endN k a b, endX s k a b i = endX s k a b i, endN k' a' b' = endN k' a' b', ∀ i < endN k' a' b', endX s k' a' b' i = endX s k' a' b' i, Int.toNat ((i:Int) + 1) ≤ endN k a b ∧ metB s k a b k' a' b' ((i:Int) + 1).toNat = false, endN k a b - ((i:Int) + 1).toNat < endN k a b - i])))) (.done [false = metB s k a b k' a' b' (endN k a b)]))) (by kernel_rfl) ?_
  simp only [VT.holds, AllT, Sq]
  refine ⟨⟨endsR_c s k a b hn ha hb, endsR_c s k' a' b' hn ha' hb'⟩, rfl, ⟨Nat.zero_le _, rfl⟩, fun i ⟨hi, hb'⟩ => ⟨fun hlt => ?_, fun hge => ?_⟩⟩
  · have hlt : i < endN k a b := by omega
    have h4 : ∀ k a b, endN k a b ≤ 4 := fun k a b => by
      unfold endN
      split
      · decide
      · split <;> decide
    have h4a := h4 k a b
    have h4b := h4 k' a' b'
    refine ⟨⟨⟨by omega, by omega⟩, has_i _ _ _ (by omega)⟩, fun h => (metB_iff.2 ?_).symm, fun h => ⟨by unfold i64In; omega, by omega, ⟨hlt, ?_⟩, by omega⟩⟩
    · obtain ⟨q, hq, e⟩ := hasN_iff.1 h
      exact ⟨i, hlt, q, hq, e⟩
    · rw [metB, hb', Bool.false_or]; exact h
  · have e : i = endN k a b := by omega
    rw [← e]; exact hb'.symm
noncomputable def A31_componentsR_c (s : Scf) : Ann := { orc := [(16, [(20, .res fun q => dB (metB s (fI 0 (arg q 1)) (fI 1 (arg q 1)) (fI 2 (arg q 1)) (fI 0 (arg q 2)) (fI 1 (arg q 2)) (fI 2 (arg q 2)) (endN (fI 0 (arg q 1)) (fI 1 (arg q 1)) (fI 2 (arg q 1)))))])], loops := [(0, { ι := Nat × (Nat → Int), keep := [1, 3], boxes := [1], ts := fun _ p => [(4, dI (flN (fsB s) p.1 : Int)), (5, dI (p.1 : Int))], mo := fun _ p => [(3, none, .row s.nM [fun j => dI (p.2 j)])], inv := fun _ p => BI s p.1 p.2, mu := fun _ p => s.nM - p.1, rd := fun _ σ => ((iOf (σ.get 5)).toNat, fun j => objJ1 (σ.obj (mid (σ.get 3))) j) }), (2, { ι := Nat × Nat × (Nat → Int) × (Nat → Int), keep := [1, 3, 4, 5], boxes := [1], ts := fun _ p => [(7, dI (p.1 : Int))], rw := fun _ p => [(6, 1, p.2.1, [fun j => dI (p.2.2.1 j)])], mo := fun _ p => [(3, none, .row s.nM [fun j => dI (p.2.2.2 j)])], inv := fun σ p => QI s (iOf (σ.get 5)).toNat p.1 p.2.1 p.2.2.1 p.2.2.2, mu := fun _ p => unm s p.2.2.2 + (p.2.1 - p.1), rd := fun _ σ => ((iOf (σ.get 7)).toNat, rowN (σ.get 6), (fun j => objC (σ.obj (mid (σ.get 6))) j), fun j => objJ1 (σ.obj (mid (σ.get 3))) j) }), (4, { ι := Nat × Nat × (Nat → Int) × (Nat → Int), keep := [1, 3, 4, 5, 7], boxes := [1], ts := fun _ p => [(8, dI (p.1 : Int))], rw := fun _ p => [(6, 1, p.2.1, [fun j => dI (p.2.2.1 j)])], mo := fun _ p => [(3, none, .row s.nM [fun j => dI (p.2.2.2 j)])], inv := fun σ p => QK s (iOf (σ.get 5)).toNat (iOf (σ.get 7)).toNat (unm s (fun j => objJ1 (σ.obj (mid (σ.get 3))) j) + rowN (σ.get 6)) p.1 p.2.1 p.2.2.1 p.2.2.2, mu := fun _ p => s.nM - p.1, rd := fun _ σ => ((iOf (σ.get 8)).toNat, rowN (σ.get 6), (fun j => objC (σ.obj (mid (σ.get 6))) j), fun j => objJ1 (σ.obj (mid (σ.get 3))) j) })], cuts := [] }
noncomputable abbrev componentsR_cr0 (s : Scf) (r : List Prop) : List Prop := (s.nN = s.nN) :: (∀ (i : Nat), i < s.nN → s.X i = s.X i) :: (∀ (i : Nat), i < s.nN → s.Y i = s.Y i) :: (∀ (i : Nat), i < s.nN → s.Z i = s.Z i) :: (s.nM = s.nM) :: (∀ (i : Nat), i < s.nM → s.K i = s.K i) :: (∀ (i : Nat), i < s.nM → s.A i = s.A i) :: (∀ (i : Nat), i < s.nM → s.B i = s.B i) :: r
theorem componentsR_c (s : Scf) (hc : ScfOK s) : FnC prog 31 [scfD s] (dI (cpN s : Int)) := by
  refine FnC_owed hmix (A31_componentsR_c s) (V := .need [(0:Int) ≤ (s.nM:Int) ∧ (s.nM:Int) = (s.nM:Int) ∧ (s.nM:Int) ≤ 140737488355328 ∧ prog.types[(3:Nat)].4 * Int.toNat (s.nM:Int) ≤ 281474976710656] (.loop (Nat × (Nat → Int)) (fun (a : Nat × (Nat → Int)) => BI s a.fst a.2) (Int.toNat (0:Int), fun j => (0:Int)) (((0:Int) = (↑(flN (fsB s) (0:Int).toNat) : Int)) :: (((0:Int) = (↑(0:Int).toNat : Int)) :: (((0:Nat) = 0) :: ((Int.toNat (s.nM:Int) = (s.nM:Int).toNat) :: ((Int.toNat (s.nM:Int) = s.nM) :: ((∀ i < s.nM, (0:Int) = 0) :: (componentsR_cr0 s []))))))) fun (i : Nat × (Nat → Int)) => .ite (decide ((i.fst:Int) < (↑(s.nM:Int).toNat : Int))) (.need [(0:Int) ≤ (i.fst:Int) ∧ (i.fst:Int) < (↑(s.nM:Int).toNat : Int), addN 0 (i.fst:Int).toNat < s.nM] (.ite (i.2 (addN 0 (i.fst:Int).toNat) != 0) (.need [i64In ((i.fst:Int) + 1)] (.done (((↑(flN (fsB s) i.fst) : Int) = (↑(flN (fsB s) ((i.fst:Int) + 1).toNat) : Int)) :: (((i.fst:Int) + 1 = (↑((i.fst:Int) + 1).toNat : Int)) :: (((0:Nat) = 0) :: ((Int.toNat (s.nM:Int) = (s.nM:Int).toNat) :: ((s.nM = s.nM) :: ((∀ i_1 < s.nM, i.2 i_1 = i.2 i_1) :: (componentsR_cr0 s [BI s ((i.fst:Int) + 1).toNat i.2, s.nM - ((i.fst:Int) + 1).toNat < s.nM - i.fst]))))))))) (.need [i64In ((↑(flN (fsB s) i.fst) : Int) + 1)] (.need [(0:Int) ≤ (i.fst:Int) ∧ (i.fst:Int) < (↑(s.nM:Int).toNat : Int), addN 0 (i.fst:Int).toNat < s.nM] (.loop (Nat × Nat × (Nat → Int) × (Nat → Int)) (fun (a : Nat × Nat × (Nat → Int) × (Nat → Int)) => QI s (i.fst:Int).toNat a.fst a.snd.fst a.snd.snd.1 a.snd.snd.2) (Int.toNat (0:Int), (1:Nat), fun j => (i.fst:Int), fun j => if decide (j = addN 0 (i.fst:Int).toNat) = true then (↑(flN (fsB s) i.fst) : Int) + (1 :
     Int) else i.2 j) (((0:Int) = (↑(0:Int).toNat : Int)) :: (((0:Nat) = 0) :: (((1:Nat) = 1) :: (((0:Nat) = 0) :: ((Int.toNat (s.nM:Int) = (s.nM:Int).toNat) :: (((↑(flN (fsB s) i.fst) : Int) + 1 = (↑(flN (fsB s) i.fst) : Int) + 1) :: (((i.fst:Int) = (i.fst:Int)) :: (((1:Nat) = 1) :: ((∀ i_1 < 1, (i.fst:Int) = (i.fst:Int)) :: ((s.nM = s.nM) :: ((∀ i_1 < s.nM, (if decide (i_1 = addN 0 (i.fst:Int).toNat) = true then (↑(flN (fsB s) i.fst) : Int) + 1 else i.2 i_1) = if decide (i_1 = addN 0 (i.fst:Int).toNat) = true then (↑(flN (fsB s) i.fst) : Int) + 1 else i.2 i_1) :: (componentsR_cr0 s [])))))))))))) fun (i_1 : Nat × Nat × (Nat → Int) × (Nat → Int)) => .ite (decide ((i_1.fst:Int) < (i_1.snd.fst:Int))) (.loop (Nat × Nat × (Nat → Int) × (Nat → Int)) (fun (a : Nat × Nat × (Nat → Int) × (Nat → Int)) => QK s (i.fst:Int).toNat (i_1.fst:Int).toNat (unm s i_1.snd.snd.2 + i_1.snd.fst) a.fst a.snd.fst a.snd.snd.1 a.snd.snd.2) (Int.toNat (0:Int), i_1.snd.fst, fun j => i_1.snd.snd.1 j, fun j => i_1.snd.snd.2 j) (((0:Int) = (↑(0:Int).toNat : Int)) :: (((0:Nat) = 0) :: ((i_1.snd.fst = i_1.snd.fst) :: (((0:Nat) = 0) :: ((Int.toNat (s.nM:Int) = (s.nM:Int).toNat) :: (((↑(flN (fsB s) i.fst) : Int) + 1 = (↑(flN (fsB s) i.fst) : Int) + 1) :: (((i.fst:Int) = (i.fst:Int)) :: (((i_1.fst:Int) = (i_1.fst:Int)) :: ((i_1.snd.fst = i_1.snd.fst) :: ((∀ i < i_1.snd.fst, i_1.snd.snd.1 i = i_1.snd.snd.1 i) :: ((s.nM = s.nM) :: ((∀ i < s.nM, i_1.snd.snd.2 i = i_1.snd.snd.2 i) :: (componentsR_cr0 s []))))))))))))) fun (i_2 : Nat × Nat × (Nat → Int) × (Nat → Int)) => .ite (decide ((i_2.fst:Int) < (↑(s.nM:Int).toNat : Int))) (.need [(0:Int) ≤ (i_2.fst:Int) ∧ (i_2.fst:Int) < (↑(s.nM:Int).toNat
     : Int), addN 0 (i_2.fst:Int).toNat < s.nM, ri ((i_2.snd.snd.2 (addN 0 (i_2.fst:Int).toNat) == 0) = true), ri ((i_2.snd.snd.2 (addN 0 (i_2.fst:Int).toNat) == 0) = true), ri ((i_2.snd.snd.2 (addN 0 (i_2.fst:Int).toNat) == 0) = true), (i_2.snd.snd.2 (addN 0 (i_2.fst:Int).toNat) == 0) = true → (0:Int) ≤ (i_1.fst:Int) ∧ (i_1.fst:Int) < (i_2.snd.fst:Int), ri ((i_2.snd.snd.2 (addN 0 (i_2.fst:Int).toNat) == 0) = true), (i_2.snd.snd.2 (addN 0 (i_2.fst:Int).toNat) == 0) = true → addN 0 (i_1.fst:Int).toNat < i_2.snd.fst, ri ((i_2.snd.snd.2 (addN 0 (i_2.fst:Int).toNat) == 0) = true), ri ((i_2.snd.snd.2 (addN 0 (i_2.fst:Int).toNat) == 0) = true), (i_2.snd.snd.2 (addN 0 (i_2.fst:Int).toNat) == 0) = true → (0:Int) ≤ i_2.snd.snd.1 (addN 0 (i_1.fst:Int).toNat) ∧ i_2.snd.snd.1 (addN 0 (i_1.fst:Int).toNat) < (s.nM:Int), ri ((i_2.snd.snd.2 (addN 0 (i_2.fst:Int).toNat) == 0) = true), ri ((i_2.snd.snd.2 (addN 0 (i_2.fst:Int).toNat) == 0) = true), (i_2.snd.snd.2 (addN 0 (i_2.fst:Int).toNat) == (0 :
     Int)) = true → (i_2.snd.snd.2 (addN 0 (i_2.fst:Int).toNat) == 0) = true, ri ((i_2.snd.snd.2 (addN 0 (i_2.fst:Int).toNat) == 0) = true), (i_2.snd.snd.2 (addN 0 (i_2.fst:Int).toNat) == 0) = true → (0:Int) ≤ (i_2.fst:Int) ∧ (i_2.fst:Int) < (s.nM:Int), ri ((i_2.snd.snd.2 (addN 0 (i_2.fst:Int).toNat) == 0) = true), ri ((i_2.snd.snd.2 (addN 0 (i_2.fst:Int).toNat) == 0) = true), ri ((i_2.snd.snd.2 (addN 0 (i_2.fst:Int).toNat) == 0) = true), ri ((i_2.snd.snd.2 (addN 0 (i_2.fst:Int).toNat) == 0) = true), (i_2.snd.snd.2 (addN 0 (i_2.fst:Int).toNat) == 0) = true → FnC prog 93 [.agg [.lst s.nN [fun i => (dI (s.X i)), fun i => (dI (s.Y i)), fun i => (dI (s.Z i))], .lst s.nM [fun i => (dI (s.K i)), fun i => (dI (s.A i)), fun i => (dI (s.B i))]], .val (.agg (Array.mk [.int .i64 (s.K (i_2.snd.snd.1 (addN 0 (i_1.fst:Int).toNat)).toNat), .int .i64 (s.A (i_2.snd.snd.1 (addN 0 (i_1.fst:Int).toNat)).toNat), .int .i64 (s.B (i_2.snd.snd.1 (addN 0 (i_1.fst:Int).toNat)).toNat)])), .val (.agg (Array.mk [.int .i64 (s.K (i_2.fst:Int).toNat), .int .i64 (s.A (i_2.fst:Int).toNat), .int .i64 (s.B (i_2.fst:Int).toNat)]))] ((dB (metB s (s.K (i_2.snd.snd.1 (addN 0 (i_1.fst:Int).toNat)).toNat) (s.A (i_2.snd.snd.1 (addN 0 (i_1.fst:Int).toNat)).toNat) (s.B
     (i_2.snd.snd.1 (addN 0 (i_1.fst:Int).toNat)).toNat) (s.K (i_2.fst:Int).toNat) (s.A (i_2.fst:Int).toNat) (s.B (i_2.fst:Int).toNat) (endN (s.K (i_2.snd.snd.1 (addN 0 (i_1.fst:Int).toNat)).toNat) (s.A (i_2.snd.snd.1 (addN 0 (i_1.fst:Int).toNat)).toNat) (s.B (i_2.snd.snd.1 (addN 0 (i_1.fst:Int).toNat)).toNat))))), ri ((i_2.snd.snd.2 (addN 0 (i_2.fst:Int).toNat) == 0) = true)] (.ite (if (i_2.snd.snd.2 (addN 0 (i_2.fst:Int).toNat) == 0) = true then metB s (s.K (i_2.snd.snd.1 (addN 0 (i_1.fst:Int).toNat)).toNat) (s.A (i_2.snd.snd.1 (addN 0 (i_1.fst:Int).toNat)).toNat) (s.B (i_2.snd.snd.1 (addN 0 (i_1.fst:Int).toNat)).toNat) (s.K (i_2.fst:Int).toNat) (s.A (i_2.fst:Int).toNat) (s.B (i_2.fst:Int).toNat) (endN (s.K (i_2.snd.snd.1 (addN 0 (i_1.fst:Int).toNat)).toNat) (s.A (i_2.snd.snd.1 (addN 0 (i_1.fst:Int).toNat)).toNat) (s.B (i_2.snd.snd.1 (addN 0 (i_1.fst:Int).toNat)).toNat)) else false) (.need [(0:Int) ≤ (i_2.fst:Int) ∧ (i_2.fst:Int) < (↑(s.nM:Int).toNat : Int), addN 0 (i_2.fst:Int).toNat < s.nM] (.need [i_2.snd.fst ≤ i_2.snd.fst, (i_2.snd.fst + 1) * (nat_lit 7 + 1) ≤ 140737488355328, (1:Nat) ≤ 1] (.need [i64In ((i_2.fst:Int) + 1)] (.done (((i_2.fst:Int) + 1 = (↑((i_2.fst:Int) + 1).toNat : Int)) :: (((0:Nat) = 0) :: ((i_2.snd.fst + 1 = i_2.snd.fst + 1) :: (((0:Nat) = 0) :: ((Int.toNat (s.nM:Int) = (s.nM:Int).toNat) :: (((↑(flN (fsB s) i.fst) : Int) + 1 = (↑(flN (fsB s) i.fst) : Int) + 1) :: (((↑i.fst
     : Int) = (i.fst:Int)) :: (((i_1.fst:Int) = (i_1.fst:Int)) :: ((i_2.snd.fst + 1 = i_2.snd.fst + 1) :: ((∀ i < i_2.snd.fst + 1, (if decide (i < i_2.snd.fst) = true then i_2.snd.snd.1 i else (i_2.fst:Int)) = if decide (i < i_2.snd.fst) = true then i_2.snd.snd.1 i else (i_2.fst:Int)) :: ((s.nM = s.nM) :: ((∀ i_3 < s.nM, (if decide (i_3 = addN 0 (i_2.fst:Int).toNat) = true then (↑(flN (fsB s) i.fst) : Int) + 1 else i_2.snd.snd.2 i_3) = if decide (i_3 = addN 0 (i_2.fst:Int).toNat) = true then (↑(flN (fsB s) i.fst) : Int) + 1 else i_2.snd.snd.2 i_3) :: (componentsR_cr0 s [QK s (i.fst:Int).toNat (i_1.fst:Int).toNat (unm s i_1.snd.snd.2 + i_1.snd.fst) ((i_2.fst:Int) + 1).toNat (i_2.snd.fst + 1) (fun a => if decide (a < i_2.snd.fst) = true then i_2.snd.snd.1 a else (i_2.fst:Int)) fun a => if decide (a = addN 0 (i_2.fst:Int).toNat) = true then (↑(flN (fsB s) i.fst) : Int) + 1 else i_2.snd.snd.2 a, s.nM - ((i_2.fst:Int) + 1).toNat < s.nM - i_2.fst]))))))))))))))))) (.need [i64In ((i_2.fst:Int) + 1)] (.done (((i_2.fst:Int) + 1 = (↑((i_2.fst:Int) + 1).toNat : Int)) :: (((0:Nat) = 0) :: ((i_2.snd.fst = i_2.snd.fst) :: (((0:Nat) = 0) :: ((Int.toNat (s.nM:Int) = (s.nM:Int).toNat) :: (((↑(flN (fsB s) i.fst) : Int) + 1 = (↑(flN (fsB s) i.fst) : Int) + 1) :: (((i.fst:Int) = (i.fst:Int)) :: (((i_1.fst:Int) = (i_1.fst:Int)) :: ((i_2.snd.fst = i_2.snd.fst) :: ((∀ i < i_2.snd.fst, i_2.snd.snd.1 i = i_2.snd.snd.1 i) :: ((s.nM = s.nM) :: ((∀ i < s.nM, i_2.snd.snd.2 i = i_2.snd.snd.2 i) :: (componentsR_cr0 s [QK s (i.fst:Int).toNat (i_1.fst:Int).toNat (unm s i_1.snd.snd.2 + i_1.snd.fst) ((i_2.fst:Int) + 1).toNat i_2.snd.fst i_2.snd.snd.1
     i_2.snd.snd.2, s.nM - ((i_2.fst:Int) + 1).toNat < s.nM - i_2.fst]))))))))))))))))) (.need [i64In ((i_1.fst:Int) + 1)] (.done (((i_1.fst:Int) + 1 = (↑((i_1.fst:Int) + 1).toNat : Int)) :: (((0:Nat) = 0) :: ((i_2.snd.fst = i_2.snd.fst) :: (((0:Nat) = 0) :: ((Int.toNat (s.nM:Int) = (s.nM:Int).toNat) :: (((↑(flN (fsB s) i.fst) : Int) + 1 = (↑(flN (fsB s) i.fst) : Int) + 1) :: (((i.fst:Int) = (i.fst:Int)) :: ((i_2.snd.fst = i_2.snd.fst) :: ((∀ i < i_2.snd.fst, i_2.snd.snd.1 i = i_2.snd.snd.1 i) :: ((s.nM = s.nM) :: ((∀ i < s.nM, i_2.snd.snd.2 i = i_2.snd.snd.2 i) :: (componentsR_cr0 s [QI s (i.fst:Int).toNat ((i_1.fst:Int) + 1).toNat i_2.snd.fst i_2.snd.snd.1 i_2.snd.snd.2, unm s i_2.snd.snd.2 + (i_2.snd.fst - ((i_1.fst:Int) + 1).toNat) < unm s i_1.snd.snd.2 + (i_1.snd.fst - i_1.fst)]))))))))))))))) (.need [i64In ((i.fst:Int) + 1)] (.done (((↑(flN (fsB s) i.fst) : Int) + 1 = (↑(flN (fsB s) ((i.fst:Int) + 1).toNat) : Int)) :: (((i.fst:Int) + 1 = (↑((i.fst:Int) + 1).toNat : Int)) :: (((0:Nat) = 0) :: ((Int.toNat (s.nM:Int) = (s.nM:Int).toNat) :: ((s.nM = s.nM) :: ((∀ i < s.nM, i_1.snd.snd.2 i = i_1.snd.snd.2 i) :: (componentsR_cr0 s [BI s ((i.fst:Int) + 1).toNat i_1.snd.snd.2, s.nM - ((i.fst:Int) + 1).toNat < s.nM - i.fst])))))))))))))) (.done [(↑(flN (fsB s) i.fst) : Int) = (↑(cpN s) : Int)]))) (by kernel_rfl) ?_
  simp only [VT.holds, AllT, componentsR_cr0, Sq]
  have hn := hc.nN
  have hm := hc.nM
  have t3 : prog.types[3].bytes = 8 := by kernel_rfl
  have hk : ∀ m, m < s.nM → s.K m = 6 → crn_ok s (s.A m) (s.B m) := fun m hm h6 => by
    have hr := hc.right m hm
    rw [h6] at hr; exact (rgt6 hr).2
  have hX : ∀ m, m < s.nM → ∀ j, 0 ≤ nuX s m j ∧ nuX s m j < s.nN := fun m hm j => end_bd (hc.ends m hm).1 (hc.ends m hm).2 (hk m hm) j
  simp only [add0]
  refine ⟨⟨by omega, by omega, by rw [t3]; omega⟩, ⟨rfl, rfl⟩, BI.zero, fun ⟨i, mk⟩ hb => ⟨fun hlt => ?_, fun hge => ?_⟩⟩
  · dsimp only at hb hlt ⊢
    have hlt : i < s.nM := by omega
    have hle := flN_le (fsB s) i
    have hnz : ((flN (fsB s) i : Nat) : Int) + 1 ≠ 0 := by omega
    refine ⟨⟨⟨by omega, by omega⟩, hlt⟩, fun h0 => ?_, fun h0 => ⟨by unfold i64In; omega, ⟨⟨by omega, by omega⟩, hlt⟩, rfl, hb.start hlt h0 hnz, fun ⟨k, L, Q, mk1⟩ hq => ⟨fun hkl => ?_, fun hkg => ?_⟩⟩⟩
    · obtain ⟨b1, b2⟩ := hb.skip hlt h0
      exact ⟨by unfold i64In; omega, by rw [flN_no b2], by omega, b1, by omega⟩
    · dsimp only at hq hkl ⊢
      have hkl : k < L := by omega
      have hsz := hq.sz
      refine ⟨rfl, hq.begin hkl, fun ⟨m, L2, Q2, mk2⟩ hr => ⟨fun hml => ?_, fun hmg => ?_⟩⟩
      · dsimp only at hr hml ⊢
        have hml : m < s.nM := by omega
        have hk2 := hr.lt
        have hsz2 := hr.qi.sz
        obtain ⟨d, e1, e2, _⟩ := hr.qi.q k hk2
        rw [e1]
        simp only [Int.toNat_natCast]
        refine ⟨⟨⟨by omega, by omega⟩, hml, fun _ => ⟨by omega, by omega⟩, fun _ => hk2, fun _ => ⟨by omega, by omega⟩, fun _ => ⟨by omega, by omega⟩, fun _ => meet_c s _ _ _ _ _ _ (by omega) (hc.ends d e2).1 (hc.ends d e2).2 (hc.ends m hml).1 (hc.ends m hml).2⟩, fun ⟨h1, h2⟩ => ⟨⟨⟨by omega, by omega⟩, hml⟩, ⟨Nat.le_refl _, by omega, Nat.le_refl _⟩, by unfold i64In; omega, by omega, hr.take hml h1 hnz ?_, by omega⟩, fun hno => ⟨by unfold i64In; omega, by omega, hr.skip hml fun h1 h2 => ?_, by omega⟩⟩
        · rw [e1, Int.toNat_natCast]; exact h2
        · rw [e1, Int.toNat_natCast] at h2
          have h3 := hno h1
          have h2 : metB s (s.K d) (s.A d) (s.B d) (s.K m) (s.A m) (s.B m) (endN (s.K d) (s.A d) (s.B d)) = true := h2
          rw [h3] at h2
          cases h2
      · dsimp only at hr hmg ⊢
        have hsb := hr.sb
        have hk2 := hr.lt
        have hsz2 := hr.qi.sz
        exact ⟨by unfold i64In; omega, by omega, hr.done (by omega), by omega⟩
    · dsimp only at hq hkg ⊢
      exact ⟨by unfold i64In; omega, by rw [flN_yes hq.fs]; omega, by omega, hq.fin hX (by omega), by omega⟩
  · dsimp only at hb hge ⊢
    have hle := hb.le
    obtain rfl : i = s.nM := by omega
    rfl
end Go.Abs
end
