/- Contracts. -/
import Derived.Test.YtbemjdppfiabgaaK24
import Derived.Test.YtbemjdppfiabgaaAbsVB
set_option linter.unusedVariables false
set_option linter.unusedSimpArgs false
set_option maxRecDepth 100000
namespace Go.Abs
open Go
/-- The way up a row of nodes that point to others, halved by the way; what it comes to. -/
def upS (U : Nat → Int) (i : Nat) : Nat → Int := fun j => if j = i then U (U i).toNat else U j
def upR : Nat → (Nat → Int) → Nat → (Nat → Int) × Nat
  | 0, U, i => (U, i)
  | k + 1, U, i => if U i = i then (U, i) else upR k (upS U i) (U (U i).toNat).toNat
def upF (p : (Nat → Int) × Nat) : Prop := p.1 p.2 = p.2
open Classical in
noncomputable def rtR (U : Nat → Int) (i : Nat) : (Nat → Int) × Nat := if h : ∃ k, upF (upR k U i) then upR (Classical.choose h) U i else (U, i)
theorem upR_fix {U : Nat → Int} {i : Nat} (h : U i = i) : ∀ k, upR k U i = (U, i)
  | 0 => rfl
  | k + 1 => by rw [upR, if_pos h]
theorem upR_same : ∀ {k m : Nat} {U : Nat → Int} {i : Nat}, upF (upR k U i) → upF (upR m U i) → upR k U i = upR m U i
  | 0, m, U, i, h, _ => (upR_fix h m).symm
  | k + 1, m, U, i, h, h2 => by
    by_cases e : U i = i
    · rw [upR_fix e, upR_fix e]
    · match m, h2 with
      | 0, h2 => exact absurd h2 e
      | m + 1, h2 =>
        rw [upR, if_neg e] at h h2 ⊢
        rw [upR, if_neg e]
        exact upR_same h h2
theorem rtR_is {k : Nat} {U : Nat → Int} {i : Nat} (h : upF (upR k U i)) : rtR U i = upR k U i := by
  have hk : ∃ k, upF (upR k U i) := ⟨k, h⟩
  rw [rtR, dif_pos hk]
  exact upR_same (Classical.choose_spec hk) h
theorem rtR_fix {U : Nat → Int} {i : Nat} (h : U i = i) : rtR U i = (U, i) := by
  rw [rtR_is (k := 0) h]; rfl
theorem rtR_step {U : Nat → Int} {i : Nat} (h : ¬ U i = i) (hk : ∃ k, upF (upR k (upS U i) (U (U i).toNat).toNat)) : rtR (upS U i) (U (U i).toNat).toNat = rtR U i := by
  obtain ⟨k, hk⟩ := hk
  have e : upR (k + 1) U i = upR k (upS U i) (U (U i).toNat).toNat := by rw [upR, if_neg h]
  rw [rtR_is hk, rtR_is (k := k + 1) (by rw [e]; exact hk), e]
/-- Each node points to one that is less deep, or to itself. -/
structure Acy (n : Nat) (U : Nat → Int) (d : Nat → Nat) : Prop where
  bd : ∀ i, i < n → 0 ≤ U i ∧ U i < n
  dn : ∀ i, i < n → U i ≠ i → d (U i).toNat < d i
/-- A colouring that the pointers keep. -/
def Inv (n : Nat) (U : Nat → Int) (c : Nat → Nat) : Prop := ∀ i, i < n → c (U i).toNat = c i
theorem Acy.up {n : Nat} {U : Nat → Int} {d : Nat → Nat} (h : Acy n U d) {i : Nat} (hi : i < n) (hn : U i ≠ i) : (U (U i).toNat).toNat < n ∧ d (U (U i).toNat).toNat < d i ∧ U (U i).toNat ≠ i := by
  obtain ⟨b1, b2⟩ := h.bd i hi
  have hp : (U i).toNat < n := by omega
  obtain ⟨c1, c2⟩ := h.bd _ hp
  have h1 := h.dn i hi hn
  have h2 : d (U (U i).toNat).toNat < d i := by
    by_cases e : U (U i).toNat = ((U i).toNat : Nat)
    · rw [e, Int.toNat_natCast]
      exact h1
    · exact Nat.lt_trans (h.dn _ hp e) h1
  refine ⟨by omega, h2, fun e => ?_⟩
  rw [e] at h2
  simp at h2
theorem Acy.step {n : Nat} {U : Nat → Int} {d : Nat → Nat} (h : Acy n U d) {i : Nat} (hi : i < n) (hn : U i ≠ i) : Acy n (upS U i) d ∧ (∀ c, Inv n (upS U i) c ↔ Inv n U c) ∧ ∀ j, j < n → (upS U i j = j ↔ U j = j) := by
  obtain ⟨k1, k2, k3⟩ := h.up hi hn
  obtain ⟨b1, b2⟩ := h.bd i hi
  have hp : (U i).toNat < n := by omega
  have hpi : (U i).toNat ≠ i := by omega
  have ei : upS U i i = U (U i).toNat := if_pos rfl
  have ej : ∀ {j}, j ≠ i → upS U i j = U j := fun hj => if_neg hj
  refine ⟨⟨fun j hj => ?_, fun j hj hjn => ?_⟩, fun c => ⟨fun hc j hj => ?_, fun hc j hj => ?_⟩, fun j hj => ?_⟩
  · by_cases e : j = i
    · subst e; rw [ei]; exact h.bd _ hp
    · rw [ej e]; exact h.bd j hj
  · by_cases e : j = i
    · subst e; rw [ei]; exact k2
    · rw [ej e] at hjn ⊢; exact h.dn j hj hjn
  · by_cases e : j = i
    · subst e
      have h1 := hc _ hj
      rw [ei] at h1
      have h2 := hc _ hp
      rw [ej hpi] at h2
      rw [← h1, h2]
    · have := hc j hj
      rwa [ej e] at this
  · by_cases e : j = i
    · subst e
      rw [ei, hc _ hp, hc _ hj]
    · rw [ej e]; exact hc j hj
  · by_cases e : j = i
    · subst e
      rw [ei]
      exact ⟨fun h => absurd h k3, fun h => absurd h hn⟩
    · rw [ej e]
/-- The way ends at a root of the same class; the classes stay. -/
theorem upR_ok {n : Nat} {d : Nat → Nat} : ∀ {k : Nat} {U : Nat → Int} {i : Nat}, Acy n U d → i < n → d i ≤ k → upF (upR k U i) ∧ (upR k U i).2 < n ∧ Acy n (upR k U i).1 d ∧ (∀ c, Inv n (upR k U i).1 c ↔ Inv n U c) ∧ (∀ j, j < n → ((upR k U i).1 j = j ↔ U j = j)) ∧ ∀ c, Inv n U c → c (upR k U i).2 = c i
  | 0, U, i, h, hi, hd => by
    have e : U i = i := Decidable.byContradiction fun e => by have := h.dn i hi e; omega
    exact ⟨e, hi, h, fun _ => Iff.rfl, fun _ _ => Iff.rfl, fun _ _ => rfl⟩
  | k + 1, U, i, h, hi, hd => by
    by_cases e : U i = i
    · rw [upR, if_pos e]
      exact ⟨e, hi, h, fun _ => Iff.rfl, fun _ _ => Iff.rfl, fun _ _ => rfl⟩
    · obtain ⟨k1, k2, k3⟩ := h.up hi e
      obtain ⟨l1, l2, l3⟩ := h.step hi e
      obtain ⟨m1, m2, m3, m4, m5, m6⟩ := upR_ok (k := k) l1 k1 (by omega)
      rw [upR, if_neg e]
      refine ⟨m1, m2, m3, fun c => (m4 c).trans (l2 c), fun j hj => (m5 j hj).trans (l3 j hj), fun c hc => ?_⟩
      have hp : (U i).toNat < n := by have := h.bd i hi; omega
      rw [m6 c ((l2 c).2 hc), hc _ hp, hc _ hi]
theorem rtR_ok {n : Nat} {d : Nat → Nat} {U : Nat → Int} {i : Nat} (h : Acy n U d) (hi : i < n) : upF (rtR U i) ∧ (rtR U i).2 < n ∧ Acy n (rtR U i).1 d ∧ (∀ c, Inv n (rtR U i).1 c ↔ Inv n U c) ∧ (∀ j, j < n → ((rtR U i).1 j = j ↔ U j = j)) ∧ ∀ c, Inv n U c → c (rtR U i).2 = c i := by
  have := upR_ok h hi (Nat.le_refl _)
  rw [rtR_is this.1]
  exact this
noncomputable def rtU (U : Nat → Int) (i j : Nat) : Int := (rtR U i).1 j
noncomputable def rtN (U : Nat → Int) (i : Nat) : Nat := (rtR U i).2
/-- On the way. -/
structure RtI (n : Nat) (U : Nat → Int) (i : Nat) (d : Nat → Nat) (V : Nat → Int) (j : Nat) : Prop where
  lt : j < n
  ac : Acy n V d
  eq : rtR V j = rtR U i
abbrev objJ1 (o : Option AObj) (j : Nat) : Int := match o with
  | some (.row _ [f]) => iOf (f j)
  | _ => 0
noncomputable def A92_root_b (n : Nat) (U : Nat → Int) (i : Nat) (d : Nat → Nat) : Ann := { orc := [], loops := [(0, { ι := Nat × (Nat → Int), keep := [1], boxes := [1], ts := fun _ p => [(0, dI (p.1 : Int))], mo := fun _ p => [(1, some 0, .row n [fun j => dI (p.2 j)])], inv := fun _ p => RtI n U i d p.2 p.1, mu := fun _ p => d p.1, rd := fun _ σ => ((iOf (σ.get 0)).toNat, fun j => objJ1 (σ.obj (mid (cellOf σ 0 (σ.get 1)))) j) })], cuts := [] }
theorem root_b (n : Nat) (U : Nat → Int) (i : Nat) (d : Nat → Nat) (hn : n ≤ 1000000) (h : Acy n U d) (hi : i < n) : FnB prog 92 (.int .i64 (i : Int)) (n) (U) (rtU U i) (.int .i64 (rtN U i : Int)) := by
  refine FnB_owed hmix (A92_root_b n U i d) (V := VT.loop (Nat × (Nat → Int)) (fun (a : Nat × (Nat → Int)) => RtI n U i d a.2 a.fst)
        (Int.toNat (i:Int), fun (j : Nat) => U j)
        [(i:Int) = (↑(i:Int).toNat : Int), n = n, ∀ i < n, U i = U i, (0:Nat) = 0, n = n]
        fun (i_1 : Nat × (Nat → Int)) =>
        VT.need
          [(0:Int) ≤ (i_1.fst:Int) ∧ (i_1.fst:Int) < (n:Int), addN 0 (i_1.fst:Int).toNat < n]
          (VT.ite (i_1.2 (addN 0 (i_1.fst:Int).toNat) != (i_1.fst:Int))
            (VT.need
              [(0:Int) ≤ (i_1.fst:Int) ∧ (i_1.fst:Int) < (n:Int),
                addN 0 (i_1.fst:Int).toNat < n,
                (0:Int) ≤ i_1.2 (addN 0 (i_1.fst:Int).toNat) ∧
                  i_1.2 (addN 0 (i_1.fst:Int).toNat) < (n:Int),
                addN 0 (i_1.2 (addN 0 (i_1.fst:Int).toNat)).toNat < n,
                (0:Int) ≤ (i_1.fst:Int) ∧ (i_1.fst:Int) < (n:Int),
                addN 0 (i_1.fst:Int).toNat < n]
              (VT.need
                [(0:Int) ≤ (i_1.fst:Int) ∧ (i_1.fst:Int) < (n:Int),
                  addN 0 (i_1.fst:Int).toNat < n]
                (VT.done
                  [(if
                          decide
                              (addN 0 (i_1.fst:Int).toNat = addN 0 (i_1.fst:Int).toNat) =
                            true then
                        i_1.2 (addN 0 (i_1.2 (addN 0 (i_1.fst:Int).toNat)).toNat)
                      else i_1.2 (addN 0 (i_1.fst:Int).toNat)) =
                      (↑(Int.toNat
                            (if
                                decide
                                    (addN 0 (i_1.fst:Int).toNat =
                                      addN 0 (i_1.fst:Int).toNat) =
                                  true then
                              i_1.2 (addN 0 (i_1.2 (addN 0 (i_1.fst:Int).toNat)).toNat)
                            else i_1.2 (addN 0 (i_1.fst:Int).toNat))) :
                        Int),
                    n = n,
                    ∀ (i : Nat),
                      i < n →
                        (if decide (i = addN 0 (i_1.fst:Int).toNat) = true then
                            i_1.2 (addN 0 (i_1.2 (addN 0 (i_1.fst:Int).toNat)).toNat)
                          else i_1.2 i) =
                          if decide (i = addN 0 (i_1.fst:Int).toNat) = true then
                            i_1.2 (addN 0 (i_1.2 (addN 0 (i_1.fst:Int).toNat)).toNat)
                          else i_1.2 i,
                    (0:Nat) = 0, n = n,
                    RtI n U i d
                      (fun (a : Nat) =>
                        if decide (a = addN 0 (i_1.fst:Int).toNat) = true then
                          i_1.2 (addN 0 (i_1.2 (addN 0 (i_1.fst:Int).toNat)).toNat)
                        else i_1.2 a)
                      (Int.toNat
                        (if
                            decide
                                (addN 0 (i_1.fst:Int).toNat =
                                  addN 0 (i_1.fst:Int).toNat) =
                              true then
                          i_1.2 (addN 0 (i_1.2 (addN 0 (i_1.fst:Int).toNat)).toNat)
                        else i_1.2 (addN 0 (i_1.fst:Int).toNat))),
                    d
                        (Int.toNat
                          (if
                              decide
                                  (addN 0 (i_1.fst:Int).toNat =
                                    addN 0 (i_1.fst:Int).toNat) =
                                true then
                            i_1.2 (addN 0 (i_1.2 (addN 0 (i_1.fst:Int).toNat)).toNat)
                          else i_1.2 (addN 0 (i_1.fst:Int).toNat))) <
                      d i_1.fst])))
            (VT.done
              [n = n, n = n, intCol fun (j : Nat) => DV.val (Value.int IntKind.i64 (i_1.2 j)),
                ∀ i_2 < n, iOfC (DV.val (Value.int IntKind.i64 (i_1.2 i_2))) = rtU U i i_2,
                (i_1.fst:Int) = (↑(rtN U i) : Int)]))) (by kernel_rfl) ?_
  simp only [VT.holds, AllT, Sq]
  simp only [add0, if_true]
  refine ⟨⟨hi, h, rfl⟩, fun ⟨j, V⟩ ⟨h1, h2, h3⟩ => ⟨⟨⟨by omega, by omega⟩, h1⟩, fun he => ?_, fun he => ⟨fun _ => trivial, fun k _ => ?_, ?_⟩⟩⟩
  · dsimp only at he h1 h2 h3 ⊢
    obtain ⟨k1, k2, k3⟩ := h2.up h1 he
    obtain ⟨l1, l2, l3⟩ := h2.step h1 he
    have hb := h2.bd j h1
    have hp : (V j).toNat < n := by omega
    have hb2 := h2.bd _ hp
    have e1 : (fun a => if a = j then V (V j).toNat else V a) = upS V j := rfl
    refine ⟨⟨⟨by omega, by omega⟩, h1, ⟨hb.1, hb.2⟩, hp, ⟨by omega, by omega⟩, h1⟩, ⟨⟨by omega, by omega⟩, h1⟩, by omega, ⟨k1, l1, ?_⟩, k2⟩
    exact (rtR_step he ⟨_, (upR_ok l1 k1 (Nat.le_refl _)).1⟩).trans h3
  · have h3' : rtR U i = (V, j) := by rw [← h3]; exact rtR_fix he
    rw [rtU, h3']; rfl
  · have h3' : rtR U i = (V, j) := by rw [← h3]; exact rtR_fix he
    rw [rtN, h3']
end Go.Abs
