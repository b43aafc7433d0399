/- Contracts. -/
import Derived.Test.YtbemjdppfiabgaaK17
import Derived.Test.YtbemjdppfiabgaaK16
set_option linter.unusedVariables false
set_option linter.unusedSimpArgs false
set_option maxRecDepth 100000
namespace Go.Abs
open Go
/-- Whether one of the first members of a kind has two nodes; one of the first walls. -/
def kdH (s : Scf) (k : Int) : Nat → List Int → Bool
  | 0, _ => false
  | i + 1, l => (decide (s.K i = k) && decide (l = [mn (s.A i) (s.B i), mx (s.A i) (s.B i)])) || kdH s k i l
def wlH (A B : Nat → Int) : Nat → List Int → Bool
  | 0, _ => false
  | i + 1, l => decide (l = [mn (A i) (B i), mx (A i) (B i)]) || wlH A B i l
/-- Whether a side is protected. -/
def ptB (r b f : List Int → Bool) (x y : Int) : Bool := (r [mn x y, mx x y] && b [mn x y, mx x y]) || f [mn x y, mx x y]
abbrev bmD (r : List Int → Bool) : DV := .cptr [.mp (.ints 2) r (fun _ => dB true)]
abbrev ptC3 (r b f : List Int → Bool) : DV := .clo 96 [bmD r, bmD b, bmD f]
abbrev bmO (r : List Int → Bool) : AObj := .map (.ints 2) r (fun _ => dB true) none
abbrev edC (D A B : Nat → Int) : List (Nat → DV) := [fun j => dI (D j), fun j => dI (A j), fun j => dI (B j)]
abbrev edE (d a b : Int) : DV := .val (.agg #[.int .i64 d, .int .i64 a, .int .i64 b])
/-- What is left of a list. -/
def lf (q : Nat → Bool) (n : Nat) (D : Nat → Int) (j : Nat) : Int := if j < flN q n then D (flI q n j) else 0
structure DlI (q : Nat → Bool) (n : Nat) (D A B : Nat → Int) (j : Nat) (d a b : Nat → Int) : Prop where
  le : j ≤ n
  lo : ∀ k, k < flN q j → d k = D (flI q j k) ∧ a k = A (flI q j k) ∧ b k = B (flI q j k)
  hi : ∀ k, j ≤ k → d k = D k ∧ a k = A k ∧ b k = B k
abbrev objJ (o : Option AObj) (c j : Nat) : Int := match o with
  | some (.row _ cols) => match cols[c]? with
    | some f => iOf (f j)
    | none => 0
  | _ => 0
theorem ixF_is {p : Nat → Bool} : ∀ {n : Nat}, ixF p n ≠ -1 → ∃ i : Nat, ixF p n = i ∧ i < n ∧ p i = true ∧ ∀ j, j < i → p j = false := by
  intro n h
  have h1 := ixF_bd p n
  have h0 : decide (0 ≤ ixF p n) = true := decide_eq_true (by omega)
  rw [ixF_any] at h0
  obtain ⟨j, hj, hp⟩ := anyN_iff.1 h0
  have key : ∀ m : Nat, (∃ j, j < m ∧ p j = true) → ∃ i, i < m ∧ p i = true ∧ ∀ j, j < i → p j = false := fun m => by
    induction m with
    | zero => rintro ⟨j, hj, _⟩; omega
    | succ m ih =>
      rintro ⟨j, hj, hp⟩
      by_cases hx : ∃ j, j < m ∧ p j = true
      · obtain ⟨i, a, b, c⟩ := ih hx; exact ⟨i, by omega, b, c⟩
      · have : j = m := by
          rcases Nat.lt_or_ge j m with h2 | h2
          · exact absurd ⟨j, h2, hp⟩ hx
          · omega
        subst this
        refine ⟨j, by omega, hp, fun k hk => ?_⟩
        cases e : p k with
        | false => rfl
        | true => exact absurd ⟨k, hk, e⟩ hx
  obtain ⟨i, a, b, c⟩ := key n ⟨j, hj, hp⟩
  exact ⟨i, ixF_at c b a, a, b, c⟩
theorem ixF_no {p : Nat → Bool} {n : Nat} (h : ixF p n = -1) : ∀ j, j < n → p j = false := fun j hj => by
  cases e : p j with
  | false => rfl
  | true =>
    have : anyN p n = true := anyN_iff.2 ⟨j, hj, e⟩
    rw [← ixF_any, h] at this
    exact absurd this (by decide)
theorem flN_all {q : Nat → Bool} : ∀ {n : Nat}, (∀ j, j < n → q j = true) → flN q n = n
  | 0, _ => rfl
  | n + 1, h => by rw [flN, flN_all (fun j hj => h j (by omega)), if_pos (h n (Nat.lt_succ_self n))]
theorem flI_all {q : Nat → Bool} : ∀ {n k : Nat}, (∀ j, j < n → q j = true) → k < n → flI q n k = k
  | n + 1, k, h, hk => by
    rw [flI, flN_all (fun j hj => h j (by omega))]
    by_cases e : n = k
    · rw [if_pos ⟨h n (Nat.lt_succ_self n), e⟩, e]
    · rw [if_neg (fun h' => e h'.2), flI_all (fun j hj => h j (by omega)) (by omega)]
section
variable {q : Nat → Bool} {n : Nat} {D A B : Nat → Int}
theorem dl_start {i : Nat} (hi : i < n) (hq : q i = false) (hb : ∀ j, j < i → q j = true) : flN q (i + 1) = i ∧ DlI q n D A B (i + 1) D A B := by
  have h1 : flN q (i + 1) = i := by rw [flN_no (by rw [hq]; decide), flN_all hb]
  refine ⟨h1, hi, fun k hk => ?_, fun k _ => ⟨rfl, rfl, rfl⟩⟩
  rw [h1] at hk
  rw [flI_no (by rw [hq]; decide), flI_all hb hk]
  exact ⟨rfl, rfl, rfl⟩
theorem dl_keep {j : Nat} {d a b : Nat → Int} (h : DlI q n D A B j d a b) (hj : j < n) (hlt : flN q j < j) (hq : q j = true) :
    DlI q n D A B (j + 1) (fun k => if k = flN q j then d j else d k) (fun k => if k = flN q j then a j else a k) (fun k => if k = flN q j then b j else b k) := by
  have hs := flN_yes hq
  have h0 := h.hi j (Nat.le_refl _)
  refine ⟨hj, fun k hk => ?_, fun k hk => ?_⟩
  · rw [flI]
    by_cases e : k = flN q j
    · rw [if_pos e, if_pos e, if_pos e, if_pos ⟨hq, e.symm⟩]; exact h0
    · rw [if_neg e, if_neg e, if_neg e, if_neg (fun h' => e h'.2.symm)]
      exact h.lo k (by omega)
  · have e : k ≠ flN q j := by omega
    rw [if_neg e, if_neg e, if_neg e]
    exact h.hi k (by omega)
theorem dl_drop {j : Nat} {d a b : Nat → Int} (h : DlI q n D A B j d a b) (hj : j < n) (hq : q j = false) : DlI q n D A B (j + 1) d a b := by
  have hn : ¬ q j = true := by rw [hq]; decide
  refine ⟨hj, fun k hk => ?_, fun k hk => h.hi k (by omega)⟩
  rw [flN_no hn] at hk
  rw [flI_no hn]
  exact h.lo k hk
end
noncomputable def A94_open_r (s : Scf) : Ann := { orc := [(4, [(5, .res fun q => prD (aI q 0) (aI q 1))]), (8, [(5, .res fun q => prD (aI q 0) (aI q 1))])], loops := [], cuts := [], rngs := [(0, { N := 4 * dkN s s.nM, enc := fun x => sdE s x, keep := [1, 2, 3], boxes := [1, 3], mo := fun _ l => [(3, some 0, .map (.ints 2) (cntH s (hd0 l)) (fun q => dI (cntL s (hd0 l) q)) none)], inv := fun _ _ => True }),
  (2, { N := 4 * dkN s s.nM, enc := fun x => sdE s x, keep := [1, 2, 3, 5], boxes := [1, 3], mo := fun _ _ => [(3, some 0, .map (.ints 2) (cntH s (nSd s)) (fun q => dI (cntL s (nSd s) q)) none)], bx := fun σ l => [(5, [.row 3 (σ.nx + 50) 0 (flN (opnP s) (hd0 l))])], rb := fun _ l => [(5, 0, 3, flN (opnP s) (hd0 l), opnD s (hd0 l))], inv := fun _ _ => True })] }
noncomputable abbrev q_open_r_0 (i : Nat) (s : Scf) (x : Nat) : Bool := decide (i < flN (opnP s) (hd0 [x]))
noncomputable abbrev open_rd0 (s : Scf) : DV := .agg [.lst s.nN [fun i => (dI (s.X i)), fun i => (dI (s.Y i)), fun i => (dI (s.Z i))], .lst s.nM [fun i => (dI (s.K i)), fun i => (dI (s.A i)), fun i => (dI (s.B i))], DV.mp (KS.ints (3 : Nat)) (fun (l : List Int) => atH s s.nN l) fun (l : List Int) => (dI (atL s s.nN l))]
noncomputable abbrev open_rr0 (s : Scf) (r : List Prop) : List Prop := (s.nN = s.nN) :: (∀ (i : Nat), i < s.nN → s.X i = s.X i) :: (∀ (i : Nat), i < s.nN → s.Y i = s.Y i) :: (∀ (i : Nat), i < s.nN → s.Z i = s.Z i) :: (s.nM = s.nM) :: (∀ (i : Nat), i < s.nM → s.K i = s.K i) :: (∀ (i : Nat), i < s.nM → s.A i = s.A i) :: (∀ (i : Nat), i < s.nM → s.B i = s.B i) :: r
theorem open_r (s : Scf) (hc : ScfOK s) : FnR prog 94 [frmD s s.nN] (flN (opnP s) (nSd s)) (opnD s (nSd s)) := by
  refine FnR_owed hmix (A94_open_r s) (V := .need ((SeqB prog (76 : Nat) [(open_rd0 s)] ((4 : Nat) * dkN s s.nM) fun k => [.agg (Array.mk [.int .i64 (sdD s k), .int .i64 (sdA s k), .int .i64 (sdB s k)])]) :: ((∀ (k : Nat), k < (4 : Nat) * dkN s s.nM → (1 : Nat) = (1 : Nat)) :: ((Value.slice none (0 : Nat) (0 : Nat) = Value.slice none (0 : Nat) (0 : Nat)) :: ((∀ (l : List Int), false = cntH s (hd0 [(0 : Nat)]) l) :: ((∀ (l : List Int), cntH s (hd0 [(0 : Nat)]) l = true → (0 : Int) = cntL s (hd0 [(0 : Nat)]) l) :: (open_rr0 s [∀ (l : List Int), atH s s.nN l = atH s s.nN l, ∀ (l : List Int), atH s s.nN l = true → atL s s.nN l = atL s s.nN l, True])))))) (.cut Nat (fun x => True ∧ x < (4 : Nat) * dkN s s.nM) (.cut Unit (fun (u : Unit) => True) (.done []) fun (u : Unit) => .need ((SeqB prog (76 : Nat) [(open_rd0 s)] ((4 : Nat) * dkN s s.nM) fun k => [.agg (Array.mk [.int .i64 (sdD s k), .int .i64 (sdA s k), .int .i64 (sdB s k)])]) :: ((∀ (k : Nat), k < (4 : Nat) * dkN s s.nM → (1 : Nat) = (1 : Nat)) :: ((Value.slice none (0 : Nat) (0 : Nat) = Value.slice none (0 : Nat) (0 : Nat)) :: ((flN (opnP s) (hd0 [(0 : Nat)]) = (0 : Nat)) :: ((∀ (l : List Int), cntH s (hd0 [(4 : Nat) * dkN s s.nM]) l = cntH s (nSd s) l) :: ((∀ (l : List Int), cntH s (nSd s) l = true → cntL s (hd0 [(4 : Nat) * dkN s s.nM]) l = cntL s (nSd s) l) :: (((0 : Nat) = (0 : Nat)) :: ((flN (opnP s) (hd0 [(0 : Nat)]) = (0 : Nat)) :: (open_rr0 s [∀ (l : List Int), atH s s.nN l = atH s s.nN l, ∀ (l : List Int), atH s s.nN l = true → atL s s.nN l = atL s s.nN l, True]))))))))) (.cut Nat (fun x => True ∧ x < (4 : Nat) * dkN s s.nM) (.cut Unit (fun (u : Unit) => True) (.done []) fun (u : Unit) => .done [flN (opnP s) (hd0 [(4 : Nat) * dkN s s.nM]) = flN (opnP s) (nSd s) ∧ flN (opnP s) (hd0 [(4 : Nat) * dkN s s.nM]) ≤ flN (opnP s) (hd0 [(4 : Nat) * dkN s s.nM]), ∀ (i : Nat), i < flN (opnP s) (nSd s) → sdD s (flI (opnP s) (hd0 [(4 : Nat) * dkN s s.nM]) i) = sdD s (flI (opnP s) (nSd s) i), ∀ (i : Nat), i < flN (opnP s) (nSd s) → sdA s (flI (opnP s) (hd0 [(4 :
     Nat) * dkN s s.nM]) i) = sdA s (flI (opnP s) (nSd s) i), ∀ (i : Nat), i < flN (opnP s) (nSd s) → sdB s (flI (opnP s) (hd0 [(4 : Nat) * dkN s s.nM]) i) = sdB s (flI (opnP s) (nSd s) i)]) fun x => .need [FnC prog (77 : Nat) [(dI (sdA s x)), (dI (sdB s x))] (.val (.agg (Array.mk [.int .i64 (mn (sdA s x) (sdB s x)), .int .i64 (mx (sdA s x) (sdB s x))])))] (.ite ((if cntH s (nSd s) [mn (sdA s x) (sdB s x), mx (sdA s x) (sdB s x)] = true then cntL s (nSd s) [mn (sdA s x) (sdB s x), mx (sdA s x) (sdB s x)] else (0 : Int)) == (1 : Int)) (.need [flN (opnP s) (hd0 [x]) ≤ flN (opnP s) (hd0 [x]), (flN (opnP s) (hd0 [x]) + (1 : Nat)) * (nat_lit 23 + (1 : Nat)) ≤ (140737488355328 : Nat), (1 : Nat) ≤ (1 : Nat)] (.done ((Value.slice none (0 : Nat) (0 : Nat) = Value.slice none (0 : Nat) (0 : Nat)) :: ((flN (opnP s) (hd0 [x]) + (1 : Nat) = flN (opnP s) (hd0 [x + (1 : Nat)])) :: ((∀ (i : Nat), i < flN (opnP s) (hd0 [x + (1 : Nat)]) → (if (q_open_r_0 i s x) = true then sdD s (flI (opnP s) (hd0 [x]) i) else sdD s x) = sdD s (flI (opnP s) (hd0 [x + (1 : Nat)]) i)) :: ((∀ (i : Nat), i < flN (opnP s) (hd0 [x + (1 : Nat)]) → (if (q_open_r_0 i s x) = true then sdA s (flI (opnP s) (hd0 [x]) i) else sdA s x) = sdA s (flI (opnP s) (hd0 [x + (1 : Nat)]) i)) :: ((∀ (i : Nat), i < flN (opnP s) (hd0 [x + (1 : Nat)]) → (if (q_open_r_0 i s x) = true then sdB s (flI (opnP s) (hd0 [x]) i) else sdB s x) = sdB s (flI (opnP s) (hd0 [x + (1 : Nat)]) i)) :: ((∀ (l : List Int), cntH s (nSd s) l = cntH s (nSd s) l) :: ((∀ (l : List Int), cntH s (nSd s) l = true → cntL s (nSd s) l = cntL s (nSd s) l) :: (((0 : Nat) = (0 : Nat)) :: ((flN (opnP s) (hd0 [x]) + (1 : Nat) = flN (opnP s) (hd0 [x + (1 : Nat)])) :: (open_rr0 s [∀ (l : List Int), atH s s.nN l = atH s s.nN l, ∀ (l : List Int), atH s s.nN l = true → atL s s.nN l = atL s s.nN l, True])))))))))))) (.done ((Value.slice none (0 : Nat) (0 : Nat) = Value.slice none (0 : Nat) (0 : Nat)) :: ((flN (opnP s) (hd0 [x]) = flN (opnP s) (hd0 [x + (1 : Nat)])) :: ((∀
     (i : Nat), i < flN (opnP s) (hd0 [x + (1 : Nat)]) → sdD s (flI (opnP s) (hd0 [x]) i) = sdD s (flI (opnP s) (hd0 [x + (1 : Nat)]) i)) :: ((∀ (i : Nat), i < flN (opnP s) (hd0 [x + (1 : Nat)]) → sdA s (flI (opnP s) (hd0 [x]) i) = sdA s (flI (opnP s) (hd0 [x + (1 : Nat)]) i)) :: ((∀ (i : Nat), i < flN (opnP s) (hd0 [x + (1 : Nat)]) → sdB s (flI (opnP s) (hd0 [x]) i) = sdB s (flI (opnP s) (hd0 [x + (1 : Nat)]) i)) :: ((∀ (l : List Int), cntH s (nSd s) l = cntH s (nSd s) l) :: ((∀ (l : List Int), cntH s (nSd s) l = true → cntL s (nSd s) l = cntL s (nSd s) l) :: (((0 : Nat) = (0 : Nat)) :: ((flN (opnP s) (hd0 [x]) = flN (opnP s) (hd0 [x + (1 : Nat)])) :: (open_rr0 s [∀ (l : List Int), atH s s.nN l = atH s s.nN l, ∀ (l : List Int), atH s s.nN l = true → atL s s.nN l = atL s s.nN l, True])))))))))))))) fun x => .need [FnC prog (77 : Nat) [(dI (sdA s x)), (dI (sdB s x))] (.val (.agg (Array.mk [.int .i64 (mn (sdA s x) (sdB s x)), .int .i64 (mx (sdA s x) (sdB s x))]))), i64In ((if cntH s (hd0 [x]) [mn (sdA s x) (sdB s x), mx (sdA s x) (sdB s x)] = true then cntL s (hd0 [x]) [mn (sdA s x) (sdB s x), mx (sdA s x) (sdB s x)] else (0 : Int)) + (1 : Int)), Eff.mk ((dI (if putHas [mn (sdA s x) (sdB s x), mx (sdA s x) (sdB s x)] (cntH s (hd0 [x])) [mn (sdA s x) (sdB s x), mx (sdA s x) (sdB s x)] = true then if decide ([mn (sdA s x) (sdB s x), mx (sdA s x) (sdB s x)] = [mn (sdA s x) (sdB s x), mx (sdA s x) (sdB s x)]) = true then if cntH s (hd0 [x]) [mn (sdA s x) (sdB s x), mx (sdA s x) (sdB s x)] = true then cntL s (hd0 [x]) [mn (sdA s x) (sdB s x), mx (sdA s x) (sdB s x)] else (0 : Int) else cntL s (hd0 [x]) [mn (sdA s x) (sdB s x), mx (sdA s x) (sdB s x)] else (0 : Int)))) [] [] = Eff.mk ((dI (if cntH s (hd0 [x]) [mn (sdA s x) (sdB s x), mx (sdA s x) (sdB s x)] = true then cntL s (hd0 [x]) [mn (sdA s x) (sdB s x), mx (sdA s x) (sdB s x)] else (0 : Int)))) [] []] (.done ((Value.slice none (0 : Nat) (0 : Nat) = Value.slice none (0 : Nat) (0 : Nat)) :: ((∀ (l : List Int), putHas [mn
     (sdA s x) (sdB s x), mx (sdA s x) (sdB s x)] (cntH s (hd0 [x])) l = cntH s (hd0 [x + (1 : Nat)]) l) :: ((∀ (l : List Int), cntH s (hd0 [x + (1 : Nat)]) l = true → (if decide (l = [mn (sdA s x) (sdB s x), mx (sdA s x) (sdB s x)]) = true then (if cntH s (hd0 [x]) [mn (sdA s x) (sdB s x), mx (sdA s x) (sdB s x)] = true then cntL s (hd0 [x]) [mn (sdA s x) (sdB s x), mx (sdA s x) (sdB s x)] else (0 : Int)) + (1 : Int) else if decide (l = [mn (sdA s x) (sdB s x), mx (sdA s x) (sdB s x)]) = true then if cntH s (hd0 [x]) [mn (sdA s x) (sdB s x), mx (sdA s x) (sdB s x)] = true then cntL s (hd0 [x]) [mn (sdA s x) (sdB s x), mx (sdA s x) (sdB s x)] else (0 : Int) else cntL s (hd0 [x]) l) = cntL s (hd0 [x + (1 : Nat)]) l) :: (open_rr0 s [∀ (l : List Int), atH s s.nN l = atH s s.nN l, ∀ (l : List Int), atH s s.nN l = true → atL s s.nN l = atL s s.nN l, True]))))))) (by kernel_rfl) ?_
  simp only [q_open_r_0, VT.holds, AllT, imp_self, implies_true, and_true, true_and, toNat_succ, toNat_add2, toNat_zero', Int.toNat_natCast, Bool.if_true_left, Bool.if_false_right, Bool.decide_eq_true, Bool.or_eq_true, Bool.or_eq_false_iff, Bool.and_eq_true, Bool.and_eq_false_imp, Bool.not_eq_true', Bool.not_eq_false', Bool.not_not, bne_iff_ne, bne_eq_false_iff_eq, beq_iff_eq, beq_eq_false_iff_ne, decide_eq_true_eq, decide_eq_false_iff_not, ne_eq, hd0_one]
  have hS := sides_s s hc
  have hn := dkN_le s s.nM
  have hm := hc.nM
  refine ⟨⟨hS, fun l => rfl, fun l h => by cases h⟩, fun _ _ => ⟨⟨hS, rfl, fun _ => rfl, fun _ _ => rfl, rfl⟩, fun _ _ => ⟨⟨rfl, Nat.le_refl _⟩, fun _ _ => rfl, fun _ _ => rfl, fun _ _ => rfl⟩, fun i hi => ⟨pairOf_c _ _, fun h => ?_, fun h => ?_⟩⟩, fun i hi => ⟨⟨pairOf_c _ _, ?_, ?_⟩, cntH_step s i, fun l _ => ?_⟩⟩
  · have hp : opnP s i = true := by
      rw [cnt_if] at h
      rw [opnP, decide_eq_true_eq]; exact h
    have := flN_le (opnP s) i
    exact ⟨⟨Nat.le_refl _, by omega, Nat.le_refl _⟩, (flN_yes hp).symm, fun j hj => flI_yes hp (sdD s) hj, fun j hj => flI_yes hp (sdA s) hj, fun j hj => flI_yes hp (sdB s) hj, (flN_yes hp).symm⟩
  · have hp : ¬ opnP s i = true := by
      rw [cnt_if] at h
      rw [opnP, decide_eq_true_eq]; exact h
    exact ⟨(flN_no hp).symm, fun j _ => by rw [flI_no hp], fun j _ => by rw [flI_no hp], fun j _ => by rw [flI_no hp], (flN_no hp).symm⟩
  · show i64In ((if cntH s i [mn (sdA s i) (sdB s i), mx (sdA s i) (sdB s i)] = true then cntL s i [mn (sdA s i) (sdB s i), mx (sdA s i) (sdB s i)] else 0) + 1)
    rw [cnt_if]
    have := cnt_bd s [mn (sdA s i) (sdB s i), mx (sdA s i) (sdB s i)] i
    unfold i64In
    omega
  · unfold putHas
    rw [decide_eq_true rfl, Bool.true_or]
    rfl
  · show (if l = [mn (sdA s i) (sdB s i), mx (sdA s i) (sdB s i)] then (if cntH s i [mn (sdA s i) (sdB s i), mx (sdA s i) (sdB s i)] = true then cntL s i [mn (sdA s i) (sdB s i), mx (sdA s i) (sdB s i)] else 0) + 1 else if l = [mn (sdA s i) (sdB s i), mx (sdA s i) (sdB s i)] then (if cntH s i [mn (sdA s i) (sdB s i), mx (sdA s i) (sdB s i)] = true then cntL s i [mn (sdA s i) (sdB s i), mx (sdA s i) (sdB s i)] else 0) else cntL s i l) = _
    rw [cnt_if, cntL, keyS]
    split
    · rename_i h; rw [h]
    · rw [Int.add_zero]
noncomputable def A96_delC_c (d x y : Int) (r b f : List Int → Bool) : Ann := { orc := [(1, [(4, .res fun q => prD (aI q 0) (aI q 1))])], loops := [], cuts := [] }
noncomputable abbrev q_delC_c_0 (r : List Int → Bool) (x : Int) (y : Int) : Bool := if r [mn x y, mx x y] = true then true else false
noncomputable abbrev q_delC_c_1 (r : List Int → Bool) (x : Int) (y : Int) (b : List Int → Bool) : Bool := !if (q_delC_c_0 r x y) = true then if b [mn x y, mx x y] = true then true else false else false
theorem delC_c (d x y : Int) (r b f : List Int → Bool)  : FnC prog 96 [edE d x y, bmD r, bmD b, bmD f] (dB (ptB r b f x y)) := by
  refine FnC_owed hmix (A96_delC_c d x y r b f) (V := .need [FnC prog (77 : Nat) [(dI x), (dI y)] (.val (.agg (Array.mk [.int .i64 (mn x y), .int .i64 (mx x y)])))] (.need [(q_delC_c_0 r x y) = true → (q_delC_c_0 r x y) = true, (q_delC_c_0 r x y) = true → (q_delC_c_0 r x y) = true, (q_delC_c_0 r x y) = true → (q_delC_c_0 r x y) = true, (q_delC_c_1 r x y b) = true → (q_delC_c_1 r x y b) = true, (q_delC_c_1 r x y b) = true → (q_delC_c_1 r x y b) = true, (if (q_delC_c_0 r x y) = true then if b [mn x y, mx x y] = true then true else false else false) = false → (q_delC_c_1 r x y b) = true] (.done [(if (if (q_delC_c_0 r x y) = true then if b [mn x y, mx x y] = true then true else false else false) = true then true else if f [mn x y, mx x y] = true then true else false) = ptB r b f x y]))) (by kernel_rfl) ?_
  simp only [q_delC_c_0, q_delC_c_1, VT.holds, AllT, imp_self, implies_true, and_true, true_and, toNat_succ, toNat_add2, toNat_zero', Int.toNat_natCast, Bool.if_true_left, Bool.if_false_right, Bool.decide_eq_true, Bool.or_eq_true, Bool.or_eq_false_iff, Bool.and_eq_true, Bool.and_eq_false_imp, Bool.not_eq_true', Bool.not_eq_false', Bool.not_not, bne_iff_ne, bne_eq_false_iff_eq, beq_iff_eq, beq_eq_false_iff_ne, decide_eq_true_eq, decide_eq_false_iff_not, ne_eq]
  unfold ptB
  refine ⟨pairOf_c _ _, ?_⟩
  generalize r [mn x y, mx x y] = u
  generalize b [mn x y, mx x y] = v
  generalize f [mn x y, mx x y] = z
  cases u <;> cases v <;> cases z <;> rfl
noncomputable def A136_indexE_c (n : Nat) (D A B : Nat → Int) (r b f : List Int → Bool) : Ann := { orc := [(4, [(5, .res fun q => dB (ptB r b f (fI 1 (arg q 0)) (fI 2 (arg q 0))))])], loops := [(0, { ι := Nat, keep := [0, 1, 7], boxes := [], ts := fun _ i => [(8, dI (i : Int))], inv := fun _ i => i ≤ n ∧ ∀ j, j < i → ptB r b f (A j) (B j) = false, mu := fun _ i => n - i, rd := fun _ σ => (iOf (σ.get 8)).toNat })], cuts := [] }
theorem indexE_c (n : Nat) (D A B : Nat → Int) (r b f : List Int → Bool) (hm : n ≤ 1000000) : FnC prog 136 [edgD n D A B, ptC3 r b f] (dI (ixF (fun j => ptB r b f (A j) (B j)) n)) := by
  refine FnC_owed hmix (A136_indexE_c n D A B r b f) (V := .loop Nat (fun a => a ≤ n ∧ ∀ (j : Nat), j < a → ptB r b f (A j) (B j) = false) (Int.toNat (0 : Int)) [(0 : Int) = (↑(Int.toNat (0 : Int)) : Int), n = n, ∀ (i : Nat), i < n → D i = D i, ∀ (i : Nat), i < n → A i = A i, ∀ (i : Nat), i < n → B i = B i, ∀ (l : List Int), r l = r l, ∀ (l : List Int), r l = true → true = true, ∀ (l : List Int), b l = b l, ∀ (l : List Int), b l = true → true = true, ∀ (l : List Int), f l = f l, ∀ (l : List Int), f l = true → true = true, (↑n : Int) = (↑n : Int)] fun i => .ite (decide ((↑i : Int) < (↑n : Int))) (.need [(0 : Int) ≤ (↑i : Int) ∧ (↑i : Int) < (↑n : Int), FnC prog (96 : FuncId) [.val (.agg (Array.mk [.int .i64 (D (Int.toNat (↑i : Int))), .int .i64 (A (Int.toNat (↑i : Int))), .int .i64 (B (Int.toNat (↑i : Int)))])), .cptr [DV.mp (KS.ints (2 : Nat)) (fun (a : List Int) => r a) fun (x : List Int) => (dB true)], .cptr [DV.mp (KS.ints (2 : Nat)) (fun (a : List Int) => b a) fun (x : List Int) => (dB true)], .cptr [DV.mp (KS.ints (2 : Nat)) (fun (a : List Int) => f a) fun (x : List Int) => (dB true)]] ((dB (ptB r b f (A (Int.toNat (↑i : Int))) (B (Int.toNat (↑i : Int))))))] (.ite (ptB r b f (A (Int.toNat (↑i : Int))) (B (Int.toNat (↑i : Int)))) (.done [(↑i : Int) = ixF (fun j => ptB r b f (A j) (B j)) n]) (.need [i64In ((↑i : Int) + (1 : Int))] (.done [(↑i : Int) + (1 : Int) = (↑(Int.toNat ((↑i : Int) + (1 : Int))) : Int), n = n, ∀ (i : Nat), i < n → D i = D i, ∀ (i : Nat), i < n → A i = A i, ∀ (i : Nat), i < n → B i = B i, ∀ (l : List Int), r l = r l, ∀ (l : List Int), r l = true → true = true, ∀ (l : List Int), b l = b l, ∀ (l : List Int), b l = true → true = true, ∀ (l : List Int), f l = f l, ∀ (l : List Int), f l = true → true = true, (↑n : Int) = (↑n : Int), Int.toNat ((↑i : Int) + (1 : Int)) ≤ n ∧ ∀ (j : Nat), j < Int.toNat ((↑i : Int) + (1 : Int)) → ptB r b f (A j) (B j) = false, n - Int.toNat ((↑i : Int) + (1 : Int)) < n - i])))) (.done [(-1 : Int) = ixF (fun j => ptB r b f (A j) (B j)) n])) (by kernel_rfl) ?_
  simp only [VT.holds, AllT, imp_self, implies_true, and_true, true_and, toNat_succ, toNat_add2, toNat_zero', Int.toNat_natCast, Bool.if_true_left, Bool.if_false_right, Bool.decide_eq_true, Bool.or_eq_true, Bool.or_eq_false_iff, Bool.and_eq_true, Bool.and_eq_false_imp, Bool.not_eq_true', Bool.not_eq_false', Bool.not_not, bne_iff_ne, bne_eq_false_iff_eq, beq_iff_eq, beq_eq_false_iff_ne, decide_eq_true_eq, decide_eq_false_iff_not, ne_eq]
  refine ⟨rfl, ⟨Nat.zero_le _, fun j hj => absurd hj (Nat.not_lt_zero j)⟩, fun i ⟨hi, hb'⟩ => ⟨fun hlt => ?_, fun hge => ?_⟩⟩
  · have hlt : i < n := by omega
    refine ⟨⟨by omega, delC_c (D i) (A i) (B i) r b f⟩, fun h => ?_, fun h => ⟨by unfold i64In; omega, by omega, ⟨by omega, fun j hj => ?_⟩, by omega⟩⟩
    · exact (ixF_at (p := fun j => ptB r b f (A j) (B j)) hb' h hlt).symm
    · rcases Nat.lt_or_ge j i with h9 | h9
      · exact hb' j h9
      · obtain rfl : j = i := by omega
        exact h
  · obtain rfl : i = n := by omega
    exact (ixF_none (p := fun j => ptB r b f (A j) (B j)) hb').symm
noncomputable def A95_delete_c (n : Nat) (D A B : Nat → Int) (r b f : List Int → Bool) : Ann := { orc := [(1, [(2, .res fun _ => dI (ixF (fun j => ptB r b f (A j) (B j)) n))]), (8, [(2, .res fun q => dB (ptB r b f (fI 1 (arg q 0)) (fI 2 (arg q 0))))])], loops := [(0, { ι := Nat × (Nat → Int) × (Nat → Int) × (Nat → Int), keep := [0, 1], boxes := [], ts := fun _ i => [(5, dI ((flN (fun j => !ptB r b f (A j) (B j)) i.1 : Nat) : Int)), (6, dI (i.1 : Int))], mo := fun _ i => [(0, none, .row n (edC i.2.1 i.2.2.1 i.2.2.2))], inv := fun _ i => DlI (fun j => !ptB r b f (A j) (B j)) n D A B i.1 i.2.1 i.2.2.1 i.2.2.2 ∧ flN (fun j => !ptB r b f (A j) (B j)) i.1 < i.1, mu := fun _ i => n - i.1, rd := fun _ σ => ((iOf (σ.get 6)).toNat, fun j => objJ (σ.obj (mid (σ.get 0))) 0 j, fun j => objJ (σ.obj (mid (σ.get 0))) 1 j, fun j => objJ (σ.obj (mid (σ.get 0))) 2 j) })], cuts := [] }
theorem delete_c (n : Nat) (D A B : Nat → Int) (r b f : List Int → Bool) (hm : n ≤ 1000000) : FnW prog 95 [.row n (edC D A B) (edC (lf (fun j => !ptB r b f (A j) (B j)) n D) (lf (fun j => !ptB r b f (A j) (B j)) n A) (lf (fun j => !ptB r b f (A j) (B j)) n B)), .arg (ptC3 r b f)] (.row 3 0 0 (flN (fun j => !ptB r b f (A j) (B j)) n)) := by
  refine FnW_owed hmix (A95_delete_c n D A B r b f) (V := VT.need
        [n ≤ n,
          FnC prog (136 : Nat)
            [DV.lst n
                [fun (i : Nat) => DV.val (Value.int IntKind.i64 (D i)), fun (i : Nat) =>
                  DV.val (Value.int IntKind.i64 (A i)), fun (i : Nat) => DV.val (Value.int IntKind.i64 (B i))],
              DV.clo (96 : FuncId)
                [DV.cptr
                    [DV.mp (KS.ints (2 : Nat)) (fun (a : List Int) => r a) fun (x : List Int) => DV.val (Value.bool true)],
                  DV.cptr
                    [DV.mp (KS.ints (2 : Nat)) (fun (a : List Int) => b a) fun (x : List Int) => DV.val (Value.bool true)],
                  DV.cptr
                    [DV.mp (KS.ints (2 : Nat)) (fun (a : List Int) => f a) fun (x : List Int) => DV.val (Value.bool true)]]]
            (DV.val (Value.int IntKind.i64 (ixF (fun (j : Nat) => ptB r b f (A j) (B j)) n)))]
        (VT.ite (ixF (fun (j : Nat) => ptB r b f (A j) (B j)) n == (-1 : Int))
          (VT.done
            [n ≤ n, ∀ (i : Nat), i < n → D i = lf (fun (j : Nat) => !ptB r b f (A j) (B j)) n D i,
              ∀ (i : Nat), i < n → A i = lf (fun (j : Nat) => !ptB r b f (A j) (B j)) n A i,
              ∀ (i : Nat), i < n → B i = lf (fun (j : Nat) => !ptB r b f (A j) (B j)) n B i,
              n = flN (fun (j : Nat) => !ptB r b f (A j) (B j)) n])
          (VT.need [i64In (ixF (fun (j : Nat) => ptB r b f (A j) (B j)) n + (1 : Int))]
            (VT.loop (Nat × (Nat → Int) × (Nat → Int) × (Nat → Int))
              (fun (a : Nat × (Nat → Int) × (Nat → Int) × (Nat → Int)) =>
                DlI (fun (j : Nat) => !ptB r b f (A j) (B j)) n D A B a.fst a.snd.1 a.snd.snd.1 a.snd.snd.2 ∧
                  flN (fun (j : Nat) => !ptB r b f (A j) (B j)) a.fst < a.fst)
              (Int.toNat (ixF (fun (j : Nat) => ptB r b f (A j) (B j)) n + (1 : Int)), fun (j : Nat) => D j,
                fun (j : Nat) => A j, fun (j : Nat) => B j)
              [ixF (fun (j : Nat) => ptB r b f (A j) (B j)) n =
                  (↑(flN (fun (j : Nat) => !ptB r b f (A j) (B j))
                        (Int.toNat (ixF (fun (j : Nat) => ptB r b f (A j) (B j)) n + (1 : Int)))) :
                    Int),
                ixF (fun (j : Nat) => ptB r b f (A j) (B j)) n + (1 : Int) =
                  (↑(Int.toNat (ixF (fun (j : Nat) => ptB r b f (A j) (B j)) n + (1 : Int))) : Int),
                (0 : Nat) = (0 : Nat), n = n, ∀ (l : List Int), r l = r l, ∀ (l : List Int), r l = true → true = true,
                ∀ (l : List Int), b l = b l, ∀ (l : List Int), b l = true → true = true, ∀ (l : List Int), f l = f l,
                ∀ (l : List Int), f l = true → true = true, n = n, ∀ (i : Nat), i < n → D i = D i,
                ∀ (i : Nat), i < n → A i = A i, ∀ (i : Nat), i < n → B i = B i]
              fun (i : Nat × (Nat → Int) × (Nat → Int) × (Nat → Int)) =>
              VT.ite (decide ((↑i.fst : Int) < (↑n : Int)))
                (VT.need
                  [(0 : Int) ≤ (↑i.fst : Int) ∧ (↑i.fst : Int) < (↑n : Int), addN (0 : Nat) (Int.toNat (↑i.fst : Int)) < n]
                  (VT.need
                    [FnC prog (96 : FuncId)
                        [DV.val
                            (Value.agg
                              (Array.mk
                                [Value.int IntKind.i64 (i.snd.1 (addN (0 : Nat) (Int.toNat (↑i.fst : Int)))),
                                  Value.int IntKind.i64 (i.snd.snd.1 (addN (0 : Nat) (Int.toNat (↑i.fst : Int)))),
                                  Value.int IntKind.i64 (i.snd.snd.2 (addN (0 : Nat) (Int.toNat (↑i.fst : Int))))])),
                          DV.cptr
                            [DV.mp (KS.ints (2 : Nat)) (fun (a : List Int) => r a) fun (x : List Int) =>
                                DV.val (Value.bool true)],
                          DV.cptr
                            [DV.mp (KS.ints (2 : Nat)) (fun (a : List Int) => b a) fun (x : List Int) =>
                                DV.val (Value.bool true)],
                          DV.cptr
                            [DV.mp (KS.ints (2 : Nat)) (fun (a : List Int) => f a) fun (x : List Int) =>
                                DV.val (Value.bool true)]]
                        (DV.val
                          (Value.bool
                            (ptB r b f (i.snd.snd.1 (addN (0 : Nat) (Int.toNat (↑i.fst : Int))))
                              (i.snd.snd.2 (addN (0 : Nat) (Int.toNat (↑i.fst : Int)))))))]
                    (VT.ite
                      (!ptB r b f (i.snd.snd.1 (addN (0 : Nat) (Int.toNat (↑i.fst : Int))))
                          (i.snd.snd.2 (addN (0 : Nat) (Int.toNat (↑i.fst : Int)))))
                      (VT.need
                        [(0 : Int) ≤ (↑(flN (fun (j : Nat) => !ptB r b f (A j) (B j)) i.fst) : Int) ∧
                            (↑(flN (fun (j : Nat) => !ptB r b f (A j) (B j)) i.fst) : Int) < (↑n : Int),
                          addN (0 : Nat) (Int.toNat (↑(flN (fun (j : Nat) => !ptB r b f (A j) (B j)) i.fst) : Int)) < n]
                        (VT.need [i64In ((↑(flN (fun (j : Nat) => !ptB r b f (A j) (B j)) i.fst) : Int) + (1 : Int))]
                          (VT.need [i64In ((↑i.fst : Int) + (1 : Int))]
                            (VT.done
                              [(↑(flN (fun (j : Nat) => !ptB r b f (A j) (B j)) i.fst) : Int) + (1 : Int) =
                                  (↑(flN (fun (j : Nat) => !ptB r b f (A j) (B j))
                                        (Int.toNat ((↑i.fst : Int) + (1 : Int)))) :
                                    Int),
                                (↑i.fst : Int) + (1 : Int) = (↑(Int.toNat ((↑i.fst : Int) + (1 : Int))) : Int),
                                (0 : Nat) = (0 : Nat), n = n, ∀ (l : List Int), r l = r l,
                                ∀ (l : List Int), r l = true → true = true, ∀ (l : List Int), b l = b l,
                                ∀ (l : List Int), b l = true → true = true, ∀ (l : List Int), f l = f l,
                                ∀ (l : List Int), f l = true → true = true, n = n,
                                ∀ (i_1 : Nat),
                                  i_1 < n →
                                    (if
                                          decide
                                              (i_1 =
                                                addN (0 : Nat)
                                                  (Int.toNat
                                                    (↑(flN (fun (j : Nat) => !ptB r b f (A j) (B j)) i.fst) : Int))) =
                                            true then
                                        i.snd.1 (addN (0 : Nat) (Int.toNat (↑i.fst : Int)))
                                      else i.snd.1 i_1) =
                                      if
                                          decide
                                              (i_1 =
                                                addN (0 : Nat)
                                                  (Int.toNat
                                                    (↑(flN (fun (j : Nat) => !ptB r b f (A j) (B j)) i.fst) : Int))) =
                                            true then
                                        i.snd.1 (addN (0 : Nat) (Int.toNat (↑i.fst : Int)))
                                      else i.snd.1 i_1,
                                ∀ (i_1 : Nat),
                                  i_1 < n →
                                    (if
                                          decide
                                              (i_1 =
                                                addN (0 : Nat)
                                                  (Int.toNat
                                                    (↑(flN (fun (j : Nat) => !ptB r b f (A j) (B j)) i.fst) : Int))) =
                                            true then
                                        i.snd.snd.1 (addN (0 : Nat) (Int.toNat (↑i.fst : Int)))
                                      else i.snd.snd.1 i_1) =
                                      if
                                          decide
                                              (i_1 =
                                                addN (0 : Nat)
                                                  (Int.toNat
                                                    (↑(flN (fun (j : Nat) => !ptB r b f (A j) (B j)) i.fst) : Int))) =
                                            true then
                                        i.snd.snd.1 (addN (0 : Nat) (Int.toNat (↑i.fst : Int)))
                                      else i.snd.snd.1 i_1,
                                ∀ (i_1 : Nat),
                                  i_1 < n →
                                    (if
                                          decide
                                              (i_1 =
                                                addN (0 : Nat)
                                                  (Int.toNat
                                                    (↑(flN (fun (j : Nat) => !ptB r b f (A j) (B j)) i.fst) : Int))) =
                                            true then
                                        i.snd.snd.2 (addN (0 : Nat) (Int.toNat (↑i.fst : Int)))
                                      else i.snd.snd.2 i_1) =
                                      if
                                          decide
                                              (i_1 =
                                                addN (0 : Nat)
                                                  (Int.toNat
                                                    (↑(flN (fun (j : Nat) => !ptB r b f (A j) (B j)) i.fst) : Int))) =
                                            true then
                                        i.snd.snd.2 (addN (0 : Nat) (Int.toNat (↑i.fst : Int)))
                                      else i.snd.snd.2 i_1,
                                (DlI (fun (j : Nat) => !ptB r b f (A j) (B j)) n D A B
                                    (Int.toNat ((↑i.fst : Int) + (1 : Int)))
                                    (fun (a : Nat) =>
                                      if
                                          decide
                                              (a =
                                                addN (0 : Nat)
                                                  (Int.toNat
                                                    (↑(flN (fun (j : Nat) => !ptB r b f (A j) (B j)) i.fst) : Int))) =
                                            true then
                                        i.snd.1 (addN (0 : Nat) (Int.toNat (↑i.fst : Int)))
                                      else i.snd.1 a)
                                    (fun (a : Nat) =>
                                      if
                                          decide
                                              (a =
                                                addN (0 : Nat)
                                                  (Int.toNat
                                                    (↑(flN (fun (j : Nat) => !ptB r b f (A j) (B j)) i.fst) : Int))) =
                                            true then
                                        i.snd.snd.1 (addN (0 : Nat) (Int.toNat (↑i.fst : Int)))
                                      else i.snd.snd.1 a)
                                    fun (a : Nat) =>
                                    if
                                        decide
                                            (a =
                                              addN (0 : Nat)
                                                (Int.toNat
                                                  (↑(flN (fun (j : Nat) => !ptB r b f (A j) (B j)) i.fst) : Int))) =
                                          true then
                                      i.snd.snd.2 (addN (0 : Nat) (Int.toNat (↑i.fst : Int)))
                                    else i.snd.snd.2 a) ∧
                                  flN (fun (j : Nat) => !ptB r b f (A j) (B j)) (Int.toNat ((↑i.fst : Int) + (1 : Int))) <
                                    Int.toNat ((↑i.fst : Int) + (1 : Int)),
                                n - Int.toNat ((↑i.fst : Int) + (1 : Int)) < n - i.fst]))))
                      (VT.need [i64In ((↑i.fst : Int) + (1 : Int))]
                        (VT.done
                          [(↑(flN (fun (j : Nat) => !ptB r b f (A j) (B j)) i.fst) : Int) =
                              (↑(flN (fun (j : Nat) => !ptB r b f (A j) (B j)) (Int.toNat ((↑i.fst : Int) + (1 : Int)))) :
                                Int),
                            (↑i.fst : Int) + (1 : Int) = (↑(Int.toNat ((↑i.fst : Int) + (1 : Int))) : Int),
                            (0 : Nat) = (0 : Nat), n = n, ∀ (l : List Int), r l = r l,
                            ∀ (l : List Int), r l = true → true = true, ∀ (l : List Int), b l = b l,
                            ∀ (l : List Int), b l = true → true = true, ∀ (l : List Int), f l = f l,
                            ∀ (l : List Int), f l = true → true = true, n = n,
                            ∀ (i_1 : Nat), i_1 < n → i.snd.1 i_1 = i.snd.1 i_1,
                            ∀ (i_1 : Nat), i_1 < n → i.snd.snd.1 i_1 = i.snd.snd.1 i_1,
                            ∀ (i_1 : Nat), i_1 < n → i.snd.snd.2 i_1 = i.snd.snd.2 i_1,
                            DlI (fun (j : Nat) => !ptB r b f (A j) (B j)) n D A B (Int.toNat ((↑i.fst : Int) + (1 : Int)))
                                i.snd.1 i.snd.snd.1 i.snd.snd.2 ∧
                              flN (fun (j : Nat) => !ptB r b f (A j) (B j)) (Int.toNat ((↑i.fst : Int) + (1 : Int))) <
                                Int.toNat ((↑i.fst : Int) + (1 : Int)),
                            n - Int.toNat ((↑i.fst : Int) + (1 : Int)) < n - i.fst])))))
                (VT.need
                  [(0 : Int) ≤ (↑(flN (fun (j : Nat) => !ptB r b f (A j) (B j)) i.fst) : Int) ∧
                      (↑(flN (fun (j : Nat) => !ptB r b f (A j) (B j)) i.fst) : Int) ≤ (↑n : Int) ∧ (↑n : Int) ≤ (↑n : Int),
                    (0 : Nat) + Int.toNat (↑(flN (fun (j : Nat) => !ptB r b f (A j) (B j)) i.fst) : Int) +
                        (Int.toNat (↑n : Int) - Int.toNat (↑(flN (fun (j : Nat) => !ptB r b f (A j) (B j)) i.fst) : Int)) ≤
                      n]
                  (VT.need
                    [(0 : Int) ≤ (0 : Int) ∧
                        (0 : Int) ≤ (↑(flN (fun (j : Nat) => !ptB r b f (A j) (B j)) i.fst) : Int) ∧
                          (↑(flN (fun (j : Nat) => !ptB r b f (A j) (B j)) i.fst) : Int) ≤ (↑n : Int)]
                    (VT.done
                      [n ≤ n,
                        ∀ (i_1 : Nat),
                          i_1 < n →
                            (if
                                  decide
                                      ((0 : Nat) +
                                            Int.toNat (↑(flN (fun (j : Nat) => !ptB r b f (A j) (B j)) i.fst) : Int) ≤
                                          i_1 ∧
                                        i_1 <
                                          (0 : Nat) +
                                              Int.toNat (↑(flN (fun (j : Nat) => !ptB r b f (A j) (B j)) i.fst) : Int) +
                                            (Int.toNat (↑n : Int) -
                                              Int.toNat (↑(flN (fun (j : Nat) => !ptB r b f (A j) (B j)) i.fst) : Int))) =
                                    true then
                                (0 : Int)
                              else i.snd.1 i_1) =
                              lf (fun (j : Nat) => !ptB r b f (A j) (B j)) n D i_1,
                        ∀ (i_1 : Nat),
                          i_1 < n →
                            (if
                                  decide
                                      ((0 : Nat) +
                                            Int.toNat (↑(flN (fun (j : Nat) => !ptB r b f (A j) (B j)) i.fst) : Int) ≤
                                          i_1 ∧
                                        i_1 <
                                          (0 : Nat) +
                                              Int.toNat (↑(flN (fun (j : Nat) => !ptB r b f (A j) (B j)) i.fst) : Int) +
                                            (Int.toNat (↑n : Int) -
                                              Int.toNat (↑(flN (fun (j : Nat) => !ptB r b f (A j) (B j)) i.fst) : Int))) =
                                    true then
                                (0 : Int)
                              else i.snd.snd.1 i_1) =
                              lf (fun (j : Nat) => !ptB r b f (A j) (B j)) n A i_1,
                        ∀ (i_1 : Nat),
                          i_1 < n →
                            (if
                                  decide
                                      ((0 : Nat) +
                                            Int.toNat (↑(flN (fun (j : Nat) => !ptB r b f (A j) (B j)) i.fst) : Int) ≤
                                          i_1 ∧
                                        i_1 <
                                          (0 : Nat) +
                                              Int.toNat (↑(flN (fun (j : Nat) => !ptB r b f (A j) (B j)) i.fst) : Int) +
                                            (Int.toNat (↑n : Int) -
                                              Int.toNat (↑(flN (fun (j : Nat) => !ptB r b f (A j) (B j)) i.fst) : Int))) =
                                    true then
                                (0 : Int)
                              else i.snd.snd.2 i_1) =
                              lf (fun (j : Nat) => !ptB r b f (A j) (B j)) n B i_1,
                        Int.toNat (↑(flN (fun (j : Nat) => !ptB r b f (A j) (B j)) i.fst) : Int) - Int.toNat (0 : Int) =
                          flN (fun (j : Nat) => !ptB r b f (A j) (B j)) n]))))))) (by kernel_rfl) ?_
  simp only [VT.holds, AllT, imp_self, implies_true, and_true, true_and, toNat_succ, toNat_add2, toNat_zero', Int.toNat_natCast, Bool.if_true_left, Bool.if_false_right, Bool.decide_eq_true, Bool.or_eq_true, Bool.or_eq_false_iff, Bool.and_eq_true, Bool.and_eq_false_imp, Bool.not_eq_true', Bool.not_eq_false', Bool.not_not, bne_iff_ne, bne_eq_false_iff_eq, beq_iff_eq, beq_eq_false_iff_ne, decide_eq_true_eq, decide_eq_false_iff_not, ne_eq]
  refine ⟨⟨Nat.le_refl _, indexE_c n D A B r b f hm⟩, fun h => ?_, fun h => ?_⟩
  · have hn := ixF_no h
    have hq : ∀ j, j < n → (fun j => !ptB r b f (A j) (B j)) j = true := fun j hj => by
      have := hn j hj
      dsimp only at this ⊢
      rw [this]; rfl
    have e1 := flN_all hq
    have e2 : ∀ (D : Nat → Int) (i : Nat), i < n → D i = lf (fun j => !ptB r b f (A j) (B j)) n D i := fun D i hi => by rw [lf, e1, if_pos hi, flI_all hq hi]
    exact ⟨Nat.le_refl _, e2 D, e2 A, e2 B, e1.symm⟩
  · obtain ⟨i0, h0, hi0, hp0, hb0⟩ := ixF_is h
    rw [h0]
    have e0 : ((i0 : Int) + 1).toNat = i0 + 1 := by omega
    rw [e0]
    obtain ⟨s1, s2⟩ := dl_start (q := fun j => !ptB r b f (A j) (B j)) (D := D) (A := A) (B := B) hi0 (by show (!ptB r b f (A i0) (B i0)) = false; rw [hp0]; rfl) (fun j hj => by show (!ptB r b f (A j) (B j)) = true; rw [hb0 j hj]; rfl)
    refine ⟨by unfold i64In; omega, ⟨by rw [s1], by omega⟩, ⟨s2, by rw [s1]; exact Nat.lt_succ_self _⟩, fun ⟨j, d, a, b'⟩ ⟨hI, hlt⟩ => ?_⟩
    dsimp only at hI hlt ⊢
    simp only [add0]
    generalize hqq : (fun j => !ptB r b f (A j) (B j)) = q at hI hlt
    refine ⟨fun hj => ?_, fun hj => ?_⟩
    · have hj : j < n := by omega
      obtain ⟨c1, c2, c3⟩ := hI.hi j (Nat.le_refl _)
      refine ⟨⟨by omega, hj⟩, delC_c _ _ _ r b f, fun h => ?_, fun h => ?_⟩
      · rw [c2, c3] at h
        have hq : q j = true := by rw [← hqq]; show (!ptB r b f (A j) (B j)) = true; rw [h]; rfl
        have hy := flN_yes hq
        exact ⟨⟨by omega, by omega⟩, by unfold i64In; omega, by unfold i64In; omega, by omega, by omega, ⟨dl_keep hI hj hlt hq, by omega⟩, by omega⟩
      · rw [c2, c3] at h
        have hq : q j = false := by rw [← hqq]; show (!ptB r b f (A j) (B j)) = false; rw [h]; rfl
        have hy := flN_no (p := q) (k := j) (by rw [hq]; decide)
        exact ⟨by unfold i64In; omega, by omega, by omega, ⟨dl_drop hI hj hq, by omega⟩, by omega⟩
    · obtain rfl : j = n := by have := hI.le; omega
      have fin : ∀ (c D : Nat → Int), (∀ k, k < flN q j → c k = D (flI q j k)) → ∀ i, i < j → (if 0 + flN q j ≤ i ∧ i < 0 + flN q j + (j - flN q j) then 0 else c i) = lf q j D i := fun c D hc i hi => by
        rw [lf]
        by_cases e : i < flN q j
        · rw [if_neg (by omega), if_pos e, hc i e]
        · rw [if_pos (by omega), if_neg e]
      exact ⟨⟨by omega, by omega⟩, ⟨Int.le_refl _, by omega, by omega⟩, Nat.le_refl _, fin d D fun k hk => (hI.lo k hk).1, fin a A fun k hk => (hI.lo k hk).2.1, fin b' B fun k hk => (hI.lo k hk).2.2, by omega⟩
/-- The sides that are not shared, one after the other; which of them are unprotected; how many, and which. -/
def oI (s : Scf) (j : Nat) : Nat := flI (opnP s) (nSd s) j
def oN (s : Scf) : Nat := flN (opnP s) (nSd s)
def unQ (s : Scf) (n : Nat) (A B : Nat → Int) (x : Nat) : Bool := !ptB (kdH s 4 s.nM) (kdH s 5 s.nM) (wlH A B n) (sdA s x) (sdB s x)
def unN (s : Scf) (n : Nat) (A B : Nat → Int) : Nat := if chkE s = 0 then flN (fun j => unQ s n A B (oI s j)) (oN s) else 0
def unI (s : Scf) (n : Nat) (A B : Nat → Int) (j : Nat) : Nat := oI s (flI (fun j => unQ s n A B (oI s j)) (oN s) j)
abbrev unD (s : Scf) (n : Nat) (A B : Nat → Int) : DV := .tup [.lst (unN s n A B) (edC (fun j => sdD s (unI s n A B j)) (fun j => sdA s (unI s n A B j)) (fun j => sdB s (unI s n A B j))), dI (chkE s)]
theorem kd_put {s : Scf} {k : Int} {i : Nat} (h : s.K i = k) (l : List Int) : putHas [mn (s.A i) (s.B i), mx (s.A i) (s.B i)] (kdH s k i) l = kdH s k (i + 1) l := by
  rw [kdH, decide_eq_true h, Bool.true_and]; rfl
theorem kd_no {s : Scf} {k : Int} {i : Nat} (h : ¬ s.K i = k) (l : List Int) : kdH s k i l = kdH s k (i + 1) l := by
  rw [kdH, decide_eq_false h, Bool.false_and, Bool.false_or]
abbrev oPr : Orc := .res fun q => prD (aI q 0) (aI q 1)
noncomputable def A34_Unprotected_c (s : Scf) (n : Nat) (D A B : Nat → Int) : Ann := { orc := [(1, [(1, .res fun q => rdD s)]), (10, [(5, oPr)]), (12, [(5, oPr)]), (17, [(5, oPr)]), (19, [(1, .row fun _ => (flN (opnP s) (nSd s), opnD s (nSd s))), (3, .wr fun _ => ([.row (edC (lf (fun j => unQ s n A B (oI s j)) (oN s) (fun j => sdD s (oI s j))) (lf (fun j => unQ s n A B (oI s j)) (oN s) (fun j => sdA s (oI s j))) (lf (fun j => unQ s n A B (oI s j)) (oN s) (fun j => sdB s (oI s j)))), .no], .row 3 0 0 (flN (fun j => unQ s n A B (oI s j)) (oN s))))])], loops := [(0, { ι := Nat, keep := [1, 6, 8, 9, 10, 27, 28], boxes := [6, 8, 9, 10], ts := fun _ i => [(29, dI (i : Int))], mo := fun _ i => [(8, some 0, bmO (kdH s 4 i)), (9, some 0, bmO (kdH s 5 i)), (10, some 0, bmO (fun _ => false))], inv := fun _ i => i ≤ s.nM, mu := fun _ i => s.nM - i, rd := fun _ σ => (iOf (σ.get 29)).toNat }), (3, { ι := Nat, keep := [6, 8, 9, 10, 52, 53], boxes := [6, 8, 9, 10], ts := fun _ i => [(54, dI (i : Int))], mo := fun _ i => [(8, some 0, bmO (kdH s 4 s.nM)), (9, some 0, bmO (kdH s 5 s.nM)), (10, some 0, bmO (wlH A B i))], inv := fun _ i => i ≤ n, mu := fun _ i => n - i, rd := fun _ σ => (iOf (σ.get 54)).toNat })], cuts := [], frzs := [(19, [(8, 0), (9, 0), (10, 0)])] }
noncomputable abbrev Unprotected_cd0 (s : Scf) : DV := .agg [.lst s.nN [fun i => (dI (s.X i)), fun i => (dI (s.Y i)), fun i => (dI (s.Z i))], .lst s.nM [fun i => (dI (s.K i)), fun i => (dI (s.A i)), fun i => (dI (s.B i))], DV.mp (KS.ints (3 : Nat)) (fun (l : List Int) => atH s (rdN s) l) fun (l : List Int) => (dI (atL s (rdN s) l))]
noncomputable abbrev Unprotected_cr0 (s : Scf) (r : List Prop) : List Prop := (s.nN = s.nN) :: (∀ (i : Nat), i < s.nN → s.X i = s.X i) :: (∀ (i : Nat), i < s.nN → s.Y i = s.Y i) :: (∀ (i : Nat), i < s.nN → s.Z i = s.Z i) :: (s.nM = s.nM) :: (∀ (i : Nat), i < s.nM → s.K i = s.K i) :: (∀ (i : Nat), i < s.nM → s.A i = s.A i) :: (∀ (i : Nat), i < s.nM → s.B i = s.B i) :: r
noncomputable abbrev Unprotected_cr1 (s : Scf) (n : Nat) (D : Nat → Int) (A : Nat → Int) (B : Nat → Int) (r : List Prop) : List Prop := (n = n) :: (∀ (i : Nat), i < n → D i = D i) :: (∀ (i : Nat), i < n → A i = A i) :: (∀ (i : Nat), i < n → B i = B i) :: (s.nM = s.nM) :: (∀ (i : Nat), i < s.nM → s.K i = s.K i) :: (∀ (i : Nat), i < s.nM → s.A i = s.A i) :: (∀ (i : Nat), i < s.nM → s.B i = s.B i) :: ((↑s.nM : Int) = (↑s.nM : Int)) :: r
theorem Unprotected_c (s : Scf) (n : Nat) (D A B : Nat → Int) (hn : n ≤ 1000000) : FnC prog 34 [scfD s, edgD n D A B] (unD s n A B) := by
  refine FnC_owed hmix (A34_Unprotected_c s n D A B) (V := .need [FnC prog (74 : Nat) [.agg [.lst s.nN [fun i => (dI (s.X i)), fun i => (dI (s.Y i)), fun i => (dI (s.Z i))], .lst s.nM [fun i => (dI (s.K i)), fun i => (dI (s.A i)), fun i => (dI (s.B i))]]] (.tup [(Unprotected_cd0 s), (dI (chkE s))])] (.ite (chkE s != (0 : Int)) (.done [unN s n A B = (0 : Nat), chkE s = chkE s]) (.loop Nat (fun a => a ≤ s.nM) (Int.toNat (0 : Int)) (((0 : Int) = (↑(Int.toNat (0 : Int)) : Int)) :: (Unprotected_cr1 s n D A B ((∀ (l : List Int), false = kdH s (4 : Int) (Int.toNat (0 : Int)) l) :: ((∀ (l : List Int), kdH s (4 : Int) (Int.toNat (0 : Int)) l = true → false = true) :: ((∀ (l : List Int), false = kdH s (5 : Int) (Int.toNat (0 : Int)) l) :: ((∀ (l : List Int), kdH s (5 : Int) (Int.toNat (0 : Int)) l = true → false = true) :: ((∀ (l : List Int), false = false) :: ((∀ (l : List Int), false = true → false = true) :: (Unprotected_cr0 s [∀ (l : List Int), atH s (rdN s) l = atH s (rdN s) l, ∀ (l : List Int), atH s (rdN s) l = true → atL s (rdN s) l = atL s (rdN s) l]))))))))) fun i => .ite (decide ((↑i : Int) < (↑s.nM : Int))) (.need [(0 : Int) ≤ (↑i : Int) ∧ (↑i : Int) < (↑s.nM : Int)] (.ite (s.K (Int.toNat (↑i : Int)) == (4 : Int)) (.need [FnC prog (77 : Nat) [(dI (s.A (Int.toNat (↑i : Int)))), (dI (s.B (Int.toNat (↑i : Int))))] (.val (.agg (Array.mk [.int .i64 (mn (s.A (Int.toNat (↑i : Int))) (s.B (Int.toNat (↑i : Int)))), .int .i64 (mx (s.A (Int.toNat (↑i : Int))) (s.B (Int.toNat (↑i : Int))))])))] (.need [i64In ((↑i : Int) + (1 : Int))] (.done (((↑i : Int) + (1 : Int) = (↑(Int.toNat ((↑i : Int) + (1 : Int))) : Int)) :: (Unprotected_cr1 s n D A B ((∀ (l : List Int), putHas [mn (s.A (Int.toNat (↑i : Int))) (s.B (Int.toNat (↑i : Int))), mx (s.A (Int.toNat (↑i : Int))) (s.B (Int.toNat (↑i : Int)))] (kdH s (4 : Int) i) l = kdH s (4 : Int) (Int.toNat ((↑i : Int) + (1 : Int))) l) :: ((∀ (l : List Int), kdH s (4 : Int) (Int.toNat ((↑i : Int) + (1 : Int))) l = true → (if decide (l = [mn (s.A (Int.toNat (↑i : Int))) (s.B (Int.toNat (↑i : Int))),
     mx (s.A (Int.toNat (↑i : Int))) (s.B (Int.toNat (↑i : Int)))]) = true then true else true) = true) :: ((∀ (l : List Int), kdH s (5 : Int) i l = kdH s (5 : Int) (Int.toNat ((↑i : Int) + (1 : Int))) l) :: ((∀ (l : List Int), kdH s (5 : Int) (Int.toNat ((↑i : Int) + (1 : Int))) l = true → true = true) :: ((∀ (l : List Int), false = false) :: ((∀ (l : List Int), false = true → true = true) :: (Unprotected_cr0 s [∀ (l : List Int), atH s (rdN s) l = atH s (rdN s) l, ∀ (l : List Int), atH s (rdN s) l = true → atL s (rdN s) l = atL s (rdN s) l, Int.toNat ((↑i : Int) + (1 : Int)) ≤ s.nM, s.nM - Int.toNat ((↑i : Int) + (1 : Int)) < s.nM - i])))))))))))) (.ite (s.K (Int.toNat (↑i : Int)) == (5 : Int)) (.need [FnC prog (77 : Nat) [(dI (s.A (Int.toNat (↑i : Int)))), (dI (s.B (Int.toNat (↑i : Int))))] (.val (.agg (Array.mk [.int .i64 (mn (s.A (Int.toNat (↑i : Int))) (s.B (Int.toNat (↑i : Int)))), .int .i64 (mx (s.A (Int.toNat (↑i : Int))) (s.B (Int.toNat (↑i : Int))))])))] (.need [i64In ((↑i : Int) + (1 : Int))] (.done (((↑i : Int) + (1 : Int) = (↑(Int.toNat ((↑i : Int) + (1 : Int))) : Int)) :: (Unprotected_cr1 s n D A B ((∀ (l : List Int), kdH s (4 : Int) i l = kdH s (4 : Int) (Int.toNat ((↑i : Int) + (1 : Int))) l) :: ((∀ (l : List Int), kdH s (4 : Int) (Int.toNat ((↑i : Int) + (1 : Int))) l = true → true = true) :: ((∀ (l : List Int), putHas [mn (s.A (Int.toNat (↑i : Int))) (s.B (Int.toNat (↑i : Int))), mx (s.A (Int.toNat (↑i : Int))) (s.B (Int.toNat (↑i : Int)))] (kdH s (5 : Int) i) l = kdH s (5 : Int) (Int.toNat ((↑i : Int) + (1 : Int))) l) :: ((∀ (l : List Int), kdH s (5 : Int) (Int.toNat ((↑i : Int) + (1 : Int))) l = true → (if decide (l = [mn (s.A (Int.toNat (↑i : Int))) (s.B (Int.toNat (↑i : Int))), mx (s.A (Int.toNat (↑i : Int))) (s.B (Int.toNat (↑i : Int)))]) = true then true else true) = true) :: ((∀ (l : List Int), false = false) :: ((∀ (l : List Int), false = true → true = true) :: (Unprotected_cr0 s [∀ (l : List Int), atH s (rdN s) l = atH s (rdN s) l, ∀ (l : List
     Int), atH s (rdN s) l = true → atL s (rdN s) l = atL s (rdN s) l, Int.toNat ((↑i : Int) + (1 : Int)) ≤ s.nM, s.nM - Int.toNat ((↑i : Int) + (1 : Int)) < s.nM - i])))))))))))) (.need [i64In ((↑i : Int) + (1 : Int))] (.done (((↑i : Int) + (1 : Int) = (↑(Int.toNat ((↑i : Int) + (1 : Int))) : Int)) :: (Unprotected_cr1 s n D A B ((∀ (l : List Int), kdH s (4 : Int) i l = kdH s (4 : Int) (Int.toNat ((↑i : Int) + (1 : Int))) l) :: ((∀ (l : List Int), kdH s (4 : Int) (Int.toNat ((↑i : Int) + (1 : Int))) l = true → true = true) :: ((∀ (l : List Int), kdH s (5 : Int) i l = kdH s (5 : Int) (Int.toNat ((↑i : Int) + (1 : Int))) l) :: ((∀ (l : List Int), kdH s (5 : Int) (Int.toNat ((↑i : Int) + (1 : Int))) l = true → true = true) :: ((∀ (l : List Int), false = false) :: ((∀ (l : List Int), false = true → true = true) :: (Unprotected_cr0 s [∀ (l : List Int), atH s (rdN s) l = atH s (rdN s) l, ∀ (l : List Int), atH s (rdN s) l = true → atL s (rdN s) l = atL s (rdN s) l, Int.toNat ((↑i : Int) + (1 : Int)) ≤ s.nM, s.nM - Int.toNat ((↑i : Int) + (1 : Int)) < s.nM - i])))))))))))))) (.loop Nat (fun a => a ≤ n) (Int.toNat (0 : Int)) (((0 : Int) = (↑(Int.toNat (0 : Int)) : Int)) :: ((n = n) :: ((∀ (i : Nat), i < n → D i = D i) :: ((∀ (i : Nat), i < n → A i = A i) :: ((∀ (i : Nat), i < n → B i = B i) :: (((↑n : Int) = (↑n : Int)) :: ((∀ (l : List Int), kdH s (4 : Int) i l = kdH s (4 : Int) s.nM l) :: ((∀ (l : List Int), kdH s (4 : Int) s.nM l = true → true = true) :: ((∀ (l : List Int), kdH s (5 : Int) i l = kdH s (5 : Int) s.nM l) :: ((∀ (l : List Int), kdH s (5 : Int) s.nM l = true → true = true) :: ((∀ (l : List Int), false = wlH A B (Int.toNat (0 : Int)) l) :: ((∀ (l : List Int), wlH A B (Int.toNat (0 : Int)) l = true → true = true) :: (Unprotected_cr0 s [∀ (l : List Int), atH s (rdN s) l = atH s (rdN s) l, ∀ (l : List Int), atH s (rdN s) l = true → atL s (rdN s) l = atL s (rdN s) l]))))))))))))) fun i => .ite (decide ((↑i : Int) < (↑n : Int))) (.need [(0 : Int) ≤ (↑i : Int) ∧ (↑i :
     Int) < (↑n : Int)] (.need [FnC prog (77 : Nat) [(dI (A (Int.toNat (↑i : Int)))), (dI (B (Int.toNat (↑i : Int))))] (.val (.agg (Array.mk [.int .i64 (mn (A (Int.toNat (↑i : Int))) (B (Int.toNat (↑i : Int)))), .int .i64 (mx (A (Int.toNat (↑i : Int))) (B (Int.toNat (↑i : Int))))])))] (.need [i64In ((↑i : Int) + (1 : Int))] (.done (((↑i : Int) + (1 : Int) = (↑(Int.toNat ((↑i : Int) + (1 : Int))) : Int)) :: ((n = n) :: ((∀ (i : Nat), i < n → D i = D i) :: ((∀ (i : Nat), i < n → A i = A i) :: ((∀ (i : Nat), i < n → B i = B i) :: (((↑n : Int) = (↑n : Int)) :: ((∀ (l : List Int), kdH s (4 : Int) s.nM l = kdH s (4 : Int) s.nM l) :: ((∀ (l : List Int), kdH s (4 : Int) s.nM l = true → true = true) :: ((∀ (l : List Int), kdH s (5 : Int) s.nM l = kdH s (5 : Int) s.nM l) :: ((∀ (l : List Int), kdH s (5 : Int) s.nM l = true → true = true) :: ((∀ (l : List Int), putHas [mn (A (Int.toNat (↑i : Int))) (B (Int.toNat (↑i : Int))), mx (A (Int.toNat (↑i : Int))) (B (Int.toNat (↑i : Int)))] (wlH A B i) l = wlH A B (Int.toNat ((↑i : Int) + (1 : Int))) l) :: ((∀ (l : List Int), wlH A B (Int.toNat ((↑i : Int) + (1 : Int))) l = true → (if decide (l = [mn (A (Int.toNat (↑i : Int))) (B (Int.toNat (↑i : Int))), mx (A (Int.toNat (↑i : Int))) (B (Int.toNat (↑i : Int)))]) = true then true else true) = true) :: (Unprotected_cr0 s [∀ (l : List Int), atH s (rdN s) l = atH s (rdN s) l, ∀ (l : List Int), atH s (rdN s) l = true → atL s (rdN s) l = atL s (rdN s) l, Int.toNat ((↑i : Int) + (1 : Int)) ≤ n, n - Int.toNat ((↑i : Int) + (1 : Int)) < n - i]))))))))))))))))) (.need [FnR prog (94 : Nat) [(Unprotected_cd0 s)] (flN (opnP s) (nSd s)) [fun j => (dI (sdD s (flI (opnP s) (nSd s) j))), fun j => (dI (sdA s (flI (opnP s) (nSd s) j))), fun j => (dI (sdB s (flI (opnP s) (nSd s) j)))], flN (opnP s) (nSd s) = flN (opnP s) (nSd s), valCol fun j => dI (lf (fun j => unQ s n A B (oI s j)) (oN s) (fun j => sdD s (oI s j)) j), valCol fun j => dI (lf (fun j => unQ s n A B (oI s j)) (oN s) (fun j => sdA s (oI s j))
     j), valCol fun j => dI (lf (fun j => unQ s n A B (oI s j)) (oN s) (fun j => sdB s (oI s j)) j), FnW prog (95 : Nat) [WA.row (flN (opnP s) (nSd s)) [fun j => (dI (sdD s (flI (opnP s) (nSd s) j))), fun j => (dI (sdA s (flI (opnP s) (nSd s) j))), fun j => (dI (sdB s (flI (opnP s) (nSd s) j)))] [fun j => (dI (lf (fun j => unQ s n A B (oI s j)) (oN s) (fun j => sdD s (oI s j)) j)), fun j => (dI (lf (fun j => unQ s n A B (oI s j)) (oN s) (fun j => sdA s (oI s j)) j)), fun j => (dI (lf (fun j => unQ s n A B (oI s j)) (oN s) (fun j => sdB s (oI s j)) j))], WA.arg (.clo (96 : Nat) [.cptr [DV.mp (KS.ints (2 : Nat)) (fun (a : List Int) => kdH s (4 : Int) s.nM a) fun (x : List Int) => (dB true)], .cptr [DV.mp (KS.ints (2 : Nat)) (fun (a : List Int) => kdH s (5 : Int) s.nM a) fun (x : List Int) => (dB true)], .cptr [DV.mp (KS.ints (2 : Nat)) (fun (a : List Int) => wlH A B i a) fun (x : List Int) => (dB true)]])] (DV.row (3 : Nat) (0 : Nat) (0 : Nat) (flN (fun j => unQ s n A B (oI s j)) (oN s)))] (.done [flN (fun j => unQ s n A B (oI s j)) (oN s) ≤ flN (opnP s) (nSd s), flN (fun j => unQ s n A B (oI s j)) (oN s) = unN s n A B, ∀ (i : Nat), i < unN s n A B → lf (fun j => unQ s n A B (oI s j)) (oN s) (fun j => sdD s (oI s j)) i = sdD s (unI s n A B i), ∀ (i : Nat), i < unN s n A B → lf (fun j => unQ s n A B (oI s j)) (oN s) (fun j => sdA s (oI s j)) i = sdA s (unI s n A B i), ∀ (i : Nat), i < unN s n A B → lf (fun j => unQ s n A B (oI s j)) (oN s) (fun j => sdB s (oI s j)) i = sdB s (unI s n A B i), (0 : Int) = chkE s])))))) (by kernel_rfl) ?_
  simp only [VT.holds, AllT, Unprotected_cd0, Unprotected_cr0, Unprotected_cr1, imp_self, implies_true, and_true, true_and, toNat_succ, toNat_add2, toNat_zero', Int.toNat_natCast, Bool.if_true_left, Bool.if_false_right, Bool.decide_eq_true, Bool.or_eq_true, Bool.or_eq_false_iff, Bool.and_eq_true, Bool.and_eq_false_imp, Bool.not_eq_true', Bool.not_eq_false', Bool.not_not, bne_iff_ne, bne_eq_false_iff_eq, beq_iff_eq, beq_eq_false_iff_ne, decide_eq_true_eq, decide_eq_false_iff_not, ne_eq]
  refine ⟨read_c s, fun h => by rw [unN, if_neg h], fun h0 => ⟨⟨rfl, fun _ => rfl, fun _ h => (by cases h), fun _ => rfl, fun _ h => by cases h⟩, Nat.zero_le _, fun i hi => ⟨fun hlt => ?_, fun hge => ?_⟩⟩⟩
  · have hc := chk_facts h0
    have hm := hc.nM
    have i64 : i64In ((i : Int) + 1) := by unfold i64In; omega
    refine ⟨by omega, fun h4 => ⟨pairOf_c _ _, i64, by omega, kd_put h4, fun _ _ => .inr trivial, kd_no (by rw [h4]; decide), by omega, by omega⟩, fun h4 => ⟨fun h5 => ⟨pairOf_c _ _, i64, by omega, kd_no h4, kd_put h5, fun _ _ => .inr trivial, by omega, by omega⟩, fun h5 => ⟨i64, by omega, kd_no h4, kd_no h5, by omega, by omega⟩⟩⟩
  · obtain rfl : i = s.nM := by omega
    refine ⟨⟨rfl, fun _ => rfl, fun _ => rfl, fun _ => rfl⟩, Nat.zero_le _, fun i hi => ⟨fun hlt => ⟨by omega, pairOf_c _ _, by unfold i64In; omega, by omega, fun _ => rfl, fun _ _ => .inr trivial, by omega, by omega⟩, fun hge => ?_⟩⟩
    obtain rfl : i = n := by omega
    have hc := chk_facts h0
    have hm := hc.nM
    have hdk := dkN_le s s.nM
    have hN : oN s ≤ nSd s := flN_le _ _
    have hS : nSd s ≤ 16000 := by show 4 * dkN s s.nM ≤ 16000; omega
    have hle := flN_le (fun j => unQ s i A B (oI s j)) (oN s)
    have eN : unN s i A B = flN (fun j => unQ s i A B (oI s j)) (oN s) := by rw [unN, if_pos h0]
    have eD : ∀ (D : Nat → Int) (j : Nat), j < unN s i A B → lf (fun j => unQ s i A B (oI s j)) (oN s) (fun j => D (oI s j)) j = D (unI s i A B j) := fun D j hj => by
      rw [lf, if_pos (by rw [← eN]; exact hj)]; rfl
    have hop : FnR prog 94 [frmD s (rdN s)] (flN (opnP s) (nSd s)) (opnD s (nSd s)) := by rw [rdN_ok h0]; exact open_r s hc
    exact ⟨⟨hop, fun _ => trivial, fun _ => trivial, fun _ => trivial, delete_c (oN s) (fun j => sdD s (oI s j)) (fun j => sdA s (oI s j)) (fun j => sdB s (oI s j)) (kdH s 4 s.nM) (kdH s 5 s.nM) (wlH A B i) (by omega)⟩, hle, eN.symm, eD (sdD s), eD (sdA s), eD (sdB s), h0.symm⟩
end Go.Abs
