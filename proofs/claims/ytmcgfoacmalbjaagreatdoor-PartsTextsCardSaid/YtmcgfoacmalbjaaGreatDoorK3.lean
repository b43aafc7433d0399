/- Contracts. -/
import Derived.Test.YtmcgfoacmalbjaaGreatDoorK2
set_option maxRecDepth 100000
namespace Go.Abs
open Go
def firstE (e : Nat → Int) : Nat → Int
  | 0 => 0
  | k + 1 => if firstE e k ≠ 0 then firstE e k else e k
def nodE (s : Scf) (i : Nat) : Int := if (inC (s.X i) && (inC (s.Y i) && inC (s.Z i))) = false then 2 else if 0 ≤ nAt s i (s.X i) (s.Y i) (s.Z i) then 5 else 0
def sameM (s : Scf) (k : Nat) (l : List Int) : Bool := decide (l = [s.K k, s.A k, s.B k])
def seenH (s : Scf) : Nat → List Int → Bool
  | 0, _ => false
  | k + 1, l => sameM s k l || seenH s k l
def memE (s : Scf) (i : Nat) : Int :=
  if ¬ (0 ≤ s.K i ∧ s.K i ≤ 9) then 2 else if ¬ (0 ≤ s.A i ∧ s.A i < s.nN) ∨ ¬ (0 ≤ s.B i ∧ s.B i < s.nN) then 6 else if rgtF s s.nN (s.K i) (s.A i) (s.B i) = false then 3 else if seenH s i [s.K i, s.A i, s.B i] = true then 5 else 0
def chkE (s : Scf) : Int := if s.nN > 1000 ∨ s.nM > 4000 then 8 else if firstE (nodE s) s.nN ≠ 0 then firstE (nodE s) s.nN else firstE (memE s) s.nM
abbrev atO (s : Scf) (n : Nat) : AObj := .map (.ints 3) (atH s n) (fun l => dI (atL s n l)) none
abbrev seenO (s : Scf) (n : Nat) : AObj := .map (.ints 3) (seenH s n) (fun _ => dB true) none
def frsN (e : Nat → Int) : Nat → Nat
  | 0 => 0
  | k + 1 => if firstE e k ≠ 0 then frsN e k else if e k ≠ 0 then k else k + 1
def rdN (s : Scf) : Nat := if s.nN > 1000 ∨ s.nM > 4000 then 0 else frsN (nodE s) s.nN
section
variable {s : Scf} {i : Nat}
theorem atL_none (s : Scf) (n : Nat) {l : List Int} (h : ∀ x y z, l ≠ [x, y, z]) : atL s n l = -1 := by
  unfold atL
  split
  · exact absurd rfl (h _ _ _)
  · rfl
theorem atH_0 (l : List Int) : false = atH s 0 l := by
  rw [atH, eq_comm, decide_eq_false_iff_not]
  unfold atL
  split <;> simp [nAt]
theorem at_step (h : atH s i [s.X i, s.Y i, s.Z i] = false) (l : List Int) : atL s (i + 1) l = if l = [s.X i, s.Y i, s.Z i] then (i : Int) else atL s i l := by
  by_cases h3 : ∃ x y z, l = [x, y, z]
  · obtain ⟨x, y, z, rfl⟩ := h3
    show nAt s (i + 1) x y z = if _ then _ else nAt s i x y z
    rw [nAt]
    by_cases he : [x, y, z] = [s.X i, s.Y i, s.Z i]
    · rw [if_pos he]
      rw [← he] at h
      have h' : ¬ 0 ≤ nAt s i x y z := by rw [atH, decide_eq_false_iff_not] at h; exact h
      simp only [List.cons.injEq, and_true] at he
      rw [if_neg h', if_pos ⟨he.1.symm, he.2.1.symm, he.2.2.symm⟩]
    · rw [if_neg he]
      have he' : ¬ (s.X i = x ∧ s.Y i = y ∧ s.Z i = z) := fun hx => he (by rw [hx.1, hx.2.1, hx.2.2])
      rw [if_neg he']
      split
      · rfl
      · rename_i hn
        have hb : ∀ k, nAt s k x y z = -1 ∨ 0 ≤ nAt s k x y z := by
          intro k
          induction k with
          | zero => exact .inl rfl
          | succ k ih =>
            rw [nAt]
            split
            · exact .inr (by assumption)
            · split
              · exact .inr (by omega)
              · exact .inl rfl
        rcases hb i with hx | hx
        · exact hx.symm
        · exact absurd hx hn
  · have hne : ∀ x y z, l ≠ [x, y, z] := fun x y z e => h3 ⟨x, y, z, e⟩
    rw [if_neg (hne _ _ _), atL_none s _ hne, atL_none s _ hne]
theorem atH_step (h : atH s i [s.X i, s.Y i, s.Z i] = false) (l : List Int) : putHas [s.X i, s.Y i, s.Z i] (atH s i) l = atH s (i + 1) l := by
  unfold putHas
  simp only [atH]
  rw [at_step h]
  by_cases he : l = [s.X i, s.Y i, s.Z i]
  · rw [if_pos he, decide_eq_true he, Bool.true_or, eq_comm, decide_eq_true_eq]; omega
  · rw [if_neg he, decide_eq_false he, Bool.false_or]
theorem firstE_none {e : Nat → Int} : ∀ {n : Nat}, (∀ j, j < n → e j = 0) → firstE e n = 0
  | 0, _ => rfl
  | n + 1, h => by rw [firstE, firstE_none (fun j hj => h j (by omega)), if_neg (by simp), h n (by omega)]
theorem firstE_at {e : Nat → Int} {i : Nat} (h : ∀ j, j < i → e j = 0) (hi : e i ≠ 0) : ∀ {n : Nat}, i < n → firstE e n = e i
  | n + 1, hn => by
    rcases Nat.lt_or_ge i n with h1 | h1
    · rw [firstE, firstE_at h hi h1, if_pos hi]
    · have : i = n := by omega
      subst this
      rw [firstE, firstE_none h, if_neg (by simp)]
theorem chk_node (h0 : ¬ (s.nN : Int) > 1000 ∧ ¬ (s.nM : Int) > 4000) (hi : i < s.nN) (hb : ∀ k, k < i → nodE s k = 0) {e : Int} (he : nodE s i = e) (hn : e ≠ 0) : e = chkE s := by
  have h1 := firstE_at hb (by rw [he]; exact hn) hi
  rw [he] at h1
  rw [chkE, if_neg (by omega), h1, if_pos hn]
theorem chk_memb (h0 : ¬ (s.nN : Int) > 1000 ∧ ¬ (s.nM : Int) > 4000) (hN : ∀ k, k < s.nN → nodE s k = 0) (hi : i < s.nM) (hb : ∀ k, k < i → memE s k = 0) {e : Int} (he : memE s i = e) (hn : e ≠ 0) : e = chkE s := by
  have h1 := firstE_at hb (by rw [he]; exact hn) hi
  rw [he] at h1
  rw [chkE, if_neg (by omega), firstE_none hN, if_neg (by simp), h1]
theorem chk_ok (h0 : ¬ (s.nN : Int) > 1000 ∧ ¬ (s.nM : Int) > 4000) (hN : ∀ k, k < s.nN → nodE s k = 0) (hM : ∀ k, k < s.nM → memE s k = 0) : 0 = chkE s := by
  rw [chkE, if_neg (by omega), firstE_none hN, if_neg (by simp), firstE_none hM]
theorem frsN_none {e : Nat → Int} : ∀ {n : Nat}, (∀ j, j < n → e j = 0) → frsN e n = n
  | 0, _ => rfl
  | n + 1, h => by rw [frsN, firstE_none (fun j hj => h j (by omega)), if_neg (by simp), h n (by omega), if_neg (by simp)]
theorem frsN_at {e : Nat → Int} {i : Nat} (h : ∀ j, j < i → e j = 0) (hi : e i ≠ 0) : ∀ {n : Nat}, i < n → frsN e n = i
  | n + 1, hn => by
    rcases Nat.lt_or_ge i n with h1 | h1
    · rw [frsN, firstE_at h hi h1, if_pos hi, frsN_at h hi h1]
    · have : i = n := by omega
      subst this
      rw [frsN, firstE_none h, if_neg (by simp), if_pos hi]
theorem rd_node (h0 : ¬ (s.nN : Int) > 1000 ∧ ¬ (s.nM : Int) > 4000) (hi : i < s.nN) (hb : ∀ k, k < i → nodE s k = 0) {e : Int} (he : nodE s i = e) (hn : e ≠ 0) :
    (∀ l, atH s i l = atH s (rdN s) l) ∧ (∀ l, atH s (rdN s) l = true → atL s i l = atL s (rdN s) l) ∧ e = chkE s := by
  have h1 : rdN s = i := by rw [rdN, if_neg (by omega), frsN_at hb (by rw [he]; exact hn) hi]
  rw [h1]
  exact ⟨fun _ => rfl, fun _ _ => rfl, chk_node h0 hi hb he hn⟩
theorem rd_memb (h0 : ¬ (s.nN : Int) > 1000 ∧ ¬ (s.nM : Int) > 4000) (hN : ∀ k, k < s.nN → nodE s k = 0) (hi : i < s.nM) (hb : ∀ k, k < i → memE s k = 0) {e : Int} (he : memE s i = e) (hn : e ≠ 0) :
    (∀ l, atH s s.nN l = atH s (rdN s) l) ∧ (∀ l, atH s (rdN s) l = true → atL s s.nN l = atL s (rdN s) l) ∧ e = chkE s := by
  have h1 : rdN s = s.nN := by rw [rdN, if_neg (by omega), frsN_none hN]
  rw [h1]
  exact ⟨fun _ => rfl, fun _ _ => rfl, chk_memb h0 hN hi hb he hn⟩
theorem rd_ok (h0 : ¬ (s.nN : Int) > 1000 ∧ ¬ (s.nM : Int) > 4000) (hN : ∀ k, k < s.nN → nodE s k = 0) (hM : ∀ k, k < s.nM → memE s k = 0) :
    (∀ l, atH s s.nN l = atH s (rdN s) l) ∧ (∀ l, atH s (rdN s) l = true → atL s s.nN l = atL s (rdN s) l) ∧ 0 = chkE s := by
  have h1 : rdN s = s.nN := by rw [rdN, if_neg (by omega), frsN_none hN]
  rw [h1]
  exact ⟨fun _ => rfl, fun _ _ => rfl, chk_ok h0 hN hM⟩
theorem seen_step (l : List Int) : putHas [s.K i, s.A i, s.B i] (seenH s i) l = seenH s (i + 1) l := rfl
end
noncomputable def A32_read_c (s : Scf) : Ann := { orc := [(7, [(1, .res fun q => dB (inC (fI 0 (arg q 0)) && (inC (fI 1 (arg q 0)) && inC (fI 2 (arg q 0)))))]), (19, [(2, .res fun q => dB (decide (0 ≤ aI q 0 ∧ aI q 0 ≤ aI q 1)))]), (21, [(3, .res fun q => dB (decide (0 ≤ aI q 0 ∧ aI q 0 < s.nN))), (9, .res fun q => dB (decide (0 ≤ aI q 0 ∧ aI q 0 < s.nN)))]), (23, [(2, .res fun q => dB (rgtF s s.nN (fI 0 (arg q 1)) (fI 1 (arg q 1)) (fI 2 (arg q 1))))])], loops := [(0, { ι := Nat, keep := [1, 2, 4, 28, 29], boxes := [1, 2, 4], ts := fun _ i => [(30, dI (i : Int))], mo := fun _ i => [(4, some 2, atO s i)], inv := fun _ i => i ≤ s.nN ∧ ∀ k, k < i → nodE s k = 0, mu := fun _ i => s.nN - i, rd := fun _ σ => (iOf (σ.get 30)).toNat }), (2, { ι := Nat, keep := [1, 2, 4, 9, 10, 56, 57], boxes := [1, 2, 4], ts := fun _ i => [(58, dI (i : Int))], mo := fun _ i => [(4, some 2, atO s s.nN), (10, none, seenO s i)], inv := fun _ i => i ≤ s.nM ∧ ∀ k, k < i → memE s k = 0, mu := fun _ i => s.nM - i, rd := fun _ σ => (iOf (σ.get 58)).toNat })], cuts := [] }
noncomputable abbrev qeb (s : Scf) : Bool := decide ((s.nN:Int) > (1000:Int))
noncomputable abbrev qs (s : Scf) (i : Nat) : Bool := decide ((0:Int) ≤ s.A (Int.toNat (i:Int)) ∧ s.A (Int.toNat (i:Int)) < (s.nN:Int))
noncomputable abbrev read_cr0 (s : Scf) (r : List Prop) : List Prop := (s.nN = s.nN) :: (∀ (i : Nat), i < s.nN → s.X i = s.X i) :: (∀ (i : Nat), i < s.nN → s.Y i = s.Y i) :: (∀ (i : Nat), i < s.nN → s.Z i = s.Z i) :: (s.nM = s.nM) :: (∀ (i : Nat), i < s.nM → s.K i = s.K i) :: (∀ (i : Nat), i < s.nM → s.A i = s.A i) :: (∀ (i : Nat), i < s.nM → s.B i = s.B i) :: r
noncomputable abbrev read_cr1 (r : List Prop) : List Prop := (Value.slice none (0:Nat) (0:Nat) = Value.slice none (0:Nat) (0:Nat)) :: (Value.slice none (0:Nat) (0:Nat) = Value.slice none (0:Nat) (0:Nat)) :: (Value.map none = Value.map none) :: r
theorem read_c (s : Scf)  : FnC prog 32 [scfD s] (.tup [frmD s (rdN s), dI (chkE s)]) := by
  refine FnC_owed hmix (A32_read_c s) (V := .need [ri ((!(qeb s)) = true), ri ((!(qeb s)) = true), ri ((!(qeb s)) = true), (qeb s) = false → (!(qeb s)) = true] (.ite (if (qeb s) = true then true else decide ((s.nM:Int) > 4000)) (.done (read_cr0 s [∀ (l : List Int), false = atH s (rdN s) l, ∀ (l : List Int), atH s (rdN s) l = true → (0:Int) = atL s (rdN s) l, (8:Int) = chkE s])) (.loop Nat (fun a => a ≤ s.nN ∧ ∀ (k : Nat), k < a → nodE s k = 0) (0:Int).toNat (((0:Int) = (↑(0:Int).toNat : Int)) :: ((s.nN = s.nN) :: ((∀ i < s.nN, s.X i = s.X i) :: ((∀ i < s.nN, s.Y i = s.Y i) :: ((∀ i < s.nN, s.Z i = s.Z i) :: (((s.nN:Int) = (s.nN:Int)) :: ((∀ (l : List Int), false = atH s (0:Int).toNat l) :: ((∀ (l : List Int), atH s (0:Int).toNat l = true → (0:Int) = atL s (0:Int).toNat l) :: (read_cr0 s (read_cr1 (read_cr0 s []))))))))))) fun i => .ite (decide ((i:Int) < (s.nN:Int))) (.need [(0:Int) ≤ (i:Int) ∧ (i:Int) < (s.nN:Int)] (.need [FnC prog 55 [.val (.agg (Array.mk [.int .i64 (s.X (i:Int).toNat), .int .i64 (s.Y (i:Int).toNat), .int .i64 (s.Z (i:Int).toNat)]))] ((dB (inC (s.X (i:Int).toNat) && (inC (s.Y (i:Int).toNat) && inC (s.Z (i:Int).toNat)))))] (.ite (!(inC (s.X (i:Int).toNat) && (inC (s.Y (i:Int).toNat) && inC (s.Z (i:Int).toNat)))) (.done (read_cr0 s [∀ (l : List Int), atH s i l = atH s (rdN s) l, ∀ (l : List Int), atH s (rdN s) l = true → atL s i l = atL s (rdN s) l, (2:Int) = chkE s])) (.ite (atH s i [s.X (i:Int).toNat, s.Y (i:Int).toNat, s.Z (i:Int).toNat]) (.done (read_cr0 s [∀ (l : List Int), atH s i l = atH s (rdN s) l, ∀ (l : List Int), atH s (rdN s) l = true → atL s i l = atL s (rdN s) l, (5:Int) = chkE s])) (.need [i64In ((i:Int) + 1)] (.done
     (((i:Int) + 1 = (↑((i:Int) + 1).toNat : Int)) :: ((s.nN = s.nN) :: ((∀ i < s.nN, s.X i = s.X i) :: ((∀ i < s.nN, s.Y i = s.Y i) :: ((∀ i < s.nN, s.Z i = s.Z i) :: (((s.nN:Int) = (s.nN:Int)) :: ((∀ (l : List Int), putHas [s.X (i:Int).toNat, s.Y (i:Int).toNat, s.Z (i:Int).toNat] (atH s i) l = atH s ((i:Int) + 1).toNat l) :: ((∀ (l : List Int), atH s ((i:Int) + 1).toNat l = true → (if decide (l = [s.X (i:Int).toNat, s.Y (i:Int).toNat, s.Z (i:Int).toNat]) = true then (i:Int) else atL s i l) = atL s ((i:Int) + 1).toNat l) :: (read_cr0 s (read_cr1 (read_cr0 s [Int.toNat ((i:Int) + 1) ≤ s.nN ∧ ∀ (k : Nat), k < ((i:Int) + 1).toNat → nodE s k = 0, s.nN - ((i:Int) + 1).toNat < s.nN - i]))))))))))))))))) (.loop Nat (fun a => a ≤ s.nM ∧ ∀ (k : Nat), k < a → memE s k = 0) (0:Int).toNat (((0:Int) = (↑(0:Int).toNat : Int)) :: ((s.nM = s.nM) :: ((∀ i < s.nM, s.K i = s.K i) :: ((∀ i < s.nM, s.A i = s.A i) :: ((∀ i < s.nM, s.B i = s.B i) :: (((s.nM:Int) = (s.nM:Int)) :: ((∀ (l : List Int), atH s i l = atH s s.nN l) :: ((∀ (l : List Int), atH s s.nN l = true → atL s i l = atL s s.nN l) :: ((∀ (l : List Int), false = seenH s (0:Int).toNat l) :: ((∀ (l : List Int), seenH s (0:Int).toNat l = true → false = true) :: (read_cr0 s (read_cr1 (read_cr0 s []))))))))))))) fun i => .ite (decide ((i:Int) < (s.nM:Int))) (.need [(0:Int) ≤ (i:Int) ∧ (i:Int) < (s.nM:Int)] (.need [FnC prog 57 [(dI (s.K (i:Int).toNat)), (dI (9:Int))] ((dB (decide ((0:Int) ≤ s.K (i:Int).toNat ∧ s.K (i:Int).toNat ≤ 9))))] (.ite (!decide ((0:Int) ≤ s.K (i:Int).toNat ∧ s.K (i:Int).toNat ≤ 9)) (.done (read_cr0 s [∀ (l : List
     Int), atH s s.nN l = atH s (rdN s) l, ∀ (l : List Int), atH s (rdN s) l = true → atL s s.nN l = atL s (rdN s) l, (2:Int) = chkE s])) (.need [FnC prog 56 [(dI (s.A (i:Int).toNat)), .cptr [.lst s.nN [fun i => (dI (s.X i)), fun i => (dI (s.Y i)), fun i => (dI (s.Z i))], .lst s.nM [fun i => (dI (s.K i)), fun i => (dI (s.A i)), fun i => (dI (s.B i))]]] ((dB ((qs s i)))), ri ((!!(qs s i)) = true), ri ((!!(qs s i)) = true), ri ((!!(qs s i)) = true), (!!(qs s i)) = true → FnC prog 56 [(dI (s.B (i:Int).toNat)), .cptr [.lst s.nN [fun i => (dI (s.X i)), fun i => (dI (s.Y i)), fun i => (dI (s.Z i))], .lst s.nM [fun i => (dI (s.K i)), fun i => (dI (s.A i)), fun i => (dI (s.B i))]]] ((dB (decide ((0:Int) ≤ s.B (i:Int).toNat ∧ s.B (i:Int).toNat < (s.nN:Int))))), ri ((!!(qs s i)) = true), (!(qs s i)) = false → (!!(qs s i)) = true] (.ite (if (!(qs s i)) = true then true else !decide ((0:Int) ≤ s.B (i:Int).toNat ∧ s.B (i:Int).toNat < (s.nN:Int))) (.done (read_cr0 s [∀ (l : List Int), atH s s.nN l = atH s (rdN s) l, ∀ (l : List Int), atH s (rdN s) l = true → atL s s.nN l = atL s (rdN s) l, (6:Int) = chkE s])) (.need [FnC prog 58 [.agg [.lst s.nN [fun i => (dI (s.X i)), fun i => (dI (s.Y i)), fun i => (dI (s.Z i))], .lst s.nM [fun i => (dI (s.K i)), fun i => (dI (s.A i)), fun i => (dI (s.B i))], DV.mp (KS.ints 3) (fun (l : List Int) => atH s s.nN l) fun (l : List Int) => (dI (atL s s.nN l))], .val (.agg (Array.mk [.int .i64 (s.K (i:Int).toNat), .int .i64 (s.A (i:Int).toNat), .int .i64 (s.B (i:Int).toNat)]))] ((dB (rgtF s s.nN (s.K (i:Int).toNat) (s.A (i:Int).toNat) (s.B (i:Int).toNat))))] (.ite (!rgtF s s.nN (s.K (i:Int).toNat) (s.A (i:Int).toNat)
     (s.B (i:Int).toNat)) (.done (read_cr0 s [∀ (l : List Int), atH s s.nN l = atH s (rdN s) l, ∀ (l : List Int), atH s (rdN s) l = true → atL s s.nN l = atL s (rdN s) l, (3:Int) = chkE s])) (.ite (if seenH s i [s.K (i:Int).toNat, s.A (i:Int).toNat, s.B (i:Int).toNat] = true then true else false) (.done (read_cr0 s [∀ (l : List Int), atH s s.nN l = atH s (rdN s) l, ∀ (l : List Int), atH s (rdN s) l = true → atL s s.nN l = atL s (rdN s) l, (5:Int) = chkE s])) (.need [i64In ((i:Int) + 1)] (.done (((i:Int) + 1 = (↑((i:Int) + 1).toNat : Int)) :: ((s.nM = s.nM) :: ((∀ i < s.nM, s.K i = s.K i) :: ((∀ i < s.nM, s.A i = s.A i) :: ((∀ i < s.nM, s.B i = s.B i) :: (((s.nM:Int) = (s.nM:Int)) :: ((∀ (l : List Int), atH s s.nN l = atH s s.nN l) :: ((∀ (l : List Int), atH s s.nN l = true → atL s s.nN l = atL s s.nN l) :: ((∀ (l : List Int), putHas [s.K (i:Int).toNat, s.A (i:Int).toNat, s.B (i:Int).toNat] (seenH s i) l = seenH s ((i:Int) + 1).toNat l) :: ((∀ (l : List Int), seenH s ((i:Int) + 1).toNat l = true → (if decide (l = [s.K (i:Int).toNat, s.A (i:Int).toNat, s.B (i:Int).toNat]) = true then true else true) = true) :: (read_cr0 s (read_cr1 (read_cr0 s [Int.toNat ((i:Int) + 1) ≤ s.nM ∧ ∀ (k : Nat), k < ((i:Int) + 1).toNat → memE s k = 0, s.nM - ((i:Int) + 1).toNat < s.nM - i]))))))))))))))))))))))) (.done (read_cr0 s [∀ (l : List Int), atH s s.nN l = atH s (rdN s) l, ∀ (l : List Int), atH s (rdN s) l = true → atL s s.nN l = atL s (rdN s) l, (0:Int) = chkE s])))))) (by kernel_rfl) ?_
  simp only [qeb, qs, VT.holds, AllT, Sq]
  have i64s : ∀ {i n m : Nat}, i < n → (n : Int) ≤ m → (m : Int) ≤ 4000 → i64In ((i : Int) + 1) := fun h1 h2 h3 => by unfold i64In; omega
  refine ⟨fun h => by
      have h1 : rdN s = 0 := by rw [rdN, if_pos (by omega)]
      rw [h1]
      exact ⟨atH_0, fun l hl => absurd hl (by rw [← atH_0]; simp), by rw [chkE, if_pos (by omega)]⟩, fun h0 => ⟨⟨rfl, atH_0, fun l hl => absurd hl (by rw [← atH_0]; simp)⟩, ⟨Nat.zero_le _, fun k hk => absurd hk (Nat.not_lt_zero k)⟩, fun i ⟨hi, hb⟩ => ⟨fun hlt => ?_, fun hge => ?_⟩⟩⟩
  · have hlt : i < s.nN := by omega
    refine ⟨by omega, inSpace_c _ _ _, fun h => rd_node h0 hlt hb (e := 2) ?_ (by decide), fun ⟨h1, h2, h3⟩ => ⟨fun h => rd_node h0 hlt hb (e := 5) ?_ (by decide), fun h => ⟨i64s (m := 1000) hlt (by omega) (by omega), by omega, atH_step h, fun l _ => (at_step h l).symm, ⟨by omega, fun k hk => ?_⟩, by omega⟩⟩⟩
    · rw [nodE, if_pos]
      cases e1 : inC (s.X i) <;> cases e2 : inC (s.Y i) <;> simp_all
    · rw [atH, decide_eq_true_eq] at h
      have h : 0 ≤ nAt s i (s.X i) (s.Y i) (s.Z i) := h
      rw [nodE, if_neg (by simp [h1, h2, h3]), if_pos h]
    · rcases Nat.lt_or_ge k i with h9 | h9
      · exact hb k h9
      · obtain rfl : k = i := by omega
        rw [atH, decide_eq_false_iff_not] at h
        have h : ¬ 0 ≤ nAt s k (s.X k) (s.Y k) (s.Z k) := h
        rw [nodE, if_neg (by simp [h1, h2, h3]), if_neg h]
  · obtain rfl : i = s.nN := by omega
    refine ⟨⟨rfl, fun _ => rfl, fun _ _ => rfl, fun _ => rfl, fun l h => by cases h⟩, ⟨Nat.zero_le _, fun k hk => absurd hk (Nat.not_lt_zero k)⟩, fun i ⟨hi, hm⟩ => ⟨fun hlt => ?_, fun hge => by
      obtain rfl : i = s.nM := by omega
      exact rd_ok h0 hb hm⟩⟩
    have hlt : i < s.nM := by omega
    refine ⟨by omega, within_c _ _, fun h => rd_memb h0 hb hlt hm (e := 2) ?_ (by decide), fun hK => ⟨⟨has_c _ _, fun _ => has_c _ _⟩, fun h => rd_memb h0 hb hlt hm (e := 6) ?_ (by decide), fun ⟨hA, hB⟩ => ⟨right_c _ _ _ _ _ (by omega) hB, fun h => rd_memb h0 hb hlt hm (e := 3) ?_ (by decide), fun hr => ⟨fun h => rd_memb h0 hb hlt hm (e := 5) ?_ (by decide), fun h => ⟨i64s (m := 4000) hlt (by omega) (by omega), by omega, fun l => seen_step l, fun _ _ => .inr trivial, ⟨by omega, fun k hk => ?_⟩, by omega⟩⟩⟩⟩⟩
    · rw [memE, if_pos h]
    · rw [memE, if_neg (by simpa using hK), if_pos h]
    · rw [memE, if_neg (by simpa using hK), if_neg (by omega), if_pos h]
    · rw [memE, if_neg (by simpa using hK), if_neg (by omega), if_neg (by simp [hr]), if_pos h]
    · rcases Nat.lt_or_ge k i with h9 | h9
      · exact hm k h9
      · obtain rfl : k = i := by omega
        rw [memE, if_neg (by simpa using hK), if_neg (by omega), if_neg (by simp [hr]), if_neg (fun h' => absurd (h h') (by decide))]
theorem firstE_zero {e : Nat → Int} : ∀ {n : Nat}, firstE e n = 0 → ∀ j, j < n → e j = 0
  | n + 1, h, j, hj => by
    rw [firstE] at h
    split at h
    · contradiction
    · rename_i h0
      rcases Nat.lt_or_ge j n with h1 | h1
      · exact firstE_zero (by simpa using h0) j h1
      · obtain rfl : j = n := by omega
        exact h
structure ScfOK (s : Scf) : Prop where
  nN : s.nN ≤ 1000
  nM : s.nM ≤ 4000
  node : ∀ i, i < s.nN → (inC (s.X i) = true ∧ inC (s.Y i) = true ∧ inC (s.Z i) = true) ∧ ¬ 0 ≤ nAt s i (s.X i) (s.Y i) (s.Z i)
  kind : ∀ i, i < s.nM → 0 ≤ s.K i ∧ s.K i ≤ 9
  ends : ∀ i, i < s.nM → (0 ≤ s.A i ∧ s.A i < s.nN) ∧ (0 ≤ s.B i ∧ s.B i < s.nN)
  right : ∀ i, i < s.nM → rgtF s s.nN (s.K i) (s.A i) (s.B i) = true
  seen : ∀ i, i < s.nM → seenH s i [s.K i, s.A i, s.B i] = false
theorem rdN_ok {s : Scf} (h : chkE s = 0) : rdN s = s.nN := by
  unfold chkE at h
  split at h
  · cases h
  · rename_i h0
    split at h
    · rename_i h1; exact absurd h h1
    · rename_i h1
      rw [rdN, if_neg h0, frsN_none (firstE_zero (Decidable.not_not.1 h1))]
theorem chk_facts {s : Scf} (h : chkE s = 0) : ScfOK s := by
  unfold chkE at h
  split at h
  · cases h
  · rename_i h0
    split at h
    · rename_i h1; exact absurd h h1
    · rename_i h1
      have hN := firstE_zero (Decidable.not_not.1 h1)
      have hM := firstE_zero h
      have nd : ∀ i, i < s.nN → (inC (s.X i) = true ∧ inC (s.Y i) = true ∧ inC (s.Z i) = true) ∧ ¬ 0 ≤ nAt s i (s.X i) (s.Y i) (s.Z i) := fun i hi => by
        have := hN i hi
        unfold nodE at this
        split at this
        · cases this
        · rename_i h2
          split at this
          · cases this
          · rename_i h3
            exact ⟨by simpa using h2, h3⟩
      have me : ∀ i, i < s.nM → (0 ≤ s.K i ∧ s.K i ≤ 9) ∧ ((0 ≤ s.A i ∧ s.A i < s.nN) ∧ (0 ≤ s.B i ∧ s.B i < s.nN)) ∧ rgtF s s.nN (s.K i) (s.A i) (s.B i) = true ∧ seenH s i [s.K i, s.A i, s.B i] = false := fun i hi => by
        have := hM i hi
        unfold memE at this
        split at this
        · cases this
        · rename_i h2
          split at this
          · cases this
          · rename_i h3
            split at this
            · cases this
            · rename_i h4
              split at this
              · cases this
              · rename_i h5
                exact ⟨by simpa using h2, by omega, by simpa using h4, by simpa using h5⟩
      exact ⟨by omega, by omega, nd, fun i hi => (me i hi).1, fun i hi => (me i hi).2.1, fun i hi => (me i hi).2.2.1, fun i hi => (me i hi).2.2.2⟩
end Go.Abs
