/- Contracts. -/
import Derived.Test.YtmcgfoacmalbjaaGreatDoorK3
import Derived.Test.YtmcgfoacmalbjaaGreatDoorAbsY
set_option maxRecDepth 100000
namespace Go.Abs
open Go
def crn (s : Scf) (a b : Int) (j : Nat) : Int := if j = 0 then a else if j = 1 then atL s s.nN [s.X b.toNat, s.Y a.toNat, s.Z a.toNat] else if j = 2 then b else atL s s.nN [s.X a.toNat, s.Y b.toNat, s.Z a.toNat]
def endN (k a b : Int) : Nat := if k = 6 then 4 else if a = b then 1 else 2
def endX (s : Scf) (k a b : Int) (j : Nat) : Int := if k = 6 then crn s a b j else if j = 0 then a else b
def sqr (s : Scf) (a b : Int) : Int := (s.X b.toNat - s.X a.toNat) * (s.X b.toNat - s.X a.toNat) + (s.Y b.toNat - s.Y a.toNat) * (s.Y b.toNat - s.Y a.toNat) + (s.Z b.toNat - s.Z a.toNat) * (s.Z b.toNat - s.Z a.toNat)
def ftB (s : Scf) : Nat → Nat → Bool
  | 0, _ => false
  | k + 1, i => (decide (s.K k = 9) && decide (s.A k = i)) || ftB s k i
def ftU (s : Scf) : Nat → Nat → Bool
  | 0, _ => false
  | k + 1, i => (decide (s.K k = 0) && decide (s.B k = i)) || ftU s k i
def ftA (s : Scf) : Nat → Nat → Bool
  | 0, _ => false
  | k + 1, i => (decide (s.K k = 0) && (decide (s.A k = i) || decide (s.B k = i))) || ftA s k i
abbrev footD (s : Scf) (k : Nat) : List (Nat → DV) := [fun i => dB (ftB s k i), fun i => dB (ftU s k i), fun i => dB (ftA s k i)]
def dkN (s : Scf) : Nat → Nat
  | 0 => 0
  | k + 1 => dkN s k + if s.K k = 6 then 1 else 0
def dkI (s : Scf) : Nat → Nat → Nat
  | 0, _ => 0
  | k + 1, q => if s.K k = 6 ∧ dkN s k = q then k else dkI s k q
def sdD (s : Scf) (x : Nat) : Int := dkI s s.nM (x / 4)
def sdA (s : Scf) (x : Nat) : Int := crn s (s.A (dkI s s.nM (x / 4))) (s.B (dkI s s.nM (x / 4))) (x % 4)
def sdB (s : Scf) (x : Nat) : Int := crn s (s.A (dkI s s.nM (x / 4))) (s.B (dkI s s.nM (x / 4))) ((x + 1) % 4)
theorem add0 (n : Nat) : addN 0 n = n := addN_eq 0 n |>.trans (Nat.zero_add n)
theorem dec_eq {A : Int} {i : Nat} (h : 0 ≤ A) : decide (i = addN 0 A.toNat) = decide (A = i) := decide_eq_decide.2 (by rw [add0]; omega)
theorem dkI_at {s : Scf} {i : Nat} (h : s.K i = 6) : ∀ {n : Nat}, i < n → dkI s n (dkN s i) = i
  | n + 1, hn => by
    rw [dkI]
    rcases Nat.lt_or_ge i n with h1 | h1
    · rw [if_neg (fun h2 => ?_), dkI_at h h1]
      have mono : ∀ {a b : Nat}, a ≤ b → dkN s a ≤ dkN s b := fun {a b} hab => by
        induction hab with
        | refl => exact Nat.le_refl _
        | step _ ih => exact Nat.le_trans ih (Nat.le_add_right _ _)
      have h3 : dkN s (i + 1) = dkN s i + 1 := by rw [dkN, if_pos h]
      have := mono (show i + 1 ≤ n by omega)
      omega
    · obtain rfl : i = n := by omega
      rw [if_pos ⟨h, rfl⟩]
theorem sd_at {s : Scf} {i k : Nat} (h : s.K i = 6) (hi : i < s.nM) (hk : k < 4) : sdD s (4 * dkN s i + k) = i ∧ sdA s (4 * dkN s i + k) = crn s (s.A i) (s.B i) k ∧ sdB s (4 * dkN s i + k) = crn s (s.A i) (s.B i) ((k + 1) % 4) := by
  have e1 : (4 * dkN s i + k) / 4 = dkN s i := by omega
  have e2 : (4 * dkN s i + k) % 4 = k := by omega
  have e3 : (4 * dkN s i + k + 1) % 4 = (k + 1) % 4 := by omega
  unfold sdD sdA sdB
  rw [e1, e2, e3, dkI_at h hi]
  exact ⟨rfl, rfl, rfl⟩
theorem rgt6 {s : Scf} {n : Nat} {a b : Int} (h : rgtF s n 6 a b = true) : (s.Z a.toNat = s.Z b.toNat ∧ s.X a.toNat < s.X b.toNat ∧ s.Y a.toNat < s.Y b.toNat) ∧ atH s n [s.X b.toNat, s.Y a.toNat, s.Z a.toNat] = true ∧ atH s n [s.X a.toNat, s.Y b.toNat, s.Z a.toNat] = true := by
  unfold rgtF geoF at h
  simp at h
  exact h
noncomputable def A38_nodes_c (s : Scf) (k a b : Int) : Ann := { orc := [], loops := [], cuts := [] }
theorem nodes_c (s : Scf) (k a b : Int) (ha : 0 ≤ a ∧ a < s.nN) (hb : 0 ≤ b ∧ b < s.nN) (h6 : k = 6 → atH s s.nN [s.X b.toNat, s.Y a.toNat, s.Z a.toNat] = true ∧ atH s s.nN [s.X a.toNat, s.Y b.toNat, s.Z a.toNat] = true) : FnC prog 38 [frmD s s.nN, dM k a b] (.lst (endN k a b) [fun j => dI (endX s k a b j)]) := by
  refine FnC_owed hmix (A38_nodes_c s k a b) (V := .ite (k == 6) (.need [(0:Int) ≤ a ∧ a < (s.nN:Int), (0:Int) ≤ b ∧ b < (s.nN:Int)] (.done [(4:Nat) ≤ 4, (4:Nat) = endN k a b, ∀ i < endN k a b, List.getD [a, if atH s s.nN [s.X b.toNat, s.Y a.toNat, s.Z a.toNat] = true then atL s s.nN [s.X b.toNat, s.Y a.toNat, s.Z a.toNat] else (0:Int), b, if atH s s.nN [s.X a.toNat, s.Y b.toNat, s.Z a.toNat] = true then atL s s.nN [s.X a.toNat, s.Y b.toNat, s.Z a.toNat] else (0:Int)] i (0:Int) = endX s k a b i])) (.ite (a == b) (.done [(1:Nat) ≤ 1, (1:Nat) = endN k a b, ∀ i < endN k a b, a = endX s k a b i]) (.done [(2:Nat) ≤ 2, (2:Nat) = endN k a b, ∀ i < endN k a b, List.getD [a, b] i (0:Int) = endX s k a b i]))) (by kernel_rfl) ?_
  simp only [VT.holds, AllT, Sq]
  refine ⟨fun h => ⟨⟨ha, hb⟩, by omega, by rw [endN, if_pos h], fun i hi => ?_⟩, fun h => ⟨fun e => ⟨by omega, by rw [endN, if_neg h, if_pos e], fun i hi => ?_⟩, fun e => ⟨by omega, by rw [endN, if_neg h, if_neg e], fun i hi => ?_⟩⟩⟩
  · rw [endN, if_pos h] at hi
    rw [endX, if_pos h, if_pos (h6 h).1, if_pos (h6 h).2]
    match i, hi with
    | 0, _ => rfl
    | 1, _ => rfl
    | 2, _ => rfl
    | 3, _ => rfl
  · rw [endN, if_neg h, if_pos e] at hi
    rw [endX, if_neg h, if_pos (by omega)]
  · rw [endN, if_neg h, if_neg e] at hi
    rw [endX, if_neg h]
    match i, hi with
    | 0, _ => rfl
    | 1, _ => rfl
theorem inC_bd {x : Int} (h : inC x = true) : -1000000 ≤ x ∧ x ≤ 1000000 := by
  unfold inC at h
  simpa using h
theorem sq_bd {x y : Int} (hx : -1000000 ≤ x ∧ x ≤ 1000000) (hy : -1000000 ≤ y ∧ y ≤ 1000000) : 0 ≤ (x - y) * (x - y) ∧ (x - y) * (x - y) ≤ 4000000000000 := by
  have h1 : -2000000 ≤ x - y := by omega
  have h2 : x - y ≤ 2000000 := by omega
  generalize x - y = d at h1 h2
  constructor
  · rcases Int.le_total 0 d with h | h
    · exact Int.mul_nonneg h h
    · have := Int.mul_nonneg (show 0 ≤ -d by omega) (show 0 ≤ -d by omega)
      rwa [Int.neg_mul_neg] at this
  · have : 0 ≤ (2000000 - d) * (2000000 + d) := Int.mul_nonneg (by omega) (by omega)
    rw [Int.sub_mul, Int.mul_add, Int.mul_add, Int.mul_comm d 2000000] at this
    omega
noncomputable def A33_square_c (s : Scf) (k a b : Int) : Ann := { orc := [], loops := [], cuts := [] }
theorem square_c (s : Scf) (k a b : Int) (ha : 0 ≤ a ∧ a < s.nN) (hb : 0 ≤ b ∧ b < s.nN) (hc : ScfOK s) : FnC prog 33 [frmD s s.nN, dM k a b] (dI (sqr s a b)) := by
  refine FnC_owed hmix (A33_square_c s k a b) (V := .need [(0:Int) ≤ a ∧ a < (s.nN:Int), (0:Int) ≤ b ∧ b < (s.nN:Int)] (.need [i64In (s.X b.toNat - s.X a.toNat), i64In (s.Y b.toNat - s.Y a.toNat), i64In (s.Z b.toNat - s.Z a.toNat)] (.need [i64In ((s.X b.toNat - s.X a.toNat) * (s.X b.toNat - s.X a.toNat)), i64In ((s.Y b.toNat - s.Y a.toNat) * (s.Y b.toNat - s.Y a.toNat)), i64In ((s.X b.toNat - s.X a.toNat) * (s.X b.toNat - s.X a.toNat) + (s.Y b.toNat - s.Y a.toNat) * (s.Y b.toNat - s.Y a.toNat)), i64In ((s.Z b.toNat - s.Z a.toNat) * (s.Z b.toNat - s.Z a.toNat)), i64In ((s.X b.toNat - s.X a.toNat) * (s.X b.toNat - s.X a.toNat) + (s.Y b.toNat - s.Y a.toNat) * (s.Y b.toNat - s.Y a.toNat) + (s.Z b.toNat - s.Z a.toNat) * (s.Z b.toNat - s.Z a.toNat))] (.done [(s.X b.toNat - s.X a.toNat) * (s.X b.toNat - s.X a.toNat) + (s.Y b.toNat - s.Y a.toNat) * (s.Y b.toNat - s.Y a.toNat) + (s.Z b.toNat - s.Z a.toNat) * (s.Z b.toNat - s.Z a.toNat) = sqr s a b])))) (by kernel_rfl) ?_
  simp only [VT.holds, AllT, Sq]
  have ea : a.toNat < s.nN := by omega
  have eb : b.toNat < s.nN := by omega
  obtain ⟨⟨x1, y1, z1⟩, _⟩ := hc.node _ ea
  obtain ⟨⟨x2, y2, z2⟩, _⟩ := hc.node _ eb
  have x1 := inC_bd x1
  have y1 := inC_bd y1
  have z1 := inC_bd z1
  have x2 := inC_bd x2
  have y2 := inC_bd y2
  have z2 := inC_bd z2
  have hx := sq_bd x2 x1
  have hy := sq_bd y2 y1
  have hz := sq_bd z2 z1
  refine ⟨⟨ha, hb⟩, ?_, ?_, rfl⟩
  · unfold i64In; omega
  · unfold i64In; omega
noncomputable def A35_feet_c (s : Scf) : Ann := { orc := [], loops := [(0, { ι := Nat, keep := [1, 13, 14], boxes := [1], ts := fun _ i => [(15, dI (i : Int))], rw := fun _ i => [(3, 3, s.nN, footD s i)], inv := fun _ i => i ≤ s.nM, mu := fun _ i => s.nM - i, rd := fun _ σ => (iOf (σ.get 15)).toNat })], cuts := [] }
noncomputable abbrev feet_cr0 (s : Scf) (r : List Prop) : List Prop := (s.nM = s.nM) :: (∀ (i : Nat), i < s.nM → s.K i = s.K i) :: (∀ (i : Nat), i < s.nM → s.A i = s.A i) :: (∀ (i : Nat), i < s.nM → s.B i = s.B i) :: r
noncomputable abbrev feet_cr1 (s : Scf) (r : List Prop) : List Prop := (s.nN = s.nN) :: (∀ (i : Nat), i < s.nN → s.X i = s.X i) :: (∀ (i : Nat), i < s.nN → s.Y i = s.Y i) :: (∀ (i : Nat), i < s.nN → s.Z i = s.Z i) :: r
theorem feet_c (s : Scf) (hc : ScfOK s) : FnC prog 35 [frmD s s.nN] (.lst s.nN (footD s s.nM)) := by
  refine FnC_owed hmix (A35_feet_c s) (V := .need [(0:Int) ≤ (s.nN:Int) ∧ (s.nN:Int) = (s.nN:Int) ∧ (s.nN:Int) ≤ 140737488355328 ∧ prog.types[(98:Nat)].4 * Int.toNat (s.nN:Int) ≤ 281474976710656] (.loop Nat (fun a => a ≤ s.nM) (0:Int).toNat (((0:Int) = (↑(0:Int).toNat : Int)) :: (((0:Nat) = 0) :: ((Int.toNat (s.nN:Int) = s.nN) :: (feet_cr0 s (((s.nM:Int) = (s.nM:Int)) :: ((Int.toNat (s.nN:Int) = s.nN) :: ((∀ i < s.nN, false = ftB s (0:Int).toNat i) :: ((∀ i < s.nN, false = ftU s (0:Int).toNat i) :: ((∀ i < s.nN, false = ftA s (0:Int).toNat i) :: (feet_cr1 s (feet_cr0 s [∀ (l : List Int), atH s s.nN l = atH s s.nN l, ∀ (l : List Int), atH s s.nN l = true → atL s s.nN l = atL s s.nN l]))))))))))) fun i => .ite (decide ((i:Int) < (s.nM:Int))) (.need [(0:Int) ≤ (i:Int) ∧ (i:Int) < (s.nM:Int)] (.ite (s.K (i:Int).toNat == 9) (.need [(0:Int) ≤ s.A (i:Int).toNat ∧ s.A (i:Int).toNat < (s.nN:Int), addN 0 (s.A (i:Int).toNat).toNat < s.nN] (.need [i64In ((i:Int) + 1)] (.done (((i:Int) + 1 = (↑((i:Int) + 1).toNat : Int)) :: (((0:Nat) = 0) :: ((s.nN = s.nN) :: (feet_cr0 s (((s.nM:Int) = (s.nM:Int)) :: ((s.nN = s.nN) :: ((∀ i_1 < s.nN, (if decide (i_1 = addN 0 (s.A (i:Int).toNat).toNat) = true then true else ftB s i i_1) = ftB s ((i:Int) + 1).toNat i_1) :: ((∀ i_1 < s.nN, ftU s i i_1 = ftU s ((i:Int) + 1).toNat i_1) :: ((∀ i_1 < s.nN, ftA s i i_1 = ftA s ((i:Int) + 1).toNat i_1) :: (feet_cr1 s (feet_cr0 s [∀ (l : List Int), atH s s.nN l = atH s s.nN l, ∀ (l : List Int), atH s s.nN l = true → atL s s.nN l = atL s s.nN l, Int.toNat ((i:Int) + 1) ≤ s.nM, s.nM - ((i:Int) + 1).toNat < s.nM - i])))))))))))))) (.ite (s.K
     (i:Int).toNat == 0) (.need [(0:Int) ≤ s.A (i:Int).toNat ∧ s.A (i:Int).toNat < (s.nN:Int), addN 0 (s.A (i:Int).toNat).toNat < s.nN, (0:Int) ≤ s.B (i:Int).toNat ∧ s.B (i:Int).toNat < (s.nN:Int), addN 0 (s.B (i:Int).toNat).toNat < s.nN, (0:Int) ≤ s.B (i:Int).toNat ∧ s.B (i:Int).toNat < (s.nN:Int), addN 0 (s.B (i:Int).toNat).toNat < s.nN] (.need [i64In ((i:Int) + 1)] (.done (((i:Int) + 1 = (↑((i:Int) + 1).toNat : Int)) :: (((0:Nat) = 0) :: ((s.nN = s.nN) :: (feet_cr0 s (((s.nM:Int) = (s.nM:Int)) :: ((s.nN = s.nN) :: ((∀ i_1 < s.nN, ftB s i i_1 = ftB s ((i:Int) + 1).toNat i_1) :: ((∀ i_1 < s.nN, (if decide (i_1 = addN 0 (s.B (i:Int).toNat).toNat) = true then true else ftU s i i_1) = ftU s ((i:Int) + 1).toNat i_1) :: ((∀ i_1 < s.nN, (if decide (i_1 = addN 0 (s.B (i:Int).toNat).toNat) = true then true else if decide (i_1 = addN 0 (s.A (i:Int).toNat).toNat) = true then true else ftA s i i_1) = ftA s ((i:Int) + 1).toNat i_1) :: (feet_cr1 s (feet_cr0 s [∀ (l : List Int), atH s s.nN l = atH s s.nN l, ∀ (l : List Int), atH s s.nN l = true → atL s s.nN l = atL s s.nN l, Int.toNat ((i:Int) + 1) ≤ s.nM, s.nM - ((i:Int) + 1).toNat < s.nM - i])))))))))))))) (.need [i64In ((i:Int) + 1)] (.done (((i:Int) + 1 = (↑((i:Int) + 1).toNat : Int)) :: (((0:Nat) = 0) :: ((s.nN = s.nN) :: (feet_cr0 s (((s.nM:Int) = (s.nM:Int)) :: ((s.nN = s.nN) :: ((∀ i_1 < s.nN, ftB s i i_1 = ftB s ((i:Int) + 1).toNat i_1) :: ((∀ i_1 < s.nN, ftU s i i_1 = ftU s ((i:Int) + 1).toNat i_1) :: ((∀ (i_1 : Nat),
     i_1 < s.nN → ftA s i i_1 = ftA s ((i:Int) + 1).toNat i_1) :: (feet_cr1 s (feet_cr0 s [∀ (l : List Int), atH s s.nN l = atH s s.nN l, ∀ (l : List Int), atH s s.nN l = true → atL s s.nN l = atL s s.nN l, Int.toNat ((i:Int) + 1) ≤ s.nM, s.nM - ((i:Int) + 1).toNat < s.nM - i])))))))))))))))) (.done [s.nN ≤ s.nN, s.nN = s.nN, ∀ i_1 < s.nN, ftB s i i_1 = ftB s s.nM i_1, ∀ i_1 < s.nN, ftU s i i_1 = ftU s s.nM i_1, ∀ i_1 < s.nN, ftA s i i_1 = ftA s s.nM i_1]))) (by kernel_rfl) ?_
  simp only [VT.holds, AllT, feet_cr0, feet_cr1, Sq]
  have ht : prog.types[98].bytes = 3 := by kernel_rfl
  have h1 := hc.nN
  have h2 := hc.nM
  have z0 : ∀ {A : Int} {n : Nat}, 0 ≤ A ∧ A < n → addN 0 A.toNat < n := fun h => by rw [add0]; omega
  refine ⟨⟨by omega, by omega, by rw [ht]; omega⟩, ⟨rfl, fun _ _ => rfl, fun _ _ => rfl, fun _ _ => rfl⟩, Nat.zero_le _, fun i hi => ⟨fun hlt => ?_, fun hge => ?_⟩⟩
  · have hlt : i < s.nM := by omega
    obtain ⟨hA, hB⟩ := hc.ends i hlt
    refine ⟨by omega, fun hk => ⟨⟨hA, z0 hA⟩, by unfold i64In; omega, by omega, fun j hj => ?_, fun j hj => ?_, fun j hj => ?_, by omega, by omega⟩, fun hk => ⟨fun hk0 => ⟨⟨hA, z0 hA, hB, z0 hB, hB, z0 hB⟩, by unfold i64In; omega, by omega, fun j hj => ?_, fun j hj => ?_, fun j hj => ?_, by omega, by omega⟩, fun hk0 => ⟨by unfold i64In; omega, by omega, fun j hj => ?_, fun j hj => ?_, fun j hj => ?_, by omega, by omega⟩⟩⟩
    · rw [dec_eq hA.1, ftB]; simp [hk]
    · rw [ftU]; simp [hk]
    · rw [ftA]; simp [hk]
    · rw [ftB]; simp [hk]
    · rw [dec_eq hB.1, ftU]; simp [hk0]
    · rw [dec_eq hB.1, dec_eq hA.1, ftA]; simp only [hk0, decide_true, Bool.true_and]; rw [← Bool.or_assoc, Bool.or_comm (decide (s.B i = _))]
    · rw [ftB]; simp [hk]
    · rw [ftU]; simp [hk0]
    · rw [ftA]; simp [hk0]
  · obtain rfl : i = s.nM := by omega
    exact ⟨Nat.le_refl _, fun _ _ => rfl, fun _ _ => rfl, fun _ _ => rfl⟩
noncomputable def A36_sides_s (s : Scf) : Ann := { orc := [(5, [(2, .res fun q => .lst (endN (fI 0 (arg q 1)) (fI 1 (arg q 1)) (fI 2 (arg q 1))) [fun j => dI (endX s (fI 0 (arg q 1)) (fI 1 (arg q 1)) (fI 2 (arg q 1)) j)])]), (9, [(6, .pos)])], loops := [(0, { ι := Nat, keep := [1, 2, 11, 12], boxes := [], ts := fun _ i => [(13, dI (i : Int))], inv := fun _ i => i ≤ s.nM, mu := fun _ i => s.nM - i, rd := fun _ σ => (iOf (σ.get 13)).toNat }), (2, { ι := Nat, keep := [1, 2, 4, 5, 6, 11, 12, 13, 24, 25], boxes := [], ts := fun _ i => [(26, dI (i : Int))], inv := fun _ i => i ≤ 4, mu := fun _ i => 4 - i, rd := fun _ σ => (iOf (σ.get 26)).toNat })], cuts := [] }
noncomputable def Y36_sides_s (s : Scf) : YNote := { A := A36_sides_s s, yl := [(9, 10)], cnt := [(0, fun σ => 4 * dkN s (iOf (σ.get 13)).toNat), (2, fun σ => 4 * dkN s (iOf (σ.get 4)).toNat + (iOf (σ.get 26)).toNat)], N := 4 * dkN s s.nM, enc := fun x => [.agg #[.int .i64 (sdD s x), .int .i64 (sdA s x), .int .i64 (sdB s x)]] }
theorem sides_s (s : Scf) (hc : ScfOK s) : SeqB prog 36 [frmD s s.nN] (4 * dkN s s.nM) (fun x => [.agg #[.int .i64 (sdD s x), .int .i64 (sdA s x), .int .i64 (sdB s x)]]) := by
  refine SeqB_owed (Y36_sides_s s) (V := fun l => VT.need []
        (VT.need []
          (VT.loop Nat (fun (a : Nat) => a ≤ s.nM) (Int.toNat (0:Int))
            [(0:Int) = (↑(Int.toNat (0:Int)) : Int),
              Value.func (Fn.yield l) (Array.mk []) (Array.mk []) = Value.func (Fn.yield l) (Array.mk []) (Array.mk []),
              s.nN = s.nN, ∀ (i : Nat), i < s.nN → s.X i = s.X i, ∀ (i : Nat), i < s.nN → s.Y i = s.Y i,
              ∀ (i : Nat), i < s.nN → s.Z i = s.Z i, s.nM = s.nM, ∀ (i : Nat), i < s.nM → s.K i = s.K i,
              ∀ (i : Nat), i < s.nM → s.A i = s.A i, ∀ (i : Nat), i < s.nM → s.B i = s.B i,
              ∀ (l : List Int), atH s s.nN l = atH s s.nN l,
              ∀ (l : List Int), atH s s.nN l = true → atL s s.nN l = atL s s.nN l, s.nM = s.nM,
              ∀ (i : Nat), i < s.nM → s.K i = s.K i, ∀ (i : Nat), i < s.nM → s.A i = s.A i,
              ∀ (i : Nat), i < s.nM → s.B i = s.B i, (s.nM:Int) = (s.nM:Int),
              (0:Nat) = (4:Nat) * dkN s (Int.toNat (↑(Int.toNat (0:Int)) : Int))]
            fun (i : Nat) =>
            VT.need []
              (VT.ite (decide ((i:Int) < (s.nM:Int)))
                (VT.need [(0:Int) ≤ (i:Int) ∧ (i:Int) < (s.nM:Int)]
                  (VT.need []
                    (VT.ite (s.K (Int.toNat (i:Int)) != (6:Int))
                      (VT.need [i64In ((i:Int) + (1:Int))]
                        (VT.done
                          [(i:Int) + (1:Int) = (↑(Int.toNat ((i:Int) + (1:Int))) : Int),
                            Value.func (Fn.yield l) (Array.mk []) (Array.mk []) =
                              Value.func (Fn.yield l) (Array.mk []) (Array.mk []),
                            s.nN = s.nN, ∀ (i : Nat), i < s.nN → s.X i = s.X i, ∀ (i : Nat), i < s.nN → s.Y i = s.Y i,
                            ∀ (i : Nat), i < s.nN → s.Z i = s.Z i, s.nM = s.nM, ∀ (i : Nat), i < s.nM → s.K i = s.K i,
                            ∀ (i : Nat), i < s.nM → s.A i = s.A i, ∀ (i : Nat), i < s.nM → s.B i = s.B i,
                            ∀ (l : List Int), atH s s.nN l = atH s s.nN l,
                            ∀ (l : List Int), atH s s.nN l = true → atL s s.nN l = atL s s.nN l, s.nM = s.nM,
                            ∀ (i : Nat), i < s.nM → s.K i = s.K i, ∀ (i : Nat), i < s.nM → s.A i = s.A i,
                            ∀ (i : Nat), i < s.nM → s.B i = s.B i, (s.nM:Int) = (s.nM:Int),
                            (4:Nat) * dkN s (Int.toNat (i:Int)) =
                              (4:Nat) * dkN s (Int.toNat (↑(Int.toNat ((i:Int) + (1:Int))) : Int)),
                            Int.toNat ((i:Int) + (1:Int)) ≤ s.nM,
                            s.nM - Int.toNat ((i:Int) + (1:Int)) < s.nM - i]))
                      (VT.need
                        [FnC prog 38
                            [DV.agg
                                [DV.lst s.nN
                                    [fun (i : Nat) => DV.val (Value.int IntKind.i64 (s.X i)), fun (i : Nat) =>
                                      DV.val (Value.int IntKind.i64 (s.Y i)), fun (i : Nat) =>
                                      DV.val (Value.int IntKind.i64 (s.Z i))],
                                  DV.lst s.nM
                                    [fun (i : Nat) => DV.val (Value.int IntKind.i64 (s.K i)), fun (i : Nat) =>
                                      DV.val (Value.int IntKind.i64 (s.A i)), fun (i : Nat) =>
                                      DV.val (Value.int IntKind.i64 (s.B i))],
                                  DV.mp (KS.ints (3:Nat)) (fun (l : List Int) => atH s s.nN l) fun (l : List Int) =>
                                    DV.val (Value.int IntKind.i64 (atL s s.nN l))],
                              DV.val
                                (Value.agg
                                  (Array.mk
                                    [Value.int IntKind.i64 (s.K (Int.toNat (i:Int))),
                                      Value.int IntKind.i64 (s.A (Int.toNat (i:Int))),
                                      Value.int IntKind.i64 (s.B (Int.toNat (i:Int)))]))]
                            (DV.lst
                              (endN (s.K (Int.toNat (i:Int))) (s.A (Int.toNat (i:Int))) (s.B (Int.toNat (i:Int))))
                              [fun (j : Nat) =>
                                DV.val
                                  (Value.int IntKind.i64
                                    (endX s (s.K (Int.toNat (i:Int))) (s.A (Int.toNat (i:Int)))
                                      (s.B (Int.toNat (i:Int))) j))])]
                        (VT.need []
                          (VT.loop Nat (fun (a : Nat) => a ≤ (4:Nat)) (Int.toNat (0:Int))
                            [(0:Int) = (↑(Int.toNat (0:Int)) : Int),
                              Value.func (Fn.yield l) (Array.mk []) (Array.mk []) =
                                Value.func (Fn.yield l) (Array.mk []) (Array.mk []),
                              s.nN = s.nN, ∀ (i : Nat), i < s.nN → s.X i = s.X i, ∀ (i : Nat), i < s.nN → s.Y i = s.Y i,
                              ∀ (i : Nat), i < s.nN → s.Z i = s.Z i, s.nM = s.nM, ∀ (i : Nat), i < s.nM → s.K i = s.K i,
                              ∀ (i : Nat), i < s.nM → s.A i = s.A i, ∀ (i : Nat), i < s.nM → s.B i = s.B i,
                              ∀ (l : List Int), atH s s.nN l = atH s s.nN l,
                              ∀ (l : List Int), atH s s.nN l = true → atL s s.nN l = atL s s.nN l, (i:Int) = (i:Int),
                              s.K (Int.toNat (i:Int)) = s.K (Int.toNat (i:Int)),
                              s.A (Int.toNat (i:Int)) = s.A (Int.toNat (i:Int)),
                              s.B (Int.toNat (i:Int)) = s.B (Int.toNat (i:Int)),
                              endN (s.K (Int.toNat (i:Int))) (s.A (Int.toNat (i:Int))) (s.B (Int.toNat (i:Int))) =
                                endN (s.K (Int.toNat (i:Int))) (s.A (Int.toNat (i:Int))) (s.B (Int.toNat (i:Int))),
                              ∀ (i_1 : Nat),
                                i_1 <
                                    endN (s.K (Int.toNat (i:Int))) (s.A (Int.toNat (i:Int)))
                                      (s.B (Int.toNat (i:Int))) →
                                  endX s (s.K (Int.toNat (i:Int))) (s.A (Int.toNat (i:Int)))
                                      (s.B (Int.toNat (i:Int))) i_1 =
                                    endX s (s.K (Int.toNat (i:Int))) (s.A (Int.toNat (i:Int)))
                                      (s.B (Int.toNat (i:Int))) i_1,
                              s.nM = s.nM, ∀ (i : Nat), i < s.nM → s.K i = s.K i, ∀ (i : Nat), i < s.nM → s.A i = s.A i,
                              ∀ (i : Nat), i < s.nM → s.B i = s.B i, (s.nM:Int) = (s.nM:Int), (i:Int) = (i:Int),
                              endN (s.K (Int.toNat (i:Int))) (s.A (Int.toNat (i:Int))) (s.B (Int.toNat (i:Int))) =
                                endN (s.K (Int.toNat (i:Int))) (s.A (Int.toNat (i:Int))) (s.B (Int.toNat (i:Int))),
                              ∀ (i_1 : Nat),
                                i_1 <
                                    endN (s.K (Int.toNat (i:Int))) (s.A (Int.toNat (i:Int)))
                                      (s.B (Int.toNat (i:Int))) →
                                  endX s (s.K (Int.toNat (i:Int))) (s.A (Int.toNat (i:Int)))
                                      (s.B (Int.toNat (i:Int))) i_1 =
                                    endX s (s.K (Int.toNat (i:Int))) (s.A (Int.toNat (i:Int)))
                                      (s.B (Int.toNat (i:Int))) i_1,
                              (↑(endN (s.K (Int.toNat (i:Int))) (s.A (Int.toNat (i:Int)))
                                      (s.B (Int.toNat (i:Int)))) :
                                  Int) =
                                (↑(endN (s.K (Int.toNat (i:Int))) (s.A (Int.toNat (i:Int)))
                                      (s.B (Int.toNat (i:Int)))) :
                                  Int),
                              (4:Nat) * dkN s (Int.toNat (i:Int)) =
                                (4:Nat) * dkN s (Int.toNat (i:Int)) + Int.toNat (↑(Int.toNat (0:Int)) : Int)]
                            fun (i_1 : Nat) =>
                            VT.need []
                              (VT.ite
                                (decide
                                  ((i_1:Int) <
                                    (↑(endN (s.K (Int.toNat (i:Int))) (s.A (Int.toNat (i:Int)))
                                          (s.B (Int.toNat (i:Int)))) :
                                      Int)))
                                (VT.need
                                  [(0:Int) ≤ (i_1:Int) ∧
                                      (i_1:Int) <
                                        (↑(endN (s.K (Int.toNat (i:Int))) (s.A (Int.toNat (i:Int)))
                                              (s.B (Int.toNat (i:Int)))) :
                                          Int)]
                                  (VT.need
                                    [i64In ((i_1:Int) + (1:Int)),
                                      (0:Int) ≤ (i_1:Int) + (1:Int) ∧ (0:Int) < (4:Int),
                                      (0:Int) ≤ ((i_1:Int) + (1:Int)) % (4:Int) ∧
                                        ((i_1:Int) + (1:Int)) % (4:Int) <
                                          (↑(endN (s.K (Int.toNat (i:Int))) (s.A (Int.toNat (i:Int)))
                                                (s.B (Int.toNat (i:Int)))) :
                                            Int),
                                      l = l,
                                      (4:Nat) * dkN s (Int.toNat (i:Int)) + Int.toNat (i_1:Int) < (Y36_sides_s s).4,
                                      [Value.agg
                                            (Array.mk
                                              [Value.int IntKind.i64
                                                  (sdD s
                                                    ((4:Nat) * dkN s (Int.toNat (i:Int)) + Int.toNat (i_1:Int))),
                                                Value.int IntKind.i64
                                                  (sdA s
                                                    ((4:Nat) * dkN s (Int.toNat (i:Int)) + Int.toNat (i_1:Int))),
                                                Value.int IntKind.i64
                                                  (sdB s
                                                    ((4:Nat) * dkN s (Int.toNat (i:Int)) +
                                                      Int.toNat (i_1:Int)))])] =
                                        [Value.agg
                                            (Array.mk
                                              [Value.int IntKind.i64 (i:Int),
                                                Value.int IntKind.i64
                                                  (endX s (s.K (Int.toNat (i:Int))) (s.A (Int.toNat (i:Int)))
                                                    (s.B (Int.toNat (i:Int))) (Int.toNat (i_1:Int))),
                                                Value.int IntKind.i64
                                                  (endX s (s.K (Int.toNat (i:Int))) (s.A (Int.toNat (i:Int)))
                                                    (s.B (Int.toNat (i:Int)))
                                                    (Int.toNat (((i_1:Int) + (1:Int)) % (4:Int))))])]]
                                    (VT.cut Unit (fun (u : Unit) => True)
                                      (VT.need []
                                        (VT.ite (!true)
                                          (VT.done
                                            [(4:Nat) * dkN s (Int.toNat (i:Int)) + Int.toNat (i_1:Int) + (1:Nat) =
                                                (Y36_sides_s s).4])
                                          (VT.need [i64In ((i_1:Int) + (1:Int))]
                                            (VT.done
                                              [(i_1:Int) + (1:Int) = (↑(Int.toNat ((i_1:Int) + (1:Int))) : Int),
                                                Value.func (Fn.yield l) (Array.mk []) (Array.mk []) =
                                                  Value.func (Fn.yield l) (Array.mk []) (Array.mk []),
                                                s.nN = s.nN, ∀ (i : Nat), i < s.nN → s.X i = s.X i,
                                                ∀ (i : Nat), i < s.nN → s.Y i = s.Y i,
                                                ∀ (i : Nat), i < s.nN → s.Z i = s.Z i, s.nM = s.nM,
                                                ∀ (i : Nat), i < s.nM → s.K i = s.K i,
                                                ∀ (i : Nat), i < s.nM → s.A i = s.A i,
                                                ∀ (i : Nat), i < s.nM → s.B i = s.B i,
                                                ∀ (l : List Int), atH s s.nN l = atH s s.nN l,
                                                ∀ (l : List Int), atH s s.nN l = true → atL s s.nN l = atL s s.nN l,
                                                (i:Int) = (i:Int),
                                                s.K (Int.toNat (i:Int)) = s.K (Int.toNat (i:Int)),
                                                s.A (Int.toNat (i:Int)) = s.A (Int.toNat (i:Int)),
                                                s.B (Int.toNat (i:Int)) = s.B (Int.toNat (i:Int)),
                                                endN (s.K (Int.toNat (i:Int))) (s.A (Int.toNat (i:Int)))
                                                    (s.B (Int.toNat (i:Int))) =
                                                  endN (s.K (Int.toNat (i:Int))) (s.A (Int.toNat (i:Int)))
                                                    (s.B (Int.toNat (i:Int))),
                                                ∀ (i_2 : Nat),
                                                  i_2 <
                                                      endN (s.K (Int.toNat (i:Int))) (s.A (Int.toNat (i:Int)))
                                                        (s.B (Int.toNat (i:Int))) →
                                                    endX s (s.K (Int.toNat (i:Int))) (s.A (Int.toNat (i:Int)))
                                                        (s.B (Int.toNat (i:Int))) i_2 =
                                                      endX s (s.K (Int.toNat (i:Int))) (s.A (Int.toNat (i:Int)))
                                                        (s.B (Int.toNat (i:Int))) i_2,
                                                s.nM = s.nM, ∀ (i : Nat), i < s.nM → s.K i = s.K i,
                                                ∀ (i : Nat), i < s.nM → s.A i = s.A i,
                                                ∀ (i : Nat), i < s.nM → s.B i = s.B i, (s.nM:Int) = (s.nM:Int),
                                                (i:Int) = (i:Int),
                                                endN (s.K (Int.toNat (i:Int))) (s.A (Int.toNat (i:Int)))
                                                    (s.B (Int.toNat (i:Int))) =
                                                  endN (s.K (Int.toNat (i:Int))) (s.A (Int.toNat (i:Int)))
                                                    (s.B (Int.toNat (i:Int))),
                                                ∀ (i_2 : Nat),
                                                  i_2 <
                                                      endN (s.K (Int.toNat (i:Int))) (s.A (Int.toNat (i:Int)))
                                                        (s.B (Int.toNat (i:Int))) →
                                                    endX s (s.K (Int.toNat (i:Int))) (s.A (Int.toNat (i:Int)))
                                                        (s.B (Int.toNat (i:Int))) i_2 =
                                                      endX s (s.K (Int.toNat (i:Int))) (s.A (Int.toNat (i:Int)))
                                                        (s.B (Int.toNat (i:Int))) i_2,
                                                (↑(endN (s.K (Int.toNat (i:Int))) (s.A (Int.toNat (i:Int)))
                                                        (s.B (Int.toNat (i:Int)))) :
                                                    Int) =
                                                  (↑(endN (s.K (Int.toNat (i:Int))) (s.A (Int.toNat (i:Int)))
                                                        (s.B (Int.toNat (i:Int)))) :
                                                    Int),
                                                (4:Nat) * dkN s (Int.toNat (i:Int)) + Int.toNat (i_1:Int) +
                                                    (1:Nat) =
                                                  (4:Nat) * dkN s (Int.toNat (i:Int)) +
                                                    Int.toNat (↑(Int.toNat ((i_1:Int) + (1:Int))) : Int),
                                                Int.toNat ((i_1:Int) + (1:Int)) ≤ (4:Nat),
                                                (4:Nat) - Int.toNat ((i_1:Int) + (1:Int)) < (4:Nat) - i_1]))))
                                      fun (u : Unit) =>
                                      VT.need []
                                        (VT.ite (!false) (VT.done [])
                                          (VT.need [i64In ((i_1:Int) + (1:Int))] (VT.done [False]))))))
                                (VT.need [i64In ((i:Int) + (1:Int))]
                                  (VT.done
                                    [(i:Int) + (1:Int) = (↑(Int.toNat ((i:Int) + (1:Int))) : Int),
                                      Value.func (Fn.yield l) (Array.mk []) (Array.mk []) =
                                        Value.func (Fn.yield l) (Array.mk []) (Array.mk []),
                                      s.nN = s.nN, ∀ (i : Nat), i < s.nN → s.X i = s.X i,
                                      ∀ (i : Nat), i < s.nN → s.Y i = s.Y i, ∀ (i : Nat), i < s.nN → s.Z i = s.Z i,
                                      s.nM = s.nM, ∀ (i : Nat), i < s.nM → s.K i = s.K i,
                                      ∀ (i : Nat), i < s.nM → s.A i = s.A i, ∀ (i : Nat), i < s.nM → s.B i = s.B i,
                                      ∀ (l : List Int), atH s s.nN l = atH s s.nN l,
                                      ∀ (l : List Int), atH s s.nN l = true → atL s s.nN l = atL s s.nN l, s.nM = s.nM,
                                      ∀ (i : Nat), i < s.nM → s.K i = s.K i, ∀ (i : Nat), i < s.nM → s.A i = s.A i,
                                      ∀ (i : Nat), i < s.nM → s.B i = s.B i, (s.nM:Int) = (s.nM:Int),
                                      (4:Nat) * dkN s (Int.toNat (i:Int)) + Int.toNat (i_1:Int) =
                                        (4:Nat) * dkN s (Int.toNat (↑(Int.toNat ((i:Int) + (1:Int))) : Int)),
                                      Int.toNat ((i:Int) + (1:Int)) ≤ s.nM,
                                      s.nM - Int.toNat ((i:Int) + (1:Int)) < s.nM - i])))))))))
                (VT.done [(4:Nat) * dkN s (Int.toNat (i:Int)) = (Y36_sides_s s).4]))))) (fun l => by kernel_rfl) (fun l => ?_)
  simp only [VT.holds, AllT, Sq]
  have hN : (Y36_sides_s s).N = 4 * dkN s s.nM := rfl
  simp only [hN]
  have h1 := hc.nM
  have dstep : ∀ i, dkN s (i + 1) = dkN s i + if s.K i = 6 then 1 else 0 := fun _ => rfl
  have dmono : ∀ {a b : Nat}, a ≤ b → dkN s a ≤ dkN s b := fun {a b} hab => by
    induction hab with
    | refl => exact Nat.le_refl _
    | step _ ih => exact Nat.le_trans ih (Nat.le_add_right _ _)
  refine ⟨⟨rfl, rfl⟩, Nat.zero_le _, fun i hi => ⟨fun hlt => ⟨by omega, fun hk => ⟨by unfold i64In; omega, by omega, by rw [dstep, if_neg hk, Nat.add_zero], by omega, by omega⟩, fun hk => ?_⟩, fun hge => ?_⟩⟩
  · have hlt : i < s.nM := by omega
    have hr := hc.right i hlt
    rw [hk] at hr
    obtain ⟨hA, hB⟩ := hc.ends i hlt
    have e4 : endN (s.K i) (s.A i) (s.B i) = 4 := by rw [endN, if_pos hk]
    have ex : ∀ j, endX s (s.K i) (s.A i) (s.B i) j = crn s (s.A i) (s.B i) j := fun j => by rw [endX, if_pos hk]
    have hd := dstep i
    rw [if_pos hk] at hd
    refine ⟨nodes_c s _ _ _ hA hB (fun _ => (rgt6 hr).2), ⟨rfl, rfl⟩, by omega, fun k h4 => ⟨fun hk4 => ?_, fun hk4 => ?_⟩⟩
    · rw [e4] at hk4 ⊢
      have hk4 : k < 4 := by omega
      obtain ⟨s1, s2, s3⟩ := sd_at hk hlt hk4
      have hm := dmono (show i + 1 ≤ s.nM by omega)
      have et : ((k : Int) + 1) % 4 = (((k + 1) % 4 : Nat) : Int) := by omega
      refine ⟨by omega, ⟨by unfold i64In; omega, by omega, by omega, by omega, ?_⟩, ⟨fun h => (by cases h), fun _ => ⟨by unfold i64In; omega, by omega, by omega, by omega, by omega⟩⟩, fun _ _ h => (by cases h)⟩
      rw [s1, s2, s3, ex, ex, et, Int.toNat_natCast]
    · rw [e4] at hk4
      have hk4 : k = 4 := by omega
      subst hk4
      exact ⟨by unfold i64In; omega, by omega, by omega, by omega, by omega⟩
  · obtain rfl : i = s.nM := by omega
    rfl
end Go.Abs
