/- Contracts. -/
import Derived.Test.YtmcgfoacmalbjaaGreatDoorK9
set_option maxRecDepth 100000
namespace Go.Abs
open Go
abbrev nums (n : Nat) (A : Nat → Int) : DV := .lst n [fun i => dI (A i)]
abbrev edgD (n : Nat) (D A B : Nat → Int) : DV := .lst n [fun i => dI (D i), fun i => dI (A i), fun i => dI (B i)]
def sameN (n : Nat) (A : Nat → Int) (m : Nat) (B : Nat → Int) : Bool := decide (n = m ∧ ∀ i, i < n → A i = B i)
def sameE (n : Nat) (D A B : Nat → Int) (m : Nat) (D' A' B' : Nat → Int) : Bool := decide (n = m ∧ ∀ i, i < n → (D i = D' i ∧ A i = A' i ∧ B i = B' i))
def tbl : Scf where
  nN := 8
  X := fun i => [0, 2000, 2000, 0, 0, 2000, 2000, 0].getD i 0
  Y := fun i => [0, 0, 700, 700, 0, 0, 700, 700].getD i 0
  Z := fun i => [0, 0, 0, 0, 2000, 2000, 2000, 2000].getD i 0
  nM := 10
  K := fun i => [9, 9, 9, 9, 0, 0, 0, 0, 6, 7].getD i 0
  A := fun i => [0, 1, 2, 3, 0, 1, 2, 3, 4, 0].getD i 0
  B := fun i => [0, 1, 2, 3, 4, 5, 6, 7, 6, 4].getD i 0
def tbx : Bxs := ⟨1, fun _ => 900, fun _ => 300, fun _ => 1900, fun _ => 1100, fun _ => 400, fun _ => 2100⟩
def eD (j : Nat) : Int := sdD tbl (flI (opnP tbl) (nSd tbl) j)
def eA (j : Nat) : Int := sdA tbl (flI (opnP tbl) (nSd tbl) j)
def eB (j : Nat) : Int := sdB tbl (flI (opnP tbl) (nSd tbl) j)
noncomputable def eR (j : Nat) : Int := rchI tbl j
def eK (j : Nat) : Int := flI (bkP tbl tbx) tbl.nM j
def l1 (j : Nat) : Int := [8, 8, 8, 8].getD j 0
def l2 (j : Nat) : Int := [4, 5, 6, 7].getD j 0
def l3 (j : Nat) : Int := [5, 6, 7, 4].getD j 0
def l8 (_ : Nat) : Int := 8
noncomputable def A18_ints_c (n : Nat) (A : Nat → Int) (m : Nat) (B : Nat → Int) : Ann := { orc := [], loops := [(0, { ι := Nat, keep := [0, 1], boxes := [], ts := fun _ i => [(5, dI (i : Int))], inv := fun _ i => i ≤ n ∧ ∀ j, j < i → A j = B j, mu := fun _ i => n - i, rd := fun _ σ => (iOf (σ.get 5)).toNat })], cuts := [] }
theorem ints_c (n : Nat) (A : Nat → Int) (m : Nat) (B : Nat → Int) (hn : n ≤ 1000000) : FnC prog 18 [nums n A, nums m B] (dB (sameN n A m B)) := by
  refine FnC_owed hmix (A18_ints_c n A m B) (V := .ite ((n:Int) != (m:Int)) (.done [false = sameN n A m B]) (.loop Nat (fun a => a ≤ n ∧ ∀ (j : Nat), j < a → A j = B j) (0:Int).toNat [(0:Int) = (↑(0:Int).toNat : Int), n = n, ∀ i < n, A i = A i, m = m, ∀ i < m, B i = B i] fun i => .ite (decide ((i:Int) < (n:Int))) (.need [(0:Int) ≤ (i:Int) ∧ (i:Int) < (n:Int), (0:Int) ≤ (i:Int) ∧ (i:Int) < (m:Int)] (.ite (A (i:Int).toNat != B (i:Int).toNat) (.done [false = sameN n A m B]) (.need [i64In ((i:Int) + 1)] (.done [(i:Int) + 1 = (↑((i:Int) + 1).toNat : Int), n = n, ∀ i < n, A i = A i, m = m, ∀ i < m, B i = B i, Int.toNat ((i:Int) + 1) ≤ n ∧ ∀ (j : Nat), j < ((i:Int) + 1).toNat → A j = B j, n - ((i:Int) + 1).toNat < n - i])))) (.done [true = sameN n A m B]))) (by kernel_rfl) ?_
  simp only [VT.holds, AllT, Sq]
  refine ⟨fun h => ?_, fun h => ⟨rfl, ⟨by omega, fun j hj => (by omega)⟩, fun i ⟨hi, hb⟩ => ⟨fun hlt => ⟨⟨by omega, by omega, by omega⟩, fun hne => ?_, fun he => ⟨by unfold i64In; omega, by omega, ⟨by omega, fun j hj => ?_⟩, by omega⟩⟩, fun hge => ?_⟩⟩⟩
  · unfold sameN
    rw [eq_comm, decide_eq_false_iff_not]
    intro hx; omega
  · unfold sameN
    rw [eq_comm, decide_eq_false_iff_not]
    intro hx; exact hne (hx.2 i (by omega))
  · by_cases e : j = i
    · subst e; exact he
    · exact hb j (by omega)
  · unfold sameN
    rw [eq_comm, decide_eq_true_eq]
    exact ⟨by omega, fun j hj => hb j (by omega)⟩
noncomputable def A17_edges_c (n : Nat) (D A B : Nat → Int) (m : Nat) (D' A' B' : Nat → Int) : Ann := { orc := [], loops := [(0, { ι := Nat, keep := [0, 1], boxes := [], ts := fun _ i => [(5, dI (i : Int))], inv := fun _ i => i ≤ n ∧ ∀ j, j < i → (D j = D' j ∧ A j = A' j ∧ B j = B' j), mu := fun _ i => n - i, rd := fun _ σ => (iOf (σ.get 5)).toNat })], cuts := [] }
theorem edges_c (n : Nat) (D A B : Nat → Int) (m : Nat) (D' A' B' : Nat → Int) (hn : n ≤ 1000000) : FnC prog 17 [edgD n D A B, edgD m D' A' B'] (dB (sameE n D A B m D' A' B')) := by
  refine FnC_owed hmix (A17_edges_c n D A B m D' A' B') (V := .ite ((n:Int) != (m:Int)) (.done [false = sameE n D A B m D' A' B']) (.loop Nat (fun a => a ≤ n ∧ ∀ (j : Nat), j < a → D j = D' j ∧ A j = A' j ∧ B j = B' j) (0:Int).toNat [(0:Int) = (↑(0:Int).toNat : Int), n = n, ∀ i < n, D i = D i, ∀ i < n, A i = A i, ∀ i < n, B i = B i, m = m, ∀ i < m, D' i = D' i, ∀ i < m, A' i = A' i, ∀ i < m, B' i = B' i] fun i => .ite (decide ((i:Int) < (n:Int))) (.need [(0:Int) ≤ (i:Int) ∧ (i:Int) < (n:Int), (0:Int) ≤ (i:Int) ∧ (i:Int) < (m:Int)] (.ite (!(D (i:Int).toNat == D' (i:Int).toNat && (A (i:Int).toNat == A' (i:Int).toNat && (B (i:Int).toNat == B' (i:Int).toNat && true)))) (.done [false = sameE n D A B m D' A' B']) (.need [i64In ((i:Int) + 1)] (.done [(i:Int) + 1 = (↑((i:Int) + 1).toNat : Int), n = n, ∀ i < n, D i = D i, ∀ i < n, A i = A i, ∀ i < n, B i = B i, m = m, ∀ i < m, D' i = D' i, ∀ i < m, A' i = A' i, ∀ i < m, B' i = B' i, Int.toNat ((i:Int) + 1) ≤ n ∧ ∀ (j : Nat), j < ((i:Int) + 1).toNat → D j = D' j ∧ A j = A' j ∧ B j = B' j, n - ((i:Int) + 1).toNat < n - i])))) (.done [true = sameE n D A B m D' A' B']))) (by kernel_rfl) ?_
  simp only [VT.holds, AllT, Sq]
  refine ⟨fun h => ?_, fun h => ⟨rfl, ⟨by omega, fun j hj => (by omega)⟩, fun i ⟨hi, hb⟩ => ⟨fun hlt => ⟨⟨by omega, by omega, by omega⟩, fun hne => ?_, fun he => ⟨by unfold i64In; omega, by omega, ⟨by omega, fun j hj => ?_⟩, by omega⟩⟩, fun hge => ?_⟩⟩⟩
  · unfold sameE
    rw [eq_comm, decide_eq_false_iff_not]
    intro hx; omega
  · unfold sameE
    rw [eq_comm, decide_eq_false_iff_not]
    intro hx; obtain ⟨a, b, c⟩ := hx.2 i (by omega); exact absurd (hne a b c) (by decide)
  · by_cases e : j = i
    · subst e; exact he
    · exact hb j (by omega)
  · unfold sameE
    rw [eq_comm, decide_eq_true_eq]
    exact ⟨by omega, fun j hj => hb j (by omega)⟩
noncomputable def A12_table_c  : Ann := { orc := [], loops := [], cuts := [] }
theorem table_c   : FnC prog 12 [] (scfD tbl) := by
  refine FnC_owed hmix (A12_table_c ) (V := .done [(8:Nat) ≤ 8, (10:Nat) ≤ 10, (8:Nat) = tbl.1, ∀ i < tbl.1, List.getD [(0:Int), (2000:Int), (2000:Int), (0:Int), (0:Int), (2000:Int), (2000:Int), (0:Int)] i (0:Int) = tbl.2 i, ∀ i < tbl.1, List.getD [(0:Int), (0:Int), (700:Int), (700:Int), (0:Int), (0:Int), (700:Int), (700:Int)] i (0:Int) = tbl.3 i, ∀ i < tbl.1, List.getD [(0:Int), (0:Int), (0:Int), (0:Int), (2000:Int), (2000:Int), (2000:Int), (2000:Int)] i (0:Int) = tbl.4 i, (10:Nat) = tbl.5, ∀ i < tbl.5, List.getD [(9:Int), (9:Int), (9:Int), (9:Int), (0:Int), (0:Int), (0:Int), (0:Int), (6:Int), (7:Int)] i (0:Int) = tbl.6 i, ∀ i < tbl.5, List.getD [(0:Int), (1:Int), (2:Int), (3:Int), (0:Int), (1:Int), (2:Int), (3:Int), (4:Int), (0:Int)] i (0:Int) = tbl.7 i, ∀ i < tbl.5, List.getD [(0:Int), (1:Int), (2:Int), (3:Int), (4:Int), (5:Int), (6:Int), (7:Int), (6:Int), (4:Int)] i (0:Int) = tbl.8 i]) (by kernel_rfl) ?_
  simp only [VT.holds, AllT, Sq]
  exact ⟨by decide, by decide, rfl, fun _ _ => rfl, fun _ _ => rfl, fun _ _ => rfl, rfl, fun _ _ => rfl, fun _ _ => rfl, fun _ _ => rfl⟩
noncomputable def A4_awake_c  : Ann := { orc := [(1, [(0, .res fun _ => scfD tbl)]), (2, [(1, .res fun _ => .tup [dI (sqV tbl 8), dI (sqE tbl 8)])]), (3, [(1, .res fun _ => .tup [.lst (sdN tbl) [fun j => dI (eD j), fun j => dI (eA j), fun j => dI (eB j)], dI (chkE tbl)])]), (4, [(1, .res fun _ => .tup [.lst (rchN tbl) [fun j => dI (eR j)], dI (chkE tbl)])]), (5, [(3, .res fun _ => .tup [.lst (bkN tbl tbx) [fun j => dI (eK j)], dI (bkE tbl tbx)])]), (6, [(17, .res fun _ => dB (sameE (sdN tbl) eD eA eB 4 l1 l2 l3)), (26, .res fun _ => dB (sameN (rchN tbl) eR 1 l8)), (35, .res fun _ => dB (sameN (bkN tbl tbx) eK 1 l8))])], loops := [], cuts := [] }
noncomputable abbrev qac : Bool := if (sqE tbl (8:Int) == (0:Int)) = true then sqV tbl (8:Int) == (4490000:Int) else false
noncomputable abbrev qj : Bool := if (qac) = true then chkE tbl == (0:Int) else false
noncomputable abbrev qec : Bool := if (qj) = true then sameE (sdN tbl) eD eA eB (4:Nat) l1 l2 l3 else false
noncomputable abbrev q7 : Bool := if (qec) = true then chkE tbl == (0:Int) else false
noncomputable abbrev qgc : Bool := if (q7) = true then sameN (rchN tbl) eR (1:Nat) l8 else false
noncomputable abbrev q8 : Bool := if (qgc) = true then bkE tbl tbx == (0:Int) else false
noncomputable abbrev awake_cd0 : DV := .agg [.lst tbl.1 [fun i => (dI (tbl.2 i)), fun i => (dI (tbl.3 i)), fun i => (dI (tbl.4 i))], .lst tbl.5 [fun i => (dI (tbl.6 i)), fun i => (dI (tbl.7 i)), fun i => (dI (tbl.8 i))]]
theorem awake_c   : FnC prog 4 [] (dB true) := by
  refine FnC_owed hmix (A4_awake_c ) (V := .need [FnC prog 12 [] ((awake_cd0))] (.need [FnC prog 13 [(awake_cd0), (dI (8:Int))] (.tup [(dI (sqV tbl (8:Int))), (dI (sqE tbl (8:Int)))])] (.need [FnC prog 14 [(awake_cd0)] (.tup [.lst (sdN tbl) [fun j => (dI (eD j)), fun j => (dI (eA j)), fun j => (dI (eB j))], (dI (chkE tbl))])] (.need [FnC prog 15 [(awake_cd0)] (.tup [.lst (rchN tbl) [fun j => (dI (eR j))], (dI (chkE tbl))])] (.need [(1:Nat) ≤ 1, FnC prog 16 [(awake_cd0), .lst (1:Nat) [fun i => (dI (900:Int)), fun i => (dI (300:Int)), fun i => (dI (1900:Int)), fun i => (dI (1100:Int)), fun i => (dI (400:Int)), fun i => (dI (2100:Int))]] (.tup [.lst (bkN tbl tbx) [fun j => (dI (eK j))], (dI (bkE tbl tbx))])] (.need [ri ((sqE tbl (8:Int) == 0) = true), ri ((sqE tbl (8:Int) == 0) = true), ri ((qac) = true), ri ((qac) = true), (qj) = true, (qj) = true, (qj) = true, (qj) = true, (qj) = true, ri ((qj) = true), ri ((qj) = true), (qj) = true → (4:Nat) ≤ 4, (qj) = true → FnC prog 17 [.lst (sdN tbl) [fun j => (dI (eD j)), fun j => (dI (eA j)), fun j => (dI (eB j))], .lst (4:Nat) [fun i => (dI (List.getD [(8:Int), (8:Int), (8:Int), (8:Int)] i (0:Int))), fun i => (dI (List.getD [(4:Int), (5:Int), (6:Int), (7:Int)] i (0:Int))), fun i => (dI (List.getD [(5:Int), (6:Int), (7:Int), (4:Int)] i (0:Int)))]] ((dB (sameE (sdN tbl) eD eA eB 4 l1 l2 l3))), ri ((qj) = true), ri ((qec) = true), ri ((qec) = true), (q7) = true, ri ((q7) = true), ri ((q7) = true), (q7) = true → (1:Nat) ≤ 1,
     (q7) = true → FnC prog 18 [.lst (rchN tbl) [fun j => (dI (eR j))], .lst (1:Nat) [fun i => (dI (8:Int))]] ((dB (sameN (rchN tbl) eR 1 l8))), ri ((q7) = true), ri ((qgc) = true), ri ((qgc) = true), (q8) = true, ri ((q8) = true), ri ((q8) = true), (q8) = true → (1:Nat) ≤ 1, (q8) = true → FnC prog 18 [.lst (bkN tbl tbx) [fun j => (dI (eK j))], .lst (1:Nat) [fun i => (dI (8:Int))]] ((dB (sameN (bkN tbl tbx) eK 1 l8))), ri ((q8) = true)] (.done [(if (q8) = true then sameN (bkN tbl tbx) eK 1 l8 else false) = true]))))))) (by kernel_rfl) ?_
  simp only [qac, qj, qec, q7, qgc, q8, VT.holds, AllT, Sq]
  have hE : chkE tbl = 0 := by decide +kernel
  have h1 : sqE tbl 8 = 0 := by decide +kernel
  have h2 : sqV tbl 8 = 4490000 := by decide +kernel
  have h0 : sdN tbl = 4 := by decide +kernel
  have h3 : sameE (sdN tbl) eD eA eB 4 l1 l2 l3 = true := by decide +kernel
  have h5 : bkE tbl tbx = 0 := by decide +kernel
  have h7 : bkN tbl tbx = 1 := by decide +kernel
  have h6 : sameN (bkN tbl tbx) eK 1 l8 = true := by decide +kernel
  have q1 : ∀ e, e ∈ queL tbl tbl.nM → e = 8 := by decide +kernel
  have q2 : (8:Int) ∈ queL tbl tbl.nM := by decide +kernel
  have q3 : ∀ e, e ∈ adjK tbl 8 4 → e = 8 := by decide +kernel
  have hR : ∀ e, Rch tbl e → e = 8 := fun e h => by
    induction h with
    | ground h => exact q1 _ h
    | step _ h2 ih => rw [ih] at h2; exact q3 _ h2
  have hP : rchP tbl = fun i => decide (i = 8) := by
    funext i
    by_cases hi : i = 8
    · rw [hi]; exact @decide_eq_true _ (Classical.propDecidable _) (.ground q2)
    · rw [decide_eq_false hi]
      exact @decide_eq_false _ (Classical.propDecidable _) fun h => hi (by have := hR _ h; omega)
  have h8 : rchN tbl = 1 := by
    rw [rchN, if_pos hE, hP]
    decide +kernel
  have h9 : eR 0 = 8 := by
    unfold eR rchI
    rw [hP]
    decide +kernel
  have h4 : sameN (rchN tbl) eR 1 l8 = true := by
    rw [h8]
    unfold sameN
    rw [decide_eq_true_eq]
    exact ⟨rfl, fun i hi => by rw [show i = 0 by omega, h9]; rfl⟩
  have p1 := And.intro (And.intro h1 h2) hE
  have p2 := And.intro (And.intro p1 h3) hE
  have p3 := And.intro (And.intro p2 h4) h5
  exact ⟨table_c, Square_c tbl 8, Sides_c tbl, Reached_c tbl, ⟨Nat.le_refl _, Blocked_c tbl tbx⟩, ⟨p1, p1, p1, p1, p1, fun _ => Nat.le_refl _, fun _ => edges_c (sdN tbl) eD eA eB 4 l1 l2 l3 (by omega), p2, fun _ => Nat.le_refl _, fun _ => ints_c (rchN tbl) eR 1 l8 (by omega), p3, fun _ => Nat.le_refl _, fun _ => ints_c (bkN tbl tbx) eK 1 l8 (by omega)⟩, p3, h6⟩
end Go.Abs
