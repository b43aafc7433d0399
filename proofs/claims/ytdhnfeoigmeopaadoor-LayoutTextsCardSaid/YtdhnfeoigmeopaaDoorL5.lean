/- Contracts. -/
import Derived.Test.YtdhnfeoigmeopaaDoorL4
set_option maxRecDepth 100000
namespace Go.Abs
open Go
def catN (nB : Nat) (B : Nat → Int) (nO : Nat) (O : Nat → Int) (W G L : Int) : Nat := if sysE nB B nO O W G L = 0 then nB + nO else 0
def catU (nB : Nat) (B : Nat → Int) (nO : Nat) (O : Nat → Int) (W G L : Int) : Nat := if sysE nB B nO O W G L = 0 then unitP nB B nO O (nB + nO) else 0
abbrev catE (nB : Nat) (B : Nat → Int) (nO : Nat) (O : Nat → Int) (W G L : Int) : DV := catD (catU nB B nO O W G L) (catN nB B nO O W G L) (pLen nB B nO O) (pCode nB) (fun i => decide (nB ≤ i))
def measE (nB : Nat) (B : Nat → Int) (nO : Nat) (O : Nat → Int) (W G L : Int) (len : Int) : Int := if sysE nB B nO O W G L = 0 then (if len < 0 then 2 else if len > 4000 * (unitP nB B nO O (nB + nO) : Int) then 8 else 0) else sysE nB B nO O W G L
def rRead : Orc := .res fun l => catS (gB l) (gBf l) (gO l) (gOf l)
def rOpened : Orc := .res fun l => .tup [catE (gB l) (gBf l) (gO l) (gOf l) (gW l) (gG l) (gL l), dI (sysE (gB l) (gBf l) (gO l) (gOf l) (gW l) (gG l) (gL l))]
def rMeas : Orc := .res fun l => .tup [catE (gB l) (gBf l) (gO l) (gOf l) (gW l) (gG l) (gL l), dI (measE (gB l) (gBf l) (gO l) (gOf l) (gW l) (gG l) (gL l) (aI l 1))]
def plX (u : Nat) (X C : Nat → Int) (i : Nat) : List (Nat × Int) := (List.range i).map fun i => (unitsOf u (X i), C i)
noncomputable def A35_opened_c (nB : Nat) (B : Nat → Int) (nO : Nat) (O : Nat → Int) (W G L : Int) : Ann := { orc := [(1, [(1, rSys)]), (4, [(1, rRead)])], loops := [], cuts := [] }
theorem opened_c (nB : Nat) (B : Nat → Int) (nO : Nat) (O : Nat → Int) (W G L : Int)  : FnC prog 35 [sys nB B nO O W G L] (.tup [catE nB B nO O W G L, dI (sysE nB B nO O W G L)]) := by
  refine FnC_owed hmix (A35_opened_c nB B nO O W G L) (V := .need [FnC prog 27 [.agg [.lst nB [fun i => (dI (B i))], .lst nO [fun i => (dI (O i))], (dI W), (dI G), (dI L)]] ((dI (sysE nB B nO O W G L)))] (.ite (sysE nB B nO O W G L != 0) (.done [(0:Int) = (↑(catU nB B nO O W G L) : Int), catN nB B nO O W G L = 0, sysE nB B nO O W G L = sysE nB B nO O W G L]) (.need [FnC prog 52 [.agg [.lst nB [fun i => (dI (B i))], .lst nO [fun i => (dI (O i))], (dI W), (dI G), (dI L)]] (.agg [(dI (↑(unitP nB B nO O (nB + nO)) : Int)), .lst (nB + nO) [fun i => (dI (pLen nB B nO O i)), fun i => (dI (pCode nB i)), fun i => (dB (decide (nB ≤ i)))]])] (.done [(↑(unitP nB B nO O (nB + nO)) : Int) = (↑(catU nB B nO O W G L) : Int), nB + nO = catN nB B nO O W G L, ∀ i < catN nB B nO O W G L, pLen nB B nO O i = pLen nB B nO O i, ∀ i < catN nB B nO O W G L, pCode nB i = pCode nB i, ∀ i < catN nB B nO O W G L, decide (nB ≤ i) = decide (nB ≤ i), (0:Int) = sysE nB B nO O W G L])))) (by kernel_rfl) ?_
  simp only [VT.holds, AllT, Sq]
  refine ⟨system_c nB B nO O W G L, fun h => by rw [catU, catN, if_neg h, if_neg h]; exact ⟨rfl, rfl⟩, fun h => ?_⟩
  obtain ⟨s1, s2, s3, sB, sO, _, _⟩ := sys_ok h
  rw [catU, catN, if_pos h, if_pos h]
  exact ⟨read_c nB B nO O W G L s1 s2 s3 sB sO, rfl, rfl, h.symm⟩
noncomputable def A20_measured_c (nB : Nat) (B : Nat → Int) (nO : Nat) (O : Nat → Int) (W G L : Int) (len : Int) : Ann := { orc := [(1, [(1, rOpened)])], loops := [], cuts := [] }
noncomputable abbrev measured_cr0 (nB : Nat) (B : Nat → Int) (nO : Nat) (O : Nat → Int) (W : Int) (G : Int) (L : Int) (r : List Prop) : List Prop := ((↑(catU nB B nO O W G L) : Int) = (↑(catU nB B nO O W G L) : Int)) :: (catN nB B nO O W G L = catN nB B nO O W G L) :: (∀ (i : Nat), i < catN nB B nO O W G L → pLen nB B nO O i = pLen nB B nO O i) :: (∀ (i : Nat), i < catN nB B nO O W G L → pCode nB i = pCode nB i) :: (∀ (i : Nat), i < catN nB B nO O W G L → decide (nB ≤ i) = decide (nB ≤ i)) :: r
theorem measured_c (nB : Nat) (B : Nat → Int) (nO : Nat) (O : Nat → Int) (W G L : Int) (len : Int)  : FnC prog 20 [sys nB B nO O W G L, dI len] (.tup [catE nB B nO O W G L, dI (measE nB B nO O W G L len)]) := by
  refine FnC_owed hmix (A20_measured_c nB B nO O W G L len) (V := .need [FnC prog 35 [.agg [.lst nB [fun i => (dI (B i))], .lst nO [fun i => (dI (O i))], (dI W), (dI G), (dI L)]] (.tup [.agg [(dI (↑(catU nB B nO O W G L) : Int)), .lst (catN nB B nO O W G L) [fun i => (dI (pLen nB B nO O i)), fun i => (dI (pCode nB i)), fun i => (dB (decide (nB ≤ i)))]], (dI (sysE nB B nO O W G L))])] (.ite (sysE nB B nO O W G L != 0) (.done (measured_cr0 nB B nO O W G L [sysE nB B nO O W G L = measE nB B nO O W G L len])) (.ite (decide (len < 0)) (.done (measured_cr0 nB B nO O W G L [(2:Int) = measE nB B nO O W G L len])) (.need [i64In ((4000:Int) * (↑(catU nB B nO O W G L) : Int))] (.ite (decide (len > 4000 * (↑(catU nB B nO O W G L) : Int))) (.done (measured_cr0 nB B nO O W G L [(8:Int) = measE nB B nO O W G L len])) (.done (measured_cr0 nB B nO O W G L [(0:Int) = measE nB B nO O W G L len]))))))) (by kernel_rfl) ?_
  simp only [VT.holds, AllT, measured_cr0, Sq]
  refine ⟨opened_c nB B nO O W G L, fun h => by rw [measE, if_neg h], fun h => ⟨fun h1 => by rw [measE, if_pos h, if_pos h1], fun h1 => ?_⟩⟩
  obtain ⟨s1, s2, s3, sB, sO, _, _⟩ := sys_ok h
  have hu := unitP_bd s1 sB sO
  rw [catU, if_pos h, measE, if_pos h, if_neg h1]
  exact ⟨by unfold i64In; omega, fun h2 => by rw [if_pos h2], fun h2 => by rw [if_neg h2]⟩
noncomputable def A21_table_c (u n : Nat) (X C : Nat → Int) (b : Nat → Bool) (N : Int) : Ann := { orc := [(9, [(4, .pos)])], loops := [(0, { ι := Nat, keep := [1, 2], boxes := [2], ts := fun _ k => [(6, dI (k : Int))], rw := fun _ k => [(5, 1, (N + 1).toNat, [fun q => .val (.int .i64 (if q < k then tabL (plX u X C n) q else 0))])], inv := fun _ k => 1 ≤ k ∧ (k : Int) ≤ N + 1, mu := fun _ k => (N + 1 - (k : Int)).toNat, rd := fun _ σ => (iOf (σ.get 6)).toNat }), (2, { ι := Nat, keep := [1, 2, 6, 23, 24], boxes := [2], ts := fun _ i => [(25, dI (i : Int))], rw := fun σ i => [(5, 1, (N + 1).toNat, [fun q => .val (.int .i64 (if q < (iOf (σ.get 6)).toNat then tabL (plX u X C n) q else if q = (iOf (σ.get 6)).toNat then bestL (plX u X C i) (tabL (plX u X C n)) (iOf (σ.get 6)).toNat else 0))])], inv := fun _ i => i ≤ n, mu := fun _ i => n - i, rd := fun _ σ => (iOf (σ.get 25)).toNat })], cuts := [] }
noncomputable abbrev qd (X : Nat → Int) (i_1 : Nat) (u : Nat) (i : Nat) : Bool := decide (X (Int.toNat (i_1:Int)) / (u:Int) > (i:Int))
noncomputable abbrev qe (i : Nat) (u : Nat) (X : Nat → Int) (C : Nat → Int) (n : Nat) (i_1 : Nat) : Bool := decide ((if addN (0:Nat) (Int.toNat (i:Int)) < Int.toNat (i:Int) then tabL (plX u X C n) (addN (0:Nat) (Int.toNat (i:Int))) else if addN (0:Nat) (Int.toNat (i:Int)) = Int.toNat (i:Int) then bestL (plX u X C i_1) (tabL (plX u X C n)) (Int.toNat (i:Int)) else (0:Int)) < (0:Int))
noncomputable abbrev table_cr0 (n : Nat) (X : Nat → Int) (C : Nat → Int) (b : Nat → Bool) (N : Int) (i : Nat) (r : List Prop) : List Prop := ((0:Nat) = (0:Nat)) :: (Int.toNat (N + (1:Int)) = Int.toNat (N + (1:Int))) :: (N = N) :: ((i:Int) = (i:Int)) :: (n = n) :: (∀ (i : Nat), i < n → X i = X i) :: (∀ (i : Nat), i < n → C i = C i) :: (∀ (i : Nat), i < n → b i = b i) :: ((n:Int) = (n:Int)) :: (Int.toNat (N + (1:Int)) = Int.toNat (N + (1:Int))) :: r
noncomputable abbrev table_cr1 (u : Nat) (n : Nat) (X : Nat → Int) (C : Nat → Int) (b : Nat → Bool) (r : List Prop) : List Prop := ((u:Int) = (u:Int)) :: (n = n) :: (∀ (i : Nat), i < n → X i = X i) :: (∀ (i : Nat), i < n → C i = C i) :: (∀ (i : Nat), i < n → b i = b i) :: r
theorem table_c (u n : Nat) (X C : Nat → Int) (b : Nat → Bool) (N : Int) (hu : 1 ≤ u) (hn : n ≤ 16) (hX : ∀ i, i < n → 1 ≤ X i ∧ X i ≤ 10000) (hm : ∀ i, i < n → 1 ≤ unitsOf u (X i)) (hC : ∀ i, i < n → 0 ≤ C i ∧ C i ≤ 10001) (hN : 0 ≤ N) (hN2 : N ≤ 4000) : FnC prog 21 [catD u n X C b, dI N] (.lst (N + 1).toNat [fun k => .val (.int .i64 (tabL (plX u X C n) k))]) := by
  refine FnC_owed hmix (A21_table_c u n X C b N) (V := .need [i64In (N + 1), (0:Int) ≤ N + 1 ∧ N + 1 = N + 1 ∧ N + 1 ≤ 140737488355328 ∧ prog.types[(3:Nat)].4 * Int.toNat (N + 1) ≤ 281474976710656] (.loop Nat (fun a => (1:Nat) ≤ a ∧ (a:Int) ≤ N + 1) (1:Int).toNat (((1:Int) = (↑(1:Int).toNat : Int)) :: (((0:Nat) = 0) :: ((Int.toNat (N + 1) = (N + 1).toNat) :: ((N = N) :: ((Int.toNat (N + 1) = (N + 1).toNat) :: ((∀ i < (N + 1).toNat, (0:Int) = if i < (1:Int).toNat then tabL (plX u X C n) i else (0:Int)) :: (table_cr1 u n X C b []))))))) fun i => .ite (decide ((i:Int) ≤ N)) (.need [(0:Int) ≤ (i:Int) ∧ (i:Int) < (↑(N + 1).toNat : Int), addN 0 (i:Int).toNat < (N + 1).toNat] (.loop Nat (fun a => a ≤ n) (0:Int).toNat (((0:Int) = (↑(0:Int).toNat : Int)) :: (table_cr0 n X C b N i ((∀ i_1 < (N + 1).toNat, (if decide (i_1 = addN 0 (i:Int).toNat) = true then (-1:Int) else if i_1 < i then tabL (plX u X C n) i_1 else (0:Int)) = if i_1 < (i:Int).toNat then tabL (plX u X C n) i_1 else if i_1 = (i:Int).toNat then bestL (plX u X C (0:Int).toNat) (tabL (plX u X C n)) (i:Int).toNat else (0:Int)) :: (table_cr1 u n X C b [])))) fun i_1 => .ite (decide ((i_1:Int) < (n:Int))) (.need [(0:Int) ≤ (i_1:Int) ∧ (i_1:Int) < (n:Int)] (.need [(0:Int) ≤ X (i_1:Int).toNat ∧ (0:Int) < (u:Int) ∧ X (i_1:Int).toNat ≤ 9223372036854775807] (.need [ri ((!(qd X i_1 u i)) = true), ri ((!(qd X i_1 u i)) = true), (!(qd X i_1 u i)) = true → i64In ((i:Int) - X (i_1:Int).toNat / (u:Int)), ri ((!(qd X i_1 u i)) = true), ri ((!(qd X i_1 u i)) = true), (!(qd X i_1 u i)) = true → (0:Int) ≤ (i:Int) - X (i_1:Int).toNat / (u:Int) ∧ (i:Int) - X (i_1:Int).toNat / (u:Int) < (↑(N + 1).toNat : Int), ri ((!(qd X i_1 u i)) = true), (!(qd X i_1 u i)) = true → addN 0 ((i:Int) - X (i_1:Int).toNat / (u:Int)).toNat < (N + 1).toNat, ri ((!(qd X i_1 u i)) = true), (qd X i_1 u i) = false → (!(qd X i_1 u i)) = true] (.ite (if (qd X i_1 u i) = true then true else decide ((if addN 0 ((i:Int) - X (i_1:Int).toNat / (u:Int)).toNat < (i:Int).toNat then tabL (plX u X C n) (addN 0 ((i:Int) - X (i_1:Int).toNat / (u:Int)).toNat) else if addN 0 ((i:Int) - X (i_1:Int).toNat / (u:Int)).toNat = (i:Int).toNat then bestL (plX u X C i_1) (tabL (plX u X C n)) (i:Int).toNat else (0:Int)) < 0)) (.need [i64In ((i_1:Int) + 1)] (.done (((i_1:Int) + 1 = (↑((i_1:Int) + 1).toNat : Int)) :: (table_cr0 n X C b N i ((∀ i_2 < (N + 1).toNat, (if i_2 < (i:Int).toNat then tabL (plX u X C n) i_2 else if i_2 = (i:Int).toNat then bestL (plX u X C i_1) (tabL (plX u X C n)) (i:Int).toNat else (0:Int)) = if i_2 < (i:Int).toNat then tabL (plX u X C n) i_2 else if i_2 = (i:Int).toNat then bestL (plX u X C ((i_1:Int) + 1).toNat) (tabL (plX u X C n)) (i:Int).toNat else (0:Int)) :: (table_cr1 u n X C b [Int.toNat ((i_1:Int) + 1) ≤ n, n - ((i_1:Int) + 1).toNat < n - i_1])))))) (.need [i64In ((i:Int) - X (i_1:Int).toNat / (u:Int)), (0:Int) ≤ (i:Int) - X (i_1:Int).toNat / (u:Int) ∧ (i:Int) - X (i_1:Int).toNat /
     (u:Int) < (↑(N + 1).toNat : Int), addN 0 ((i:Int) - X (i_1:Int).toNat / (u:Int)).toNat < (N + 1).toNat, i64In ((if addN 0 ((i:Int) - X (i_1:Int).toNat / (u:Int)).toNat < (i:Int).toNat then tabL (plX u X C n) (addN 0 ((i:Int) - X (i_1:Int).toNat / (u:Int)).toNat) else if addN 0 ((i:Int) - X (i_1:Int).toNat / (u:Int)).toNat = (i:Int).toNat then bestL (plX u X C i_1) (tabL (plX u X C n)) (i:Int).toNat else (0:Int)) + C (i_1:Int).toNat)] (.need [(0:Int) ≤ (i:Int) ∧ (i:Int) < (↑(N + 1).toNat : Int), addN 0 (i:Int).toNat < (N + 1).toNat, ri ((!(qe i u X C n i_1)) = true), ri ((!(qe i u X C n i_1)) = true), (!(qe i u X C n i_1)) = true → (0:Int) ≤ (i:Int) ∧ (i:Int) < (↑(N + 1).toNat : Int), ri ((!(qe i u X C n i_1)) = true), (!(qe i u X C n i_1)) = true → addN 0 (i:Int).toNat < (N + 1).toNat, ri ((!(qe i u X C n i_1)) = true), ri ((!(qe i u X C n i_1)) = true), (qe i u X C n i_1) = false → (!(qe i u X C n i_1)) = true] (.ite (if (qe i u X C n i_1) = true then true else decide ((if addN 0 ((i:Int) - X (i_1:Int).toNat / (u:Int)).toNat < (i:Int).toNat then tabL (plX u X C n) (addN 0 ((i:Int) - X (i_1:Int).toNat / (u:Int)).toNat) else if addN 0 ((i:Int) - X (i_1:Int).toNat / (u:Int)).toNat = (i:Int).toNat then bestL (plX u X C i_1) (tabL (plX u X C n)) (i:Int).toNat else (0:Int)) + C (i_1:Int).toNat < if addN 0
     (i:Int).toNat < (i:Int).toNat then tabL (plX u X C n) (addN 0 (i:Int).toNat) else if addN 0 (i:Int).toNat = (i:Int).toNat then bestL (plX u X C i_1) (tabL (plX u X C n)) (i:Int).toNat else (0:Int))) (.need [(0:Int) ≤ (i:Int) ∧ (i:Int) < (↑(N + 1).toNat : Int), addN 0 (i:Int).toNat < (N + 1).toNat] (.need [i64In ((i_1:Int) + 1)] (.done (((i_1:Int) + 1 = (↑((i_1:Int) + 1).toNat : Int)) :: (table_cr0 n X C b N i ((∀ i_2 < (N + 1).toNat, (if decide (i_2 = addN 0 (i:Int).toNat) = true then (if addN 0 ((i:Int) - X (i_1:Int).toNat / (u:Int)).toNat < (i:Int).toNat then tabL (plX u X C n) (addN 0 ((i:Int) - X (i_1:Int).toNat / (u:Int)).toNat) else if addN 0 ((i:Int) - X (i_1:Int).toNat / (u:Int)).toNat = (i:Int).toNat then bestL (plX u X C i_1) (tabL (plX u X C n)) (i:Int).toNat else (0:Int)) + C (i_1:Int).toNat else if i_2 < (i:Int).toNat then tabL (plX u X C n) i_2 else if i_2 = (i:Int).toNat then bestL (plX u X C i_1) (tabL (plX u X C n)) (i:Int).toNat else (0:Int)) = if i_2 < (i:Int).toNat then tabL (plX u X C n) i_2 else if i_2 = (i:Int).toNat then bestL (plX u X C ((i_1:Int) + 1).toNat) (tabL (plX u X C n)) (i:Int).toNat else (0:Int)) :: (table_cr1 u n X C b [Int.toNat ((i_1:Int) + 1) ≤ n, n - ((i_1:Int) + 1).toNat < n - i_1]))))))) (.need [i64In ((i_1:Int) + 1)] (.done (((i_1:Int) + 1 = (↑((i_1:Int) + 1).toNat : Int)) :: (table_cr0 n X C b N i ((∀ i_2 < (N + 1).toNat, (if i_2 < (i:Int).toNat then tabL (plX u X C n) i_2 else if i_2 = (i:Int).toNat then bestL (plX u X C i_1) (tabL
     (plX u X C n)) (i:Int).toNat else (0:Int)) = if i_2 < (i:Int).toNat then tabL (plX u X C n) i_2 else if i_2 = (i:Int).toNat then bestL (plX u X C ((i_1:Int) + 1).toNat) (tabL (plX u X C n)) (i:Int).toNat else (0:Int)) :: (table_cr1 u n X C b [Int.toNat ((i_1:Int) + 1) ≤ n, n - ((i_1:Int) + 1).toNat < n - i_1]))))))))))))) (.need [i64In ((i:Int) + 1)] (.done (((i:Int) + 1 = (↑((i:Int) + 1).toNat : Int)) :: (((0:Nat) = 0) :: ((Int.toNat (N + 1) = (N + 1).toNat) :: ((N = N) :: ((Int.toNat (N + 1) = (N + 1).toNat) :: ((∀ i_2 < (N + 1).toNat, (if i_2 < (i:Int).toNat then tabL (plX u X C n) i_2 else if i_2 = (i:Int).toNat then bestL (plX u X C i_1) (tabL (plX u X C n)) (i:Int).toNat else (0:Int)) = if i_2 < ((i:Int) + 1).toNat then tabL (plX u X C n) i_2 else (0:Int)) :: (table_cr1 u n X C b [(1:Nat) ≤ ((i:Int) + 1).toNat ∧ (↑((i:Int) + 1).toNat : Int) ≤ N + 1, Int.toNat (N + 1 - (↑((i:Int) + 1).toNat : Int)) < (N + 1 - (i:Int)).toNat]))))))))))) (.done [Int.toNat (N + 1) ≤ (N + 1).toNat, Int.toNat (N + 1) = (N + 1).toNat, ∀ i_1 < (N + 1).toNat, (if i_1 < i then tabL (plX u X C n) i_1 else (0:Int)) = tabL (plX u X C n) i_1]))) (by kernel_rfl) ?_
  simp only [qd, qe, VT.holds, AllT, Sq]
  have hbd : ∀ p ∈ plX u X C n, 0 ≤ p.2 ∧ p.2 ≤ 10001 := fun p hp => by
    obtain ⟨i, hi, rfl⟩ := List.mem_map.1 hp
    exact hC i (List.mem_range.1 hi)
  have hT := tabL_bd hbd
  have hT0 := tabL_zero (plX u X C n)
  have hTe := fun {k} => tabL_eq (plX u X C n) (k := k)
  generalize hTT : tabL (plX u X C n) = T at *
  have hby : prog.types[3].bytes = 8 := by kernel_rfl
  rw [hby]
  refine ⟨⟨by unfold i64In; omega, by omega, by omega, by omega⟩, ⟨rfl, fun i hi => ?_⟩, ⟨by omega, by omega⟩, fun k ⟨k1, k2⟩ => ⟨fun hk => ⟨⟨⟨by omega, by omega⟩, by rw [addN_zero]; omega⟩, ⟨rfl, fun q hq => ?_⟩, Nat.zero_le _, fun i hi => ⟨fun hlt => ?_, fun hge => ?_⟩⟩, fun hk => ⟨Nat.le_refl _, fun q hq => by rw [if_pos (by omega)]⟩⟩⟩
  · by_cases e : i < Int.toNat 1
    · rw [if_pos e, show i = 0 by omega, hT0]
    · rw [if_neg e]
  · rw [addN_zero]
    by_cases e : q = k
    · rw [if_pos e, if_neg (by omega), if_pos e]; rfl
    · rw [if_neg e, if_neg e]
  · have hi' : i < n := by omega
    have hx := hX i hi'
    have e : X i / (u : Int) = (unitsOf u (X i) : Int) := by
      unfold unitsOf
      have := Int.ediv_nonneg (a := X i) (b := (u : Int)) (by omega) (by omega)
      omega
    have m1 := hm i hi'
    have hc := hC i hi'
    have hs : bestL (plX u X C (i + 1)) T k = minP (bestL (plX u X C i) T k) (candL T k (unitsOf u (X i), C i)) := by
      rw [plX, range_snoc, bestL_snoc]; rfl
    simp only [e, Int.toNat_sub, addN_zero, hs]
    generalize unitsOf u (X i) = m at *
    have lt : k - m < k := by omega
    simp only [if_pos lt, Nat.lt_irrefl, if_false, if_true]
    have t1 := hT (k - m)
    generalize bestL (plX u X C i) T k = b at *
    refine ⟨⟨by omega, by omega⟩, ⟨by omega, by omega, by omega⟩, ⟨fun _ => by unfold i64In; omega, fun _ => by omega, fun _ => by omega⟩, fun h => ?_, fun ⟨h, h'⟩ => ?_⟩
    · have hcd : candL T k (m, C i) = -1 := by
        unfold candL
        rw [if_neg]
        intro ⟨_, h2, h3⟩
        dsimp only at h2 h3
        omega
      rw [hcd]
      exact ⟨by unfold i64In; omega, rfl, fun q hq => rfl, by omega, by omega⟩
    · have hcd : candL T k (m, C i) = T (k - m) + C i := by
        unfold candL
        rw [if_pos (show 1 ≤ m ∧ m ≤ k ∧ 0 ≤ T (k - m) from ⟨m1, by omega, by omega⟩)]
      rw [hcd]
      refine ⟨⟨by unfold i64In; omega, ⟨by omega, by omega⟩, by omega, by unfold i64In; omega⟩, ⟨⟨by omega, by omega⟩, by omega, fun _ => by omega, fun _ => by omega⟩, fun h2 => ⟨⟨⟨by omega, by omega⟩, by omega⟩, by unfold i64In; omega, rfl, fun q hq => ?_, by omega, by omega⟩, fun h2 => ⟨by unfold i64In; omega, rfl, fun q hq => ?_, by omega, by omega⟩⟩
      · by_cases e2 : q = k
        · rw [if_pos e2, if_neg (by omega), if_pos e2, minP, if_neg (by omega), if_pos h2]
        · rw [if_neg e2, if_neg e2, if_neg e2]
      · by_cases e2 : q = k
        · rw [if_neg (by omega), if_pos e2, if_neg (by omega), if_pos e2, minP, if_neg (by omega), if_neg (by omega)]
        · rw [if_neg e2, if_neg e2]
  · rw [show i = n by omega]
    refine ⟨by unfold i64In; omega, rfl, fun q hq => ?_, ⟨by omega, by omega⟩, by omega⟩
    by_cases e : q < k
    · rw [if_pos e, if_pos (by omega)]
    · by_cases e2 : q = k
      · rw [if_neg e, if_pos e2, if_pos (by omega), e2, hTe (by omega)]
      · rw [if_neg e, if_neg e2, if_neg (by omega)]
end Go.Abs
