/- Contracts. -/
import Derived.Test.YtdhnfeoigmeopaaDoorB6
set_option maxRecDepth 100000
namespace Go.Abs
open Go
def spB (w : ByteArray) (A : Nat → Int) (k : Nat) : ByteArray := ⟨(w.data.toList ++ numL A k).toArray⟩
theorem spB_0 (w : ByteArray) (A : Nat → Int) : spB w A 0 = w := by
  apply ByteArray.ext
  apply Array.toList_inj.1
  simp [spB, numL]
theorem spB_step (w : ByteArray) (A : Nat → Int) (k : Nat) : spB w A k ++ ⟨#[32]⟩ ++ decB (A k) = spB w A (k + 1) := by
  apply ByteArray.ext
  apply Array.toList_inj.1
  simp [spB, numL, ByteArray.data_append]
theorem spB_end (w : ByteArray) (A : Nat → Int) (n : Nat) : spB w A n ++ ⟨#[10]⟩ = lnS w n A := by
  apply ByteArray.ext
  apply Array.toList_inj.1
  simp [spB, lnS, ByteArray.data_append]
theorem spB_size (w : ByteArray) (A : Nat → Int) (k : Nat) : (spB w A k).size = w.size + (numL A k).length := by
  rw [Lib.size_eq, Lib.size_eq, spB, List.length_append]
noncomputable def A34_lineR_c (w : ByteArray) (n : Nat) (A : Nat → Int) : Ann := { orc := [(4, [(6, .res fun q => dS (decB (aI q 0)))])], loops := [(0, { ι := Nat, keep := [1], boxes := [], ts := fun _ i => [(5, dI (i : Int)), (0, dS (spB w A i))], inv := fun _ i => i ≤ n, mu := fun _ i => n - i, rd := fun _ σ => (iOf (σ.get 5)).toNat })], cuts := [] }
theorem lineR_c (w : ByteArray) (n : Nat) (A : Nat → Int) (hn : n ≤ 10) (hw : w.size ≤ 10) (hA : ∀ k, k < n → 0 ≤ A k ∧ A k ≤ 10000) : FnC prog 34 [dS w, nums n A] (dS (lnS w n A)) := by
  refine FnC_owed hmix (A34_lineR_c w n A) (V := .loop Nat (fun a => a ≤ n) (0:Int).toNat [(0:Int) = (↑(0:Int).toNat : Int), w = spB w A (0:Int).toNat, n = n, ∀ i < n, A i = A i] fun i => .ite (decide ((i:Int) < (n:Int))) (.need [ByteArray.size (spB w A i) + ByteArray.size (ByteArray.mk #[(32 : UInt8)]) ≤ 9223372036854775807, (0:Int) ≤ (i:Int) ∧ (i:Int) < (n:Int), FnC prog 30 [(dI (A (i:Int).toNat))] (.val (.string (decB (A (i:Int).toNat)))), ByteArray.size (spB w A i ++ ByteArray.mk #[(32 : UInt8)]) + ByteArray.size (decB (A (i:Int).toNat)) ≤ 9223372036854775807] (.need [i64In ((i:Int) + 1)] (.done [(i:Int) + 1 = (↑((i:Int) + 1).toNat : Int), spB w A i ++ ByteArray.mk #[(32 : UInt8)] ++ decB (A (i:Int).toNat) = spB w A ((i:Int) + 1).toNat, n = n, ∀ i < n, A i = A i, Int.toNat ((i:Int) + 1) ≤ n, n - ((i:Int) + 1).toNat < n - i]))) (.need [ByteArray.size (spB w A i) + ByteArray.size (ByteArray.mk #[(10 : UInt8)]) ≤ 9223372036854775807] (.done [spB w A i ++ ByteArray.mk #[(10 : UInt8)] = lnS w n A]))) (by kernel_rfl) ?_
  simp only [VT.holds, AllT, Sq]
  have z1 : (⟨#[32]⟩ : ByteArray).size = 1 := rfl
  have z2 : (⟨#[10]⟩ : ByteArray).size = 1 := rfl
  refine ⟨⟨rfl, (spB_0 w A).symm⟩, Nat.zero_le _, fun i hi => ⟨fun hlt => ?_, fun hge => ?_⟩⟩
  · have hs := spB_size w A i
    have hl := numL_len2 A n hA i hi
    have ha := hA i (by omega)
    have hd := decB_size (A i)
    exact ⟨⟨by rw [z1]; omega, ⟨by omega, by omega⟩, decimal_c _ (by omega), by rw [ByteArray.size_append, z1]; omega⟩, by unfold i64In; omega, by omega, spB_step w A i, by omega, by omega⟩
  · obtain rfl : i = n := by omega
    have hs := spB_size w A i
    have hl := numL_len2 A i hA i hi
    exact ⟨by rw [z2]; omega, spB_end w A i⟩
noncomputable def A19_printSR_c (nB : Nat) (B : Nat → Int) (nO : Nat) (O : Nat → Int) (W G L : Int) : Ann := { orc := [(1, [(2, .res fun _ => dS (lnS bayW nB B)), (5, .res fun _ => dS (lnS brdW nO O)), (10, .res fun _ => dS (lnS widW 1 fun _ => W)), (15, .res fun _ => dS (lnS gapW 1 fun _ => G)), (20, .res fun _ => dS (lnS lifW 1 fun _ => L))])], loops := [], cuts := [] }
theorem printSR_c (nB : Nat) (B : Nat → Int) (nO : Nat) (O : Nat → Int) (W G L : Int) (h : sysE nB B nO O W G L = 0) : FnC prog 19 [sys nB B nO O W G L] (dS (prS nB B nO O W G L)) := by
  refine FnC_owed hmix (A19_printSR_c nB B nO O W G L) (V := .need [FnC prog 34 [.val (.string (ByteArray.mk #[(98 : UInt8), (97 : UInt8), (121 : UInt8), (115 : UInt8)])), .lst nB [fun i => (dI (B i))]] (.val (.string (lnS bayW nB B))), FnC prog 34 [.val (.string (ByteArray.mk #[(98 : UInt8), (111 : UInt8), (97 : UInt8), (114 : UInt8), (100 : UInt8), (115 : UInt8)])), .lst nO [fun i => (dI (O i))]] (.val (.string (lnS brdW nO O))), ByteArray.size (lnS bayW nB B) + ByteArray.size (lnS brdW nO O) ≤ 9223372036854775807, (1:Nat) ≤ 1, FnC prog 34 [.val (.string (ByteArray.mk #[(119 : UInt8), (105 : UInt8), (100 : UInt8), (116 : UInt8), (104 : UInt8)])), .lst (1:Nat) [fun i => (dI W)]] (.val (.string (lnS widW 1 fun x => W))), ByteArray.size (lnS bayW nB B ++ lnS brdW nO O) + ByteArray.size (lnS widW 1 fun x => W) ≤ 9223372036854775807, (1:Nat) ≤ 1, FnC prog 34 [.val (.string (ByteArray.mk #[(103 : UInt8), (97 : UInt8), (112 : UInt8)])), .lst (1:Nat) [fun i => (dI G)]] (.val (.string (lnS gapW 1 fun x => G))), ByteArray.size (lnS bayW nB B ++ lnS brdW nO O ++ lnS widW 1 fun x => W) + ByteArray.size (lnS gapW 1 fun x => G) ≤ 9223372036854775807, (1:Nat) ≤ 1, FnC prog 34 [.val (.string (ByteArray.mk #[(108 : UInt8), (105 : UInt8), (102 : UInt8), (116 : UInt8)])), .lst (1:Nat) [fun i => (dI L)]] (.val (.string (lnS lifW 1 fun x => L))), ByteArray.size ((lnS bayW nB B ++ lnS brdW nO O ++ lnS widW 1 fun x => W) ++ lnS gapW 1 fun x => G) + ByteArray.size (lnS lifW 1 fun x => L) ≤ 9223372036854775807] (.done [(((lnS bayW nB B ++ lnS brdW nO O ++ lnS widW 1 fun x => W) ++ lnS gapW 1 fun x => G) ++ lnS lifW 1 fun x => L) = prS nB B nO O W G L])) (by kernel_rfl) ?_
  simp only [VT.holds, AllT, Sq]
  have ok := sys_facts h
  have n2 := ok.n2
  have n3 := ok.n3
  have hW := ok.W
  have hG := ok.G
  have hL := ok.L
  have sz : ∀ {w : ByteArray} {n : Nat} {A : Nat → Int}, n ≤ 10 → w.size ≤ 10 → (∀ k, k < n → 0 ≤ A k ∧ A k ≤ 10000) → (lnS w n A).size ≤ 1000000 := fun {w n A} h1 h2 h3 => by
    have := numL_len2 A n h3 n (Nat.le_refl _)
    rw [Lib.size_eq, lnS, List.length_append, List.length_append, ← Lib.size_eq, List.length_singleton]
    omega
  have a1 := fun k hk => (⟨by have := ok.B k hk; omega, by have := ok.B k hk; omega⟩ : 0 ≤ B k ∧ B k ≤ 10000)
  have a2 := fun k hk => (⟨by have := ok.O k hk; omega, by have := ok.O k hk; omega⟩ : 0 ≤ O k ∧ O k ≤ 10000)
  have a3 : ∀ k, k < 1 → 0 ≤ (fun _ : Nat => W) k ∧ (fun _ : Nat => W) k ≤ 10000 := fun _ _ => ⟨by show 0 ≤ W; omega, by show W ≤ 10000; omega⟩
  have a4 : ∀ k, k < 1 → 0 ≤ (fun _ : Nat => G) k ∧ (fun _ : Nat => G) k ≤ 10000 := fun _ _ => ⟨by show 0 ≤ G; omega, by show G ≤ 10000; omega⟩
  have a5 : ∀ k, k < 1 → 0 ≤ (fun _ : Nat => L) k ∧ (fun _ : Nat => L) k ≤ 10000 := fun _ _ => ⟨by show 0 ≤ L; omega, by show L ≤ 10000; omega⟩
  have s1 := sz (w := bayW) (by omega) (by decide) a1
  have s2 := sz (w := brdW) (by omega) (by decide) a2
  have s3 := sz (w := widW) (by omega) (by decide) a3
  have s4 := sz (w := gapW) (by omega) (by decide) a4
  have s5 := sz (w := lifW) (by omega) (by decide) a5
  simp only [ByteArray.size_append]
  exact ⟨⟨lineR_c bayW nB B (by omega) (by decide) a1, lineR_c brdW nO O (by omega) (by decide) a2, by omega, Nat.le_refl _, lineR_c widW 1 _ (by omega) (by decide) a3, by omega, Nat.le_refl _, lineR_c gapW 1 _ (by omega) (by decide) a4, by omega, Nat.le_refl _, lineR_c lifW 1 _ (by omega) (by decide) a5, by omega⟩, rfl⟩
noncomputable def A7_same_c (nB : Nat) (B : Nat → Int) (nO : Nat) (O : Nat → Int) (W G L : Int) (nB' : Nat) (B' : Nat → Int) (nO' : Nat) (O' : Nat → Int) (W' G' L' : Int) : Ann := { orc := [(1, [(4, .res fun _ => dB (sameN nB B nB' B')), (10, .res fun _ => dB (sameN nO O nO' O'))])], loops := [], cuts := [] }
noncomputable abbrev qm (nB : Nat) (B : Nat → Int) (nB' : Nat) (B' : Nat → Int) (nO : Nat) (O : Nat → Int) (nO' : Nat) (O' : Nat → Int) : Bool := if sameN nB B nB' B' = true then sameN nO O nO' O' else false
noncomputable abbrev qk (nB : Nat) (B : Nat → Int) (nB' : Nat) (B' : Nat → Int) (nO : Nat) (O : Nat → Int) (nO' : Nat) (O' : Nat → Int) (W : Int) (W' : Int) : Bool := if (qm nB B nB' B' nO O nO' O') = true then W == W' else false
noncomputable abbrev qh (nB : Nat) (B : Nat → Int) (nB' : Nat) (B' : Nat → Int) (nO : Nat) (O : Nat → Int) (nO' : Nat) (O' : Nat → Int) (W : Int) (W' : Int) (G : Int) (G' : Int) : Bool := if (qk nB B nB' B' nO O nO' O' W W') = true then G == G' else false
theorem same_c (nB : Nat) (B : Nat → Int) (nO : Nat) (O : Nat → Int) (W G L : Int) (nB' : Nat) (B' : Nat → Int) (nO' : Nat) (O' : Nat → Int) (W' G' L' : Int) (h1 : nB ≤ 1000000000) (h2 : nO ≤ 1000000000) : FnC prog 7 [sys nB B nO O W G L, sys nB' B' nO' O' W' G' L'] (dB (sameN nB B nB' B' && sameN nO O nO' O' && decide (W = W') && decide (G = G') && decide (L = L'))) := by
  refine FnC_owed hmix (A7_same_c nB B nO O W G L nB' B' nO' O' W' G' L') (V := .need [FnC prog 12 [.lst nB [fun i => (dI (B i))], .lst nB' [fun i => (dI (B' i))]] ((dB (sameN nB B nB' B'))), ri (sameN nB B nB' B' = true), ri (sameN nB B nB' B' = true), ri (sameN nB B nB' B' = true), ri (sameN nB B nB' B' = true), sameN nB B nB' B' = true → FnC prog 12 [.lst nO [fun i => (dI (O i))], .lst nO' [fun i => (dI (O' i))]] ((dB (sameN nO O nO' O'))), ri (sameN nB B nB' B' = true), ri ((qm nB B nB' B' nO O nO' O') = true), ri ((qm nB B nB' B' nO O nO' O') = true), ri ((qm nB B nB' B' nO O nO' O') = true), ri ((qm nB B nB' B' nO O nO' O') = true), ri ((qm nB B nB' B' nO O nO' O') = true), ri ((qk nB B nB' B' nO O nO' O' W W') = true), ri ((qk nB B nB' B' nO O nO' O' W W') = true), ri ((qk nB B nB' B' nO O nO' O' W W') = true), ri ((qk nB B nB' B' nO O nO' O' W W') = true), ri ((qk nB B nB' B' nO O nO' O' W W') = true), ri ((qh nB B nB' B' nO O nO' O' W W' G G') = true), ri ((qh nB B nB' B' nO O nO' O' W W' G G') = true), ri ((qh nB B nB' B' nO O nO' O' W W' G G') = true), ri ((qh nB B nB' B' nO O nO' O' W W' G G') = true), ri ((qh nB B nB' B' nO O nO' O' W W' G G') = true)] (.done [(if (qh nB B nB' B' nO O nO' O' W W' G G') = true then L == L' else false) = (sameN nB B nB' B' && sameN nO O nO' O' && decide (W = W') && decide (G = G') && decide (L = L'))])) (by kernel_rfl) ?_
  simp only [qm, qk, qh, VT.holds, AllT, Sq]
  refine ⟨⟨ints_c _ _ _ _ h1, fun _ => ints_c _ _ _ _ h2⟩, ?_⟩
  rw [show (L == L') = decide (L = L') from rfl, Bool.decide_and, Bool.decide_and, Bool.decide_and]
  simp
end Go.Abs
