/- Contracts. -/
import Derived.Test.YteennpofimiliaaGreatDoorL1
set_option linter.unusedVariables false
set_option linter.unusedSimpArgs false
set_option maxRecDepth 100000
namespace Go.Abs.Lay
open Go
abbrev lists (m : Nat) (N : Nat → Nat) (A : Nat → Nat → Int) : DV := .lst m [fun i => .lst (N i) [fun k => .val (.int .i64 (A i k))]]
abbrev sys (nB : Nat) (B : Nat → Int) (nO : Nat) (O : Nat → Int) (W G L : Int) : DV := .agg [nums nB B, nums nO O, dI W, dI G, dI L]
def rise (n : Nat) (A : Nat → Int) : Bool := decide (∀ k, k < n → 0 < k → A (k - 1) < A k)
def fallR (n : Nat) (A : Nat → Int) : Bool := decide (∀ k, k < n → 0 < k → A k ≤ A (k - 1))
def anyBad (n : Nat) (A : Nat → Int) : Bool := anyN (fun k => badL (A k)) n
def lenE (m : Nat) (N : Nat → Nat) (A : Nat → Nat → Int) : Int := if anyN (fun i => anyBad (N i) (A i)) m = true then 2 else if anyN (fun i => !(rise (N i) (A i))) m = true then 10 else 0
theorem anyN_true {p : Nat → Bool} {n : Nat} : anyN p n = true ↔ ∃ k, k < n ∧ p k = true := by
  unfold anyN
  rw [Bool.not_eq_true', decide_eq_false_iff_not]
  constructor
  · intro h
    apply Classical.byContradiction
    intro h'
    apply h
    intro k hk
    cases hp : p k with
    | false => rfl
    | true => exact absurd ⟨k, hk, hp⟩ h'
  · intro ⟨k, hk, hp⟩ h
    rw [h k hk] at hp; cases hp
theorem anyN_false {p : Nat → Bool} {n : Nat} : anyN p n = false ↔ ∀ k, k < n → p k = false := by
  unfold anyN
  rw [Bool.not_eq_false', decide_eq_true_eq]
def rBads : Orc := .res fun l => dB (anyN (fun k => badL (aX l k)) (aN l))
def sysE (nB : Nat) (B : Nat → Int) (nO : Nat) (O : Nat → Int) (W G L : Int) : Int :=
  if nB < 1 ∨ nB > 8 ∨ nO > 8 then 11 else if anyBad nB B = true ∨ anyBad nO O = true then 2 else if rise nB B = false ∨ rise nO O = false then 10
  else if inR W 1 5000 = false ∨ inR G 0 5000 = false ∨ inR L 1 10000 = false then 2 else 0
def rLens : Orc := .res fun l => dI (lenE (lenOf (arg l 0)) (fun i => lenOf (colD 0 (arg l 0) i)) (fun i k => colI 0 (colD 0 (arg l 0) i) k))
theorem any2 (p : Nat → Bool) : anyN p 2 = true ↔ p 0 = true ∨ p 1 = true := by
  rw [anyN_true]
  constructor
  · rintro ⟨k, hk, hp⟩
    match k, hk, hp with
    | 0, _, hp => exact .inl hp
    | 1, _, hp => exact .inr hp
  · rintro (h | h)
    · exact ⟨0, by omega, h⟩
    · exact ⟨1, by omega, h⟩
theorem lenE2 (N : Nat → Nat) (A : Nat → Nat → Int) : lenE 2 N A = if anyBad (N 0) (A 0) = true ∨ anyBad (N 1) (A 1) = true then 2 else if rise (N 0) (A 0) = false ∨ rise (N 1) (A 1) = false then 10 else 0 := by
  unfold lenE
  simp only [any2, Bool.not_eq_true']
noncomputable def A114_lengths_c (m : Nat) (N : Nat → Nat) (A : Nat → Nat → Int) : Ann := { orc := [(4, [(1, rBads)])], loops := [(0, { ι := Nat, keep := [0, 8, 9], boxes := [], ts := fun _ i => [(10, dI (i : Int))], inv := fun _ i => i ≤ m ∧ ∀ j, j < i → anyBad (N j) (A j) = false, mu := fun _ i => m - i, rd := fun _ σ => (iOf (σ.get 10)).toNat }), (2, { ι := Nat, keep := [0, 17, 18], boxes := [], ts := fun _ i => [(19, dI (i : Int))], inv := fun _ i => i ≤ m ∧ ∀ j, j < i → rise (N j) (A j) = true, mu := fun _ i => m - i, rd := fun _ σ => (iOf (σ.get 19)).toNat }), (4, { ι := Nat, keep := [0, 6, 17, 18, 19, 23, 24], boxes := [], ts := fun _ i => [(25, dI (i : Int))], inv := fun σ k => k ≤ lenOf (σ.get 6) ∧ ∀ j, j < k → 0 < j → colI 0 (σ.get 6) (j - 1) < colI 0 (σ.get 6) j, mu := fun σ i => lenOf (σ.get 6) - i, rd := fun _ σ => (iOf (σ.get 25)).toNat })], cuts := [] }
namespace w21
noncomputable section
structure Z where
  m : Nat
  N : Nat → Nat
  A : Nat → Nat → Int
variable (z : Z) (i0 i1 i2 : Nat) (p : Prop) (P : List Prop) (a b : Int) (k : Nat) (U V : VT) (j8a : Nat → Prop) (j9a : Nat → VT)
abbrev x0 := Int.toNat (i0:Int)
abbrev x1 := decide ((i1:Int) > (0:Int))
abbrev x2 := ∀ i0 < z.m, rf (z.N i0) ∧ (∀ i1 < (z.N i0), rf (z.A i0 i1))
abbrev x3 := ri (x1 i1 = true)
abbrev x4 := Int.toNat ((i0:Int) + 1)
abbrev x5 := Int.toNat ((i1:Int) + 1)
abbrev x6 := (i1:Int) - 1
abbrev x7 := ∀ i1 < (z.N (x0 i0)), rf (z.A (x0 i0) i1)
abbrev x8 : List Prop := (a = (k:Int)) :: rf z.m :: x2 z :: rf z.m :: x2 z :: rf (z.m:Int) :: P
abbrev x9 := VT.done [a = Lay.lenE z.m z.N z.A]
abbrev x10 := Lay.anyN (fun i1 => Lay.badL (z.A (x0 i0) i1)) (z.N (x0 i0))
abbrev x11 : List Prop := x3 i1 :: x3 i1 :: (x1 i1 = true → 0 ≤ a ∧ b < (↑(z.N (x0 i0)) : Int)) :: x3 i1 :: P
abbrev x12 := VT.loop Nat j8a (Int.toNat 0) (x8 z [] (0:Int) (Int.toNat 0)) j9a
abbrev x13 := VT.need [i64In ((i0:Int) + 1)] (VT.done (x8 z [x4 i0 ≤ z.m ∧ p, z.m - x4 i0 < z.m - i0] ((i0:Int) + 1) (x4 i0)))
abbrev x14 := Lay.anyBad (z.N i1) (z.A i1) = false
abbrev x15 := i2 < k → 0 < i2 → (z.A (x0 i0) (i2 - 1)) < (z.A (x0 i0) i2)
abbrev x16 : List Prop := (a = (k:Int)) :: rf z.m :: x2 z :: rf (z.N (x0 i0)) :: x7 z i0 :: rf z.m :: x2 z :: rf (z.m:Int) :: rf (i0:Int) :: rf (z.N (x0 i0)) :: x7 z i0 :: rf (↑(z.N (x0 i0)) : Int) :: P
abbrev x17 := VT.ite (decide ((i0:Int) < (z.m:Int))) (VT.need [0 ≤ (i0:Int) ∧ (i0:Int) < (z.m:Int)] U) V
abbrev xt : VT := x12 z (fun i0 => i0 ≤ z.m ∧ (∀ i1 < i0, x14 z i1)) (fun i0 => x17 z i0 (VT.need [FnC prog 73 [DV.lst (z.N (x0 i0)) [fun i1 => dI (z.A (x0 i0) i1)], DV.val (Value.func (Fn.func 168) (Array.mk []) (Array.mk []))] (dB (x10 z i0))] (VT.ite (x10 z i0) (x9 z (2:Int)) (x13 z i0 (∀ i1 < x4 i0, x14 z i1)))) (x12 z (fun i0 => i0 ≤ z.m ∧ (∀ i1 < i0, Lay.rise (z.N i1) (z.A i1) = true)) (fun i0 => x17 z i0 (VT.loop Nat (fun i1 => i1 ≤ (z.N (x0 i0)) ∧ (∀ (i2 : Nat), x15 z i0 i2 i1)) (Int.toNat 0) (x16 z i0 [] (0:Int) (Int.toNat 0)) (fun i1 => VT.ite (decide ((i1:Int) < (↑(z.N (x0 i0)) : Int))) (VT.need (x3 i1 :: (x1 i1 = true → i64In (x6 i1)) :: x11 z i0 i1 (x11 z i0 i1 [x3 i1, x3 i1, x3 i1] (i1:Int) (i1:Int)) (x6 i1) (x6 i1)) (VT.ite (if (x1 i1) = true then (decide ((z.A (x0 i0) (Int.toNat (x6 i1))) ≥ (z.A (x0 i0) (Int.toNat (i1:Int))))) else false) (x9 z (10:Int)) (VT.need [i64In ((i1:Int) + 1)] (VT.done (x16 z i0 [x5 i1 ≤ (z.N (x0 i0)) ∧ (∀ (i2 : Nat), x15 z i0 i2 (x5 i1)), (z.N (x0 i0)) - x5 i1 < (z.N (x0 i0)) - i1] ((i1:Int) + 1) (x5 i1)))))) (x13 z i0 (∀ i1 < x4 i0, Lay.rise (z.N i1) (z.A i1) = true)))) (x9 z (0:Int)))))
end
end w21
open w21 in
theorem lengths_c (m : Nat) (N : Nat → Nat) (A : Nat → Nat → Int) (hm : m ≤ 1000) (hN : ∀ i, i < m → N i ≤ 1000000) : FnC prog 134 [lists m N A] (dI (lenE m N A)) := by
  refine FnC_owed hmix (A114_lengths_c m N A) (V := xt ⟨m, N, A⟩) (by kernel_rfl) ?_
  simp only [xt, x0, x1, x2, x3, x4, x5, x6, x7, x8, x9, x10, x11, x12, x13, x14, x15, x16, x17, Rf, VT.holds, AllT, Sq]
  refine ⟨rfl, ⟨Nat.zero_le m, fun j hj => by omega⟩, fun i ⟨hi, hb⟩ => ⟨fun hlt => ⟨by omega, ?_, fun h => ?_, fun h => ⟨by unfold i64In; omega, rfl, ⟨by omega, fun j hj => ?_⟩, by omega⟩⟩, fun hge => ⟨rfl, ⟨Nat.zero_le m, fun j hj => by omega⟩, fun i' ⟨hi', hb'⟩ => ⟨fun hlt => ⟨by omega, rfl, ⟨Nat.zero_le _, fun j hj => by omega⟩, fun k ⟨hk, hbk⟩ => ⟨fun hkl => ⟨⟨fun _ => ?_, fun _ => by omega, fun _ => by omega⟩, fun h => ?_, fun h => ⟨?_, rfl, ⟨by omega, fun j hj h0 => ?_⟩, by omega⟩⟩, fun hkg => ⟨by unfold i64In; omega, rfl, ⟨by omega, fun j hj => ?_⟩, by omega⟩⟩⟩, fun hge' => ?_⟩⟩⟩⟩
  · obtain ⟨r, hr⟩ := isFirst_exists (fun k => badL (A i k)) (N i)
    exact contains_c 168 badL (N i) (A i) r (hN i (by omega)) bad_c hr
  · rw [lenE, if_pos (anyN_true.2 ⟨i, by omega, h⟩)]
  · by_cases e : j = i
    · rw [e]; exact h
    · exact hb j (by omega)
  · have := hN i' (by omega); unfold i64In; omega
  · have hall : anyN (fun i => anyBad (N i) (A i)) m = false := anyN_false.2 fun j hj => hb j (by omega)
    rw [lenE, hall, if_neg (by simp), if_pos (anyN_true.2 ⟨i', by omega, ?_⟩)]
    rw [Bool.not_eq_true', rise, decide_eq_false_iff_not]
    intro hx
    have := hx k (by omega) (by omega)
    have e : ((k : Int) - 1).toNat = k - 1 := by omega
    rw [e] at h
    omega
  · have := hN i' (by omega); unfold i64In; omega
  · by_cases e : j = k
    · subst e
      have := h (by omega)
      have e : ((j : Int) - 1).toNat = j - 1 := by omega
      rw [e] at this
      omega
    · exact hbk j (by omega) h0
  · by_cases e : j = i'
    · rw [e, rise, decide_eq_true_eq]; exact fun k hk => hbk k (by omega)
    · exact hb' j (by omega)
  · have hall : anyN (fun i => anyBad (N i) (A i)) m = false := anyN_false.2 fun j hj => hb j (by omega)
    have hall2 : anyN (fun i => !(rise (N i) (A i))) m = false := anyN_false.2 fun j hj => by rw [hb' j (by omega)]; rfl
    rw [lenE, hall, hall2]; rfl
noncomputable def A83_system_c (nB : Nat) (B : Nat → Int) (nO : Nat) (O : Nat → Int) (W G L : Int) : Ann := { orc := [(1, [(3, rIn)]), (3, [(5, rLens)]), (6, [(2, rIn), (7, rIn), (13, rIn)])], loops := [], cuts := [] }
namespace w22
noncomputable section
structure Z where
  nB : Nat
  B : Nat → Int
  nO : Nat
  O : Nat → Int
  W : Int
  G : Int
  L : Int
variable (z : Z) (i0 i1 : Nat) (P : List Prop) (a : Int) (g h : Bool) (E : List DV)
abbrev x0 := !(Lay.inR z.W 1 5000)
abbrev x1 := if g = true then true else h
abbrev x2 := x1 (x0 z) (!(Lay.inR z.G 0 5000))
abbrev x3 := !(Lay.inR (z.nB:Int) 1 8)
abbrev x4 := FnC prog 75 E (dB g)
abbrev x5 := if (decide (i0 = (0:Nat))) = true then z.nB else z.nO
abbrev x6 := if (decide (i0 = (0:Nat))) = true then (z.B i1) else (z.O i1)
abbrev x7 := VT.done [a = Lay.sysE z.nB z.B z.nO z.O z.W z.G z.L]
abbrev x8 : List Prop := ri ((!(x3 z)) = true) :: P
abbrev x9 := Lay.lenE 2 (fun i0 => x5 z i0) (fun i0 => fun i1 => x6 z i0 i1)
abbrev xt : VT := VT.need (x4 (Lay.inR (z.nB:Int) 1 8) [dI (z.nB:Int), dI 1, dI 8] :: x8 z (x8 z (x8 z [x3 z = false → (!(x3 z)) = true]))) (VT.ite (x1 (x3 z) (decide ((z.nO:Int) > (8:Int)))) (x7 z (11:Int)) (VT.need [(2:Nat) ≤ (2:Nat), FnC prog 134 [DV.lst 2 [fun i0 => DV.lst (x5 z i0) [fun i1 => dI (x6 z i0 i1)]]] (dI (x9 z))] (VT.ite (x9 z != 0) (x7 z (x9 z)) (VT.need [x4 (Lay.inR z.W 1 5000) [dI z.W, dI 1, dI 5000], ri ((!(x0 z)) = true), ri ((!(x0 z)) = true), (!(x0 z)) = true → x4 (Lay.inR z.G 0 5000) [dI z.G, dI 0, dI 5000], ri ((!(x0 z)) = true), x0 z = false → (!(x0 z)) = true, ri ((!(x2 z)) = true), ri ((!(x2 z)) = true), (!(x2 z)) = true → x4 (Lay.inR z.L 1 10000) [dI z.L, dI 1, dI 10000], ri ((!(x2 z)) = true), x2 z = false → (!(x2 z)) = true] (VT.ite (x1 (x2 z) (!(Lay.inR z.L 1 10000))) (x7 z (2:Int)) (x7 z (0:Int)))))))
end
end w22
open w22 in
theorem system_c (nB : Nat) (B : Nat → Int) (nO : Nat) (O : Nat → Int) (W G L : Int)  : FnC prog 92 [sys nB B nO O W G L] (dI (sysE nB B nO O W G L)) := by
  refine FnC_owed hmix (A83_system_c nB B nO O W G L) (V := xt ⟨nB, B, nO, O, W, G, L⟩) (by kernel_rfl) ?_
  simp only [xt, x0, x1, x2, x3, x4, x5, x6, x7, x8, x9, Rf, VT.holds, AllT, Sq]
  have hE : lenE 2 (fun i => if i = 0 then nB else nO) (fun i k => if i = 0 then B k else O k) = if anyBad nB B = true ∨ anyBad nO O = true then 2 else if rise nB B = false ∨ rise nO O = false then 10 else 0 := lenE2 _ _
  have hin : ∀ x lo hi : Int, inR x lo hi = false ↔ ¬ (lo ≤ x ∧ x ≤ hi) := fun x lo hi => decide_eq_false_iff_not
  refine ⟨within_c _ _ _, fun h => ?_, fun h => ⟨⟨by omega, ?_⟩, fun hne => ?_, fun he => ⟨⟨within_c _ _ _, fun _ => within_c _ _ _, fun _ => within_c _ _ _⟩, fun h2 => ?_, fun h2 => ?_⟩⟩⟩
  · rw [hin] at h
    rw [sysE, if_pos (by omega)]
  · exact lengths_c 2 (fun i => if i = 0 then nB else nO) (fun i k => if i = 0 then B k else O k) (by omega) fun i _ => by
      obtain ⟨h1, h2⟩ := h
      rw [hin] at h1
      show (if i = 0 then nB else nO) ≤ 1000000
      split <;> omega
  · obtain ⟨h1, h2⟩ := h
    rw [hin] at h1
    rw [sysE, if_neg (by omega)]
    rw [hE] at hne ⊢
    by_cases c1 : anyBad nB B = true ∨ anyBad nO O = true
    · rw [if_pos c1, if_pos c1]
    · rw [if_neg c1] at hne
      rw [if_neg c1, if_neg c1]
      by_cases c2 : rise nB B = false ∨ rise nO O = false
      · rw [if_pos c2, if_pos c2]
      · rw [if_neg c2] at hne; exact absurd rfl hne
  all_goals
    obtain ⟨h1, h3⟩ := h
    rw [hin] at h1
    rw [sysE, if_neg (by omega)]
    rw [hE] at he
    by_cases c1 : anyBad nB B = true ∨ anyBad nO O = true
    · rw [if_pos c1] at he; cases he
    · rw [if_neg c1] at he
      rw [if_neg c1]
      by_cases c2 : rise nB B = false ∨ rise nO O = false
      · rw [if_pos c2] at he; cases he
      · rw [if_neg c2]
        first
        | rw [if_pos (by rcases h2 with (h | h) | h <;> simp [h])]
        | rw [if_neg (fun hx => by
            obtain ⟨ha, hb⟩ := h2
            rcases hx with h | h | h
            · exact ha (.inl h)
            · exact ha (.inr h)
            · rw [hb] at h; cases h)]
noncomputable def A12_few_c (nB : Nat) (B : Nat → Int) (nO : Nat) (O : Nat → Int) (W G L : Int) : Ann := { orc := [], loops := [], cuts := [] }
theorem few_c (nB : Nat) (B : Nat → Int) (nO : Nat) (O : Nat → Int) (W G L : Int)  : FnC prog 30 [sys nB B nO O W G L] (dB (decide (nB ≤ 12 ∧ nO ≤ 12))) := by
  refine FnC_owed hmix (A12_few_c nB B nO O W G L) (V := .need [decide ((nB:Int) ≤ (12:Int)) = true → decide ((nB:Int) ≤ (12:Int)) = true, decide ((nB:Int) ≤ (12:Int)) = true → decide ((nB:Int) ≤ (12:Int)) = true, decide ((nB:Int) ≤ (12:Int)) = true → decide ((nB:Int) ≤ (12:Int)) = true, decide ((nB:Int) ≤ (12:Int)) = true → decide ((nB:Int) ≤ (12:Int)) = true] (.done [(if decide ((nB:Int) ≤ (12:Int)) = true then decide ((nO:Int) ≤ (12:Int)) else false) = decide (nB ≤ (12:Nat) ∧ nO ≤ (12:Nat))])) (by kernel_rfl) ?_
  simp only [VT.holds, AllT, Sq]
  rw [Bool.decide_and]
  congr 1 <;> simp <;> omega
noncomputable def A59_copy_c (n : Nat) (A : Nat → Int) : Ann := { orc := [], loops := [], cuts := [] }
theorem copy_c (n : Nat) (A : Nat → Int) (hn : n ≤ 1000000) : FnC prog 11 [nums n A] (nums n A) := by
  refine FnC_owed hmix (A59_copy_c n A) (V := .need [(0:Nat) ≤ (0:Nat), ((0:Nat) + n) * (nat_lit 7 + (1:Nat)) ≤ (140737488355328:Nat)] (.done [(0:Nat) + n ≤ (0:Nat) + n, (0:Nat) + n = n, ∀ i < n, (if decide (i < (0:Nat)) = true then (0:Int) else A (i - (0:Nat))) = A i])) (by kernel_rfl) ?_
  simp only [VT.holds, AllT, Sq]
  exact ⟨⟨by omega, by omega⟩, by omega, by omega, fun i _ => by rw [if_neg (by omega)]; rfl⟩
noncomputable def A59_copyR_c (n : Nat) (A : Nat → Int) : Ann := { orc := [], loops := [], cuts := [] }
theorem copyR_c (n : Nat) (A : Nat → Int) (hn : n ≤ 1000000) : FnR prog 11 [nums n A] n [fun i => .val (.int .i64 (A i))] := by
  refine FnR_owed hmix (A59_copyR_c n A) (V := .need [(0:Nat) ≤ (0:Nat), ((0:Nat) + n) * (nat_lit 7 + (1:Nat)) ≤ (140737488355328:Nat)] (.done [(0:Nat) + n = n ∧ (0:Nat) + n ≤ (0:Nat) + n, ∀ i < n, (if decide (i < (0:Nat)) = true then (0:Int) else A (i - (0:Nat))) = A i])) (by kernel_rfl) ?_
  simp only [VT.holds, AllT, Sq]
  exact ⟨⟨by omega, by omega⟩, ⟨by omega, by omega⟩, fun i _ => by rw [if_neg (by omega)]; rfl⟩
noncomputable def A57_plain_c  : Ann := { orc := [], loops := [], cuts := [] }
namespace w26
noncomputable section
abbrev xt : VT := VT.done [(2:Nat) ≤ (2:Nat), (1:Nat) ≤ (1:Nat), rf (2:Nat), ∀ i0 < ((2:Nat)), rf (List.getD [(1000:Int), (2500:Int)] i0 0), rf (1:Nat), ∀ i0 < ((1:Nat)), rf (500:Int), rf (700:Int), rf (300:Int), rf (2000:Int)]
end
end w26
open w26 in
theorem plain_c   : FnC prog 25 [] (sys 2 (fun i => [1000, 2500].getD i 0) 1 (fun _ => 500) 700 300 2000) := by
  refine FnC_owed hmix (A57_plain_c ) (V := xt) (by kernel_rfl) ?_
  simp only [xt, Rf, VT.holds, AllT, Sq]
  omega
noncomputable def A14_copied_c (nB : Nat) (B : Nat → Int) (nO : Nat) (O : Nat → Int) (W G L : Int) : Ann := { orc := [(1, [(2, .res fun l => nums (aN l) (aX l)), (5, .res fun l => nums (aN l) (aX l))])], loops := [], cuts := [] }
theorem copied_c (nB : Nat) (B : Nat → Int) (nO : Nat) (O : Nat → Int) (W G L : Int) (h1 : nB ≤ 1000000) (h2 : nO ≤ 1000000) : FnC prog 14 [sys nB B nO O W G L] (sys nB B nO O W G L) := by
  refine FnC_owed hmix (A14_copied_c nB B nO O W G L) (V := .need [FnC prog 11 [.lst nB [fun i => (dI (B i))]] (.lst nB [fun i => (dI (B i))]), FnC prog 11 [.lst nO [fun i => (dI (O i))]] (.lst nO [fun i => (dI (O i))])] (.done [nB = nB, ∀ i < nB, B i = B i, nO = nO, ∀ i < nO, O i = O i, W = W, G = G, L = L])) (by kernel_rfl) ?_
  simp only [VT.holds, AllT, Sq]
  exact ⟨copy_c nB B h1, copy_c nO O h2⟩
noncomputable def A135_sorted_c (n : Nat) (A : Nat → Int) : Ann := { orc := [(4, [(10, .res fun l => dI (aI l 1 - aI l 0))])], loops := [(0, { ι := Int, keep := [0, 1], boxes := [], ts := fun _ i => [(5, dI i)], inv := fun _ i => -1 ≤ i ∧ i ≤ (n : Int) - 1 ∧ ∀ k : Nat, i < (k : Int) → k < n → 0 < k → A k ≤ A (k - 1), mu := fun _ i => (i + 1).toNat, rd := fun _ σ => iOf (σ.get 5) })], cuts := [] }
namespace w28
noncomputable section
structure Z where
  n : Nat
  A : Nat → Int
variable (z : Z) (i1 : Nat) (a : Int)
abbrev x0 := (z.n:Int) - 1
abbrev x1 (i0 : Int) := (z.A (Int.toNat (i0 - 1))) - (z.A (Int.toNat i0))
abbrev x2 := a < (i1:Int) → i1 < z.n → 0 < i1 → (z.A i1) ≤ (z.A (i1 - 1))
abbrev x3 := rf (Value.func (Fn.func (171 : FuncId)) (Array.mk []) (Array.mk []))
abbrev xt : VT := VT.need [i64In (x0 z)] (VT.loop Int (fun (i0 : Int) => (-(1:Int)) ≤ i0 ∧ i0 ≤ x0 z ∧ (∀ (i1 : Nat), x2 z i1 i0)) (x0 z) [rf (x0 z), rf z.n, ∀ i0 < z.n, rf (z.A i0), x3] (fun (i0 : Int) => VT.ite (decide (i0 > (0:Int))) (VT.need [0 ≤ i0 ∧ i0 < (z.n:Int), i64In (i0 - 1), 0 ≤ i0 - 1 ∧ i0 - 1 < (z.n:Int), FnC prog (171 : FuncId) [dI (z.A (Int.toNat i0)), dI (z.A (Int.toNat (i0 - 1)))] (dI (x1 z i0))] (VT.ite (decide ((x1 z i0) < (0:Int))) (VT.done [false = Lay.fallR z.n z.A]) (VT.need [i64In (i0 - 1)] (VT.done [rf (i0 - 1), rf z.n, ∀ i0 < z.n, rf (z.A i0), x3, (-(1:Int)) ≤ i0 - 1 ∧ i0 - 1 ≤ x0 z ∧ (∀ (i1 : Nat), x2 z i1 (i0 - 1)), Int.toNat (i0 - 1 + 1) < Int.toNat (i0 + 1)])))) (VT.done [true = Lay.fallR z.n z.A])))
end
end w28
open w28 in
theorem sorted_c (n : Nat) (A : Nat → Int) (hn : n ≤ 1000000) (hA : ∀ k, k < n → 1 ≤ A k ∧ A k ≤ 10000) : FnC prog 170 [nums n A, .val (.func (.func 171) #[] #[])] (dB (fallR n A)) := by
  refine FnC_owed hmix (A135_sorted_c n A) (V := xt ⟨n, A⟩) (by kernel_rfl) ?_
  simp only [xt, x0, x1, x2, x3, Rf, VT.holds, AllT, Sq]
  refine ⟨by unfold i64In; omega, ⟨by omega, by omega, fun k _ _ _ => by omega⟩, fun i ⟨h1, h2, h3⟩ => ⟨fun hp => ⟨⟨by omega, by unfold i64In; omega, by omega, ?_⟩, fun h => ?_, fun h => ⟨by unfold i64In; omega, ⟨by omega, by omega, fun k hk hkn h0 => ?_⟩, by omega⟩⟩, fun hp => ?_⟩⟩
  · have a1 := hA i.toNat (by omega)
    have a2 := hA (i - 1).toNat (by omega)
    exact fall_c _ _ (by omega) (by omega)
  · rw [fallR, eq_comm, decide_eq_false_iff_not]
    intro hx
    have := hx i.toNat (by omega) (by omega)
    rw [show i.toNat - 1 = (i - 1).toNat by omega] at this
    omega
  · by_cases e : i < (k : Int)
    · exact h3 k e hkn h0
    · have : k = i.toNat := by omega
      subst this
      rw [show i.toNat - 1 = (i - 1).toNat by omega]
      omega
  · rw [fallR, eq_comm, decide_eq_true_eq]
    exact fun k hk h0 => h3 k (by omega) hk h0
noncomputable def A129_falling_c (n : Nat) (A : Nat → Int) : Ann := { orc := [(1, [(1, .res fun l => dB (fallR (aN l) (aX l)))])], loops := [], cuts := [] }
theorem falling_c (n : Nat) (A : Nat → Int) (hn : n ≤ 1000000) (hA : ∀ k, k < n → 1 ≤ A k ∧ A k ≤ 10000) : FnC prog 138 [nums n A] (dB (fallR n A)) := by
  refine FnC_owed hmix (A129_falling_c n A) (V := .need [FnC prog 170 [.lst n [fun i => (dI (A i))], .val (Value.func (Fn.func (171:Nat)) ⟨[]⟩ ⟨[]⟩)] ((dB (fallR n A)))] (.done [fallR n A = fallR n A])) (by kernel_rfl) ?_
  simp only [VT.holds, AllT, Sq]
  exact sorted_c n A hn hA
noncomputable def A112_max_c (n : Nat) (A : Nat → Int) : Ann := { orc := [], loops := [(0, { ι := Nat, keep := [0], boxes := [], ts := fun _ i => [(4, dI (i : Int)), (3, dI (A (i - 1)))], inv := fun _ i => 1 ≤ i ∧ i ≤ n, mu := fun _ i => n - i, rd := fun _ σ => (iOf (σ.get 4)).toNat })], cuts := [] }
namespace w2a
noncomputable section
structure Z where
  n : Nat
  A : Nat → Int
variable (z : Z) (i0 : Nat)
abbrev x0 := Int.toNat ((i0:Int) + 1)
abbrev x1 := VT.need [(0:Int) ≤ (0:Int) ∧ 0 < (z.n:Int)] (VT.loop Nat (fun i0 => 1 ≤ i0 ∧ i0 ≤ z.n) (Int.toNat 1) [1 = (↑(Int.toNat 1) : Int), (z.A (Int.toNat 0)) = (z.A (Int.toNat 1 - 1)), rf z.n, ∀ i0 < z.n, rf (z.A i0)] (fun i0 => VT.ite (decide ((i0:Int) < (z.n:Int))) (VT.need [0 ≤ (i0:Int) ∧ (i0:Int) < (z.n:Int)] (VT.need [i64In ((i0:Int) + 1)] (VT.done [(i0:Int) + 1 = (↑(x0 i0) : Int), maxs (z.A (i0 - 1)) [z.A (Int.toNat (i0:Int))] = (z.A (x0 i0 - 1)), rf z.n, ∀ i0 < z.n, rf (z.A i0), 1 ≤ x0 i0 ∧ x0 i0 ≤ z.n, z.n - x0 i0 < z.n - i0]))) (VT.done [(z.A (i0 - 1)) = (z.A (z.n - 1))])))
abbrev xt : VT := VT.ite (decide ((z.n:Int) < (1:Int))) (VT.need [False, False] (x1 z)) (x1 z)
end
end w2a
open w2a in
theorem max_c (n : Nat) (A : Nat → Int) (h1 : 1 ≤ n) (hn : n ≤ 1000000) (hr : rise n A = true) : FnC prog 94 [nums n A] (dI (A (n - 1))) := by
  refine FnC_owed hmix (A112_max_c n A) (V := xt ⟨n, A⟩) (by kernel_rfl) ?_
  simp only [xt, x0, x1, Rf, VT.holds, AllT, Sq]
  have hs : ∀ k, k < n → 0 < k → A (k - 1) < A k := by rw [rise, decide_eq_true_eq] at hr; exact hr
  refine ⟨fun h => absurd h (by omega), fun _ => ⟨by omega, ⟨rfl, rfl⟩, ⟨by omega, by omega⟩, fun i ⟨h2, h3⟩ => ⟨fun hlt => ⟨by omega, by unfold i64In; omega, rfl, ?_, ⟨by omega, by omega⟩, by omega⟩, fun hge => by rw [show i = n by omega]⟩⟩⟩
  have := hs i (by omega) (by omega)
  simp only [maxs, Nat.add_sub_cancel]
  rw [if_pos (by omega)]
end Go.Abs.Lay
