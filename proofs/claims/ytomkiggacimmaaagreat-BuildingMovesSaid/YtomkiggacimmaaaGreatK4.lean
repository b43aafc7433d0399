/- Contracts. Contracts. Contracts. -/
import Derived.Test.YtomkiggacimmaaaGreatK1
section
section
set_option linter.unusedVariables false
set_option linter.unusedSimpArgs false
set_option maxRecDepth 100000
namespace Go.Abs
open Go
/-- Twice the area, over the first k sides. -/
def twS (n : Nat) (X Y : Nat → Int) : Nat → Int
  | 0 => 0
  | k + 1 => twS n X Y k + (X (ix n k) * Y (ix n (k + 1)) - X (ix n (k + 1)) * Y (ix n k))
theorem mul_bd {a b : Int} {A B : Nat} (ha : a.natAbs ≤ A) (hb : b.natAbs ≤ B) : (a * b).natAbs ≤ A * B := by
  rw [Int.natAbs_mul]; exact Nat.mul_le_mul ha hb
theorem inB_abs {n : Nat} {X : Nat → Int} (h : inB n X) {k : Nat} (hk : k < n) : (X k).natAbs ≤ 1000000 := by
  have := h k hk; omega
theorem tw_term {n : Nat} {X Y : Nat → Int} (hn : 0 < n) (hX : inB n X) (hY : inB n Y) (i j : Int) : (X (ix n i) * Y (ix n j)).natAbs ≤ 1000000000000 :=
  mul_bd (A := 1000000) (B := 1000000) (inB_abs hX (ix_lt hn)) (inB_abs hY (ix_lt hn))
theorem twS_bd {n : Nat} {X Y : Nat → Int} (hn : 0 < n) (hX : inB n X) (hY : inB n Y) : ∀ k, (twS n X Y k).natAbs ≤ 2000000000000 * k
  | 0 => by simp [twS]
  | k + 1 => by
    have := twS_bd hn hX hY k
    have := tw_term hn hX hY k (k + 1)
    have := tw_term hn hX hY (k + 1) k
    simp only [twS]
    omega
theorem toNat_succ (i : Nat) : Int.toNat ((i : Int) + 1) = i + 1 := by omega
theorem toNat_add2 (i : Nat) : Int.toNat ((i : Int) + 2) = i + 2 := by omega
theorem toNat_zero' : Int.toNat (0:Int) = 0 := rfl
/-- r is the first number below n at which p holds, or -1. -/
def IsFirst (p : Nat → Bool) (n : Nat) (r : Int) : Prop := (r = -1 ∧ ∀ j, j < n → p j = false) ∨ ∃ i : Nat, i < n ∧ r = i ∧ p i = true ∧ ∀ j, j < i → p j = false
theorem isFirst_exists (p : Nat → Bool) (n : Nat) : ∃ r, IsFirst p n r := by
  induction n with
  | zero => exact ⟨-1, .inl ⟨rfl, fun j h => by omega⟩⟩
  | succ n ih =>
    obtain ⟨r, ⟨h1, h2⟩ | ⟨i, h1, h2, h3, h4⟩⟩ := ih
    · cases hp : p n with
      | true => exact ⟨n, .inr ⟨n, by omega, rfl, hp, h2⟩⟩
      | false =>
        refine ⟨-1, .inl ⟨rfl, fun j h => ?_⟩⟩
        by_cases e : j = n
        · rw [e]; exact hp
        · exact h2 j (by omega)
    · exact ⟨r, .inr ⟨i, by omega, h2, h3, h4⟩⟩
/-- A place is out of range. -/
def badP (X Y : Nat → Int) (k : Nat) : Bool := !(inF (X k) && inF (Y k))
def allIn (n : Nat) (X Y : Nat → Int) : Bool := decide (∀ k, k < n → badP X Y k = false)
def rTw : Orc := .res fun l => dI (twS (aN l) (aX l) (aY l) (aN l))
def rAllIn : Orc := .res fun l => dB (!(allIn (aN l) (aX l) (aY l)))
noncomputable def A62_twice_c (n : Nat) (X Y : Nat → Int) : Ann := { orc := [(5, [(2, rAt), (6, rAt)])], loops := [(0, { ι := Nat, keep := [0, 8], boxes := [], ts := fun _ i => [(3, dI (twS n X Y i)), (9, dI (i : Int))], inv := fun _ i => i ≤ n, mu := fun _ i => n - i, rd := fun _ σ => (iOf (σ.get 9)).toNat })], cuts := [] }
theorem twice_c (n : Nat) (X Y : Nat → Int) (hn : 0 < n) (hn2 : n ≤ 800) (hX : inB n X) (hY : inB n Y) : FnC prog 40 [pts n X Y] (dI (twS n X Y n)) := by
  refine FnC_owed hmix (A62_twice_c n X Y) (V := VT.loop Nat (fun (a : Nat) => a ≤ n) (0:Int).toNat [(0:Int) = 0, (0:Int) = (↑(0:Int).toNat : Int), n = n, ∀ i < n, X i = X i, ∀ i < n, Y i = Y i, (n:Int) = (n:Int)] fun (i : Nat) => VT.ite (decide ((i:Int) < (n:Int))) (VT.need [FnC prog 62 [DV.lst n [fun (i : Nat) => DV.val (Value.int IntKind.i64 (X i)), fun (i : Nat) => DV.val (Value.int IntKind.i64 (Y i))], DV.val (Value.int IntKind.i64 (i:Int))] (DV.val (Value.agg { toList := [Value.int IntKind.i64 (X (ix n (i:Int))), Value.int IntKind.i64 (Y (ix n (i:Int)))] })), i64In ((i:Int) + 1), FnC prog 62 [DV.lst n [fun (i : Nat) => DV.val (Value.int IntKind.i64 (X i)), fun (i : Nat) => DV.val (Value.int IntKind.i64 (Y i))], DV.val (Value.int IntKind.i64 ((i:Int) + 1))] (DV.val (Value.agg { toList := [Value.int IntKind.i64 (X (ix n ((i:Int) + 1))), Value.int IntKind.i64 (Y (ix n ((i:Int) + 1)))] }))] (VT.need [i64In (X (ix n (i:Int)) * Y (ix n ((i:Int) + 1))), i64In (X (ix n ((i:Int) + 1)) * Y (ix n (i:Int))), i64In (X (ix n (i:Int)) * Y (ix n ((i:Int) + 1)) - X (ix n ((i:Int) + 1)) * Y (ix n (i:Int))), i64In (twS n X Y i + (X (ix n (i:Int)) * Y (ix n ((i:Int) + 1)) - X (ix n ((i:Int) + 1)) * Y (ix n (i:Int))))] (VT.need [i64In ((i:Int) + 1)] (VT.done [twS n X Y i + (X (ix n (i:Int)) * Y (ix n ((i:Int) + 1)) - X (ix n ((i:Int) + 1)) * Y (ix n (i:Int))) = twS n X Y ((i:Int) + 1).toNat, (i:Int) + 1 = (↑((i:Int) + 1).toNat : Int), n = n, ∀ i < n, X i = X i, ∀ i < n, Y i = Y i, (n:Int) = (n:Int), Int.toNat ((i:Int) + 1) ≤ n, n - ((i:Int) + 1).toNat < n - i])))) (VT.done [twS n X Y i = twS n X Y n])) (by kernel_rfl) ?_
  simp only [VT.holds, AllT, implies_true, and_true, true_and, toNat_succ, toNat_zero', decide_eq_true_eq, decide_eq_false_iff_not]
  refine ⟨rfl, Nat.zero_le n, fun i hi => ⟨fun h => ?_, fun h => ?_⟩⟩
  · have b1 := tw_term hn hX hY i (i + 1)
    have b2 := tw_term hn hX hY (i + 1) i
    have b3 := twS_bd hn hX hY i
    simp only [i64In]
    refine ⟨⟨at_c n X Y i hn (by omega) (by omega) (by omega), by omega, at_c n X Y (i + 1) hn (by omega) (by omega) (by omega)⟩, ⟨by omega, by omega, by omega, by omega⟩, by omega, rfl, rfl, by omega, by omega⟩
  · have : i = n := by omega
    rw [this]
noncomputable def A64_length_c (n : Nat) (X Y : Nat → Int) (i : Int) : Ann := { orc := [(1, [(2, rAt), (6, rAt)]), (2, [(5, rAbs), (11, rAbs)])], loops := [], cuts := [] }
theorem length_c (n : Nat) (X Y : Nat → Int) (i : Int) (hn : 0 < n) (hn2 : n ≤ 1000) (h1 : -(n : Int) ≤ i) (h2 : i ≤ 900) (hX : inB n X) (hY : inB n Y) : FnC prog 67 [pts n X Y, dI i] (dI (((X (ix n (i + 1)) - X (ix n i)).natAbs : Int) + ((Y (ix n (i + 1)) - Y (ix n i)).natAbs : Int))) := by
  refine FnC_owed hmix (A64_length_c n X Y i) (V := VT.need [FnC prog 62 [DV.lst n [fun (i : Nat) => DV.val (Value.int IntKind.i64 (X i)), fun (i : Nat) => DV.val (Value.int IntKind.i64 (Y i))], DV.val (Value.int IntKind.i64 i)] (DV.val (Value.agg { toList := [Value.int IntKind.i64 (X (ix n i)), Value.int IntKind.i64 (Y (ix n i))] })), i64In (i + 1), FnC prog 62 [DV.lst n [fun (i : Nat) => DV.val (Value.int IntKind.i64 (X i)), fun (i : Nat) => DV.val (Value.int IntKind.i64 (Y i))], DV.val (Value.int IntKind.i64 (i + 1))] (DV.val (Value.agg { toList := [Value.int IntKind.i64 (X (ix n (i + 1))), Value.int IntKind.i64 (Y (ix n (i + 1)))] }))] (VT.need [i64In (X (ix n (i + 1)) - X (ix n i)), FnC prog 20 [DV.val (Value.int IntKind.i64 (X (ix n (i + 1)) - X (ix n i)))] (DV.val (Value.int IntKind.i64 (↑(Int.natAbs (X (ix n (i + 1)) - X (ix n i))) : Int))), i64In (Y (ix n (i + 1)) - Y (ix n i)), FnC prog 20 [DV.val (Value.int IntKind.i64 (Y (ix n (i + 1)) - Y (ix n i)))] (DV.val (Value.int IntKind.i64 (↑(Int.natAbs (Y (ix n (i + 1)) - Y (ix n i))) : Int))), i64In ((↑(Int.natAbs (X (ix n (i + 1)) - X (ix n i))) : Int) + (↑(Int.natAbs (Y (ix n (i + 1)) - Y (ix n i))) : Int))] (VT.done [(↑(Int.natAbs (X (ix n (i + 1)) - X (ix n i))) : Int) + (↑(Int.natAbs (Y (ix n (i + 1)) - Y (ix n i))) : Int) = (↑(Int.natAbs (X (ix n (i + 1)) - X (ix n i))) : Int) + (↑(Int.natAbs (Y (ix n (i + 1)) - Y (ix n i))) : Int)]))) (by kernel_rfl) ?_
  simp only [VT.holds, AllT, i64In]
  have a1 := inB_abs hX (ix_lt (i := i) hn)
  have a2 := inB_abs hX (ix_lt (i := i + 1) hn)
  have a3 := inB_abs hY (ix_lt (i := i) hn)
  have a4 := inB_abs hY (ix_lt (i := i + 1) hn)
  refine ⟨⟨at_c n X Y i hn hn2 h1 (by omega), by omega, at_c n X Y (i + 1) hn hn2 (by omega) (by omega)⟩, ⟨by omega, abs_c _ (by omega), by omega, abs_c _ (by omega), by omega⟩, trivial⟩
noncomputable def A99_index_c (n : Nat) (X Y : Nat → Int) (r : Int) : Ann := { orc := [(4, [(5, rBad)])], loops := [(0, { ι := Nat, keep := [0, 1, 7], boxes := [], ts := fun _ i => [(8, dI (i : Int))], inv := fun _ i => i ≤ n ∧ ∀ j, j < i → badP X Y j = false, mu := fun _ i => n - i, rd := fun _ σ => (iOf (σ.get 8)).toNat })], cuts := [] }
theorem index_c (n : Nat) (X Y : Nat → Int) (r : Int) (hn2 : n ≤ 1000000) (h : IsFirst (badP X Y) n r) : FnC prog 80 [pts n X Y, .val (.func (.func 74) #[] #[])] (dI r) := by
  refine FnC_owed hmix (A99_index_c n X Y r) (V := VT.loop Nat (fun (a : Nat) => a ≤ n ∧ ∀ (j : Nat), j < a → badP X Y j = false) (0:Int).toNat [(0:Int) = (↑(0:Int).toNat : Int), n = n, ∀ i < n, X i = X i, ∀ i < n, Y i = Y i, Value.func (Fn.func (74 : FuncId)) { toList := [] } { toList := [] } = Value.func (Fn.func (74 : FuncId)) { toList := [] } { toList := [] }, (n:Int) = (n:Int)] fun (i : Nat) => VT.ite (decide ((i:Int) < (n:Int))) (VT.need [(0:Int) ≤ (i:Int) ∧ (i:Int) < (n:Int), FnC prog (74 : FuncId) [DV.val (Value.agg { toList := [Value.int IntKind.i64 (X (i:Int).toNat), Value.int IntKind.i64 (Y (i:Int).toNat)] })] (DV.val (Value.bool !(inF (X (i:Int).toNat) && inF (Y (i:Int).toNat))))] (VT.ite (!(inF (X (i:Int).toNat) && inF (Y (i:Int).toNat))) (VT.done [(i:Int) = r]) (VT.need [i64In ((i:Int) + 1)] (VT.done [(i:Int) + 1 = (↑((i:Int) + 1).toNat : Int), n = n, ∀ i < n, X i = X i, ∀ i < n, Y i = Y i, Value.func (Fn.func (74 : FuncId)) { toList := [] } { toList := [] } = Value.func (Fn.func (74 : FuncId)) { toList := [] } { toList := [] }, (n:Int) = (n:Int), Int.toNat ((i:Int) + 1) ≤ n ∧ ∀ (j : Nat), j < ((i:Int) + 1).toNat → badP X Y j = false, n - ((i:Int) + 1).toNat < n - i])))) (VT.done [(-1:Int) = r])) (by kernel_rfl) ?_
  simp only [VT.holds, AllT, implies_true, and_true, true_and, toNat_succ, toNat_zero', decide_eq_true_eq, decide_eq_false_iff_not, Int.toNat_natCast]
  refine ⟨rfl, ⟨Nat.zero_le n, fun j hj => by omega⟩, fun i ⟨hi, hb⟩ => ⟨fun hlt => ⟨⟨by omega, bad_c _ _⟩, fun hbad => ?_, fun hok => ⟨by unfold i64In; omega, rfl, ⟨by omega, fun j hj => ?_⟩, by omega⟩⟩, fun hge => ?_⟩⟩
  · rcases h with ⟨h1, h2⟩ | ⟨k, h1, h2, h3, h4⟩
    · have := h2 i (by omega)
      rw [badP, hbad] at this; cases this
    · rcases Nat.lt_trichotomy i k with hk | hk | hk
      · have := h4 i hk
        rw [badP, hbad] at this; cases this
      · rw [h2, hk]
      · have := hb k hk
        rw [h3] at this; cases this
  · by_cases e : j = i
    · rw [e]; exact hok
    · exact hb j (by omega)
  · rcases h with ⟨h1, h2⟩ | ⟨k, h1, h2, h3, h4⟩
    · rw [h1]
    · have := hb k (by omega)
      rw [h3] at this; cases this
noncomputable def A92_contains_c (n : Nat) (X Y : Nat → Int) (r : Int) : Ann := { orc := [(1, [(2, .res fun _ => dI r)])], loops := [], cuts := [] }
theorem contains_c (n : Nat) (X Y : Nat → Int) (r : Int) (hn2 : n ≤ 1000000) (h : IsFirst (badP X Y) n r) : FnC prog 73 [pts n X Y, .val (.func (.func 74) #[] #[])] (dB (!(allIn n X Y))) := by
  refine FnC_owed hmix (A92_contains_c n X Y r) (V := VT.need [FnC prog 80 [DV.lst n [fun (i : Nat) => DV.val (Value.int IntKind.i64 (X i)), fun (i : Nat) => DV.val (Value.int IntKind.i64 (Y i))], DV.val (Value.func (Fn.func (74 : FuncId)) { toList := [] } { toList := [] })] (DV.val (Value.int IntKind.i64 r))] (VT.done [decide (r ≥ 0) = !allIn n X Y])) (by kernel_rfl) ?_
  simp only [VT.holds, AllT]
  refine ⟨index_c n X Y r hn2 h, ?_⟩
  unfold allIn
  rcases h with ⟨h1, h2⟩ | ⟨i, h1, h2, h3, h4⟩
  · rw [decide_eq_true h2, h1]; rfl
  · have hf : ¬ ∀ k, k < n → badP X Y k = false := fun h => by rw [h i h1] at h3; cases h3
    rw [decide_eq_false hf, h2]; simp
end Go.Abs
end
section
set_option linter.unusedVariables false
set_option linter.unusedSimpArgs false
set_option maxRecDepth 100000
namespace Go.Abs
open Go
/-- A corner is as it should be: the sides at it have directions, at right angles. -/
def formOk (n : Nat) (X Y : Nat → Int) (i : Nat) : Bool := dO n X Y i && dO n X Y ((i : Int) - 1) && decide (dD n X Y i % 2 ≠ dD n X Y ((i : Int) - 1) % 2)
def touF (n : Nat) (X Y : Nat → Int) (i k : Int) : Bool := decide (lo n X i ≤ hi n X k ∧ lo n X k ≤ hi n X i ∧ lo n Y i ≤ hi n Y k ∧ lo n Y k ≤ hi n Y i)
/-- Two sides that are no neighbours touch. -/
def clash (n : Nat) (X Y : Nat → Int) (i k : Nat) : Bool := decide (((k : Int) + 1) % (n : Int) ≠ (i : Int)) && touF n X Y i k
/-- The error of an outline. -/
def chk (n : Nat) (X Y : Nat → Int) : Int :=
  if ¬ (4 ≤ n ∧ n ≤ 40) then 11 else if allIn n X Y = false then 2 else if ¬ ∀ i, i < n → formOk n X Y i = true then 3
  else if ¬ ∀ i, i < n → ∀ k, k < n → i + 2 ≤ k → clash n X Y i k = false then 12 else if twS n X Y n < 0 then 10 else 0
def rChk : Orc := .res fun l => dI (chk (aN l) (aX l) (aY l))
theorem allIn_inB {n : Nat} {X Y : Nat → Int} (h : allIn n X Y = true) : inB n X ∧ inB n Y := by
  simp only [allIn, decide_eq_true_eq] at h
  refine ⟨fun k hk => ?_, fun k hk => ?_⟩ <;>
  · have := h k hk
    simp [badP, inF] at this
    omega
noncomputable def A67_check_c (n : Nat) (X Y : Nat → Int) : Ann := { orc := [(3, [(1, rAllIn)]), (8, [(2, rDir)]), (9, [(3, rDir)]), (10, [(8, .pos), (10, .pos)]), (19, [(4, .pos), (11, rTouch)]), (22, [(1, rTw)])], loops := [(0, { ι := Nat, keep := [0, 21], boxes := [], ts := fun _ i => [(22, dI (i : Int))], inv := fun _ i => i ≤ n ∧ ∀ j, j < i → formOk n X Y j = true, mu := fun _ i => n - i, rd := fun _ σ => (iOf (σ.get 22)).toNat }),
  (2, { ι := Nat, keep := [0, 53], boxes := [], ts := fun _ i => [(54, dI (i : Int))], inv := fun _ i => i ≤ n ∧ ∀ j, j < i → ∀ k, k < n → j + 2 ≤ k → clash n X Y j k = false, mu := fun _ i => n - i, rd := fun _ σ => (iOf (σ.get 54)).toNat }),
  (4, { ι := Nat, keep := [0, 53, 54, 8], boxes := [], ts := fun _ k => [(9, dI (k : Int))], inv := fun σ k => (iOf (σ.get 8)).toNat + 2 ≤ k ∧ ∀ j, j < k → (iOf (σ.get 8)).toNat + 2 ≤ j → j < n → clash n X Y (iOf (σ.get 8)).toNat j = false, mu := fun _ k => n + 2 - k, rd := fun _ σ => (iOf (σ.get 9)).toNat })], cuts := [] }
theorem check_c (n : Nat) (X Y : Nat → Int) (hn2 : n ≤ 1000000) : FnC prog 61 [pts n X Y] (dI (chk n X Y)) := by
  refine FnC_owed hmix (A67_check_c n X Y) (V := VT.need [ri ((!decide ((n:Int) < 4)) = true), ri ((!decide ((n:Int) < 4)) = true), decide ((n:Int) < 4) = false → (!decide ((n:Int) < 4)) = true] (VT.ite (if decide ((n:Int) < 4) = true then true else decide ((n:Int) > 40)) (VT.done [(11:Int) = chk n X Y]) (VT.need [FnC prog 73 [DV.lst n [fun (i : Nat) => DV.val (Value.int IntKind.i64 (X i)), fun (i : Nat) => DV.val (Value.int IntKind.i64 (Y i))], DV.val (Value.func (Fn.func 74) { toList := [] } { toList := [] })] (DV.val (Value.bool !allIn n X Y))] (VT.ite (!allIn n X Y) (VT.done [(2:Int) = chk n X Y]) (VT.loop Nat (fun (a : Nat) => a ≤ n ∧ ∀ (j : Nat), j < a → formOk n X Y j = true) (0:Int).toNat [(0:Int) = (↑(0:Int).toNat : Int), n = n, ∀ i < n, X i = X i, ∀ i < n, Y i = Y i, (n:Int) = (n:Int)] fun (i : Nat) => VT.ite (decide ((i:Int) < (n:Int))) (VT.need [FnC prog 75 [DV.lst n [fun (i : Nat) => DV.val (Value.int IntKind.i64 (X i)), fun (i : Nat) => DV.val (Value.int IntKind.i64 (Y i))], DV.val (Value.int IntKind.i64 (i:Int))] (DV.tup [DV.val (Value.int IntKind.i64 (dD n X Y (i:Int))), DV.val (Value.bool (dO n X Y (i:Int)))])] (VT.need [i64In ((i:Int) - 1), FnC prog 75 [DV.lst n [fun (i : Nat) => DV.val (Value.int IntKind.i64 (X i)), fun (i : Nat) => DV.val (Value.int IntKind.i64 (Y i))], DV.val (Value.int IntKind.i64 ((i:Int) - 1))] (DV.tup [DV.val (Value.int IntKind.i64 (dD n X Y ((i:Int) - 1))), DV.val (Value.bool (dO n X Y ((i:Int) - 1)))])] (VT.need [ri ((!!dO n X Y (i:Int)) = true), (!dO n X Y (i:Int)) = false → (!!dO n X Y (i:Int)) = true, ri ((!if (!dO n X Y (i:Int)) = true then true else !dO n X Y ((i:Int) - 1)) = true), (!if (!dO n X Y (i:Int)) = true then true else !dO n X Y ((i:Int) - 1)) = true → (0:Int) ≤ dD n X Y (i:Int) ∧ (0:Int) < 2, ri ((!if (!dO n X Y (i:Int)) = true then true else !dO n X Y ((i:Int) - 1)) = true), (!if (!dO n X Y (i:Int)) = true then true else !dO n X Y ((i:Int) - 1)) = true → (0:Int) ≤ dD n X Y ((i:Int) - 1) ∧ (0:Int) < 2, ri ((!if (!dO n X Y (i:Int)) = true then true else !dO n X Y ((i:Int) - 1)) = true), ri ((!if (!dO n X Y (i:Int)) = true then true else !dO n X Y ((i:Int) - 1)) = true), (if (!dO n X Y (i:Int)) = true then true else !dO n X Y ((i:Int) - 1)) = false → (!if (!dO n X Y (i:Int)) = true then true else !dO n X Y ((i:Int) - 1)) = true] (VT.ite (if (if (!dO n X Y (i:Int)) = true then true else !dO n X Y ((i:Int) - 1)) = true then true else dD n X Y (i:Int) % (2:Int) == dD n X Y ((i:Int) - 1) % (2:Int)) (VT.done [(3:Int) = chk n X Y]) (VT.need [i64In ((i:Int) + 1)] (VT.done [(i:Int) + 1 = (↑((i:Int) + 1).toNat : Int), n = n, ∀ i < n, X i = X i, ∀ i < n, Y i = Y i, (n:Int) = (n:Int), Int.toNat ((i:Int) + 1) ≤ n ∧ ∀ (j : Nat), j < ((i:Int) + 1).toNat → formOk n X Y j = true, n - ((i:Int) + 1).toNat < n - i])))))) (VT.loop Nat (fun (a : Nat) => a ≤ n ∧ ∀ (j : Nat), j < a → ∀ (k : Nat), k < n → j + 2 ≤ k → clash n X Y j k = false) (0:Int).toNat [(0:Int) = (↑(0:Int).toNat : Int), n = n, ∀ i < n, X i = X i, ∀ i < n, Y
     i = Y i, (n:Int) = (n:Int)] fun (i_1 : Nat) => VT.ite (decide ((i_1:Int) < (n:Int))) (VT.need [i64In ((i_1:Int) + 2)] (VT.loop Nat (fun (a : Nat) => Int.toNat (i_1:Int) + 2 ≤ a ∧ ∀ (j : Nat), j < a → Int.toNat (i_1:Int) + 2 ≤ j → j < n → clash n X Y (i_1:Int).toNat j = false) ((i_1:Int) + 2).toNat [(i_1:Int) + 2 = (↑((i_1:Int) + 2).toNat : Int), n = n, ∀ i < n, X i = X i, ∀ i < n, Y i = Y i, (n:Int) = (n:Int), (i_1:Int) = (i_1:Int), (i_1:Int) = (i_1:Int)] fun (i_2 : Nat) => VT.ite (decide ((i_2:Int) < (n:Int))) (VT.need [i64In ((i_2:Int) + 1), (0:Int) ≤ (i_2:Int) + 1 ∧ (0:Int) < (n:Int), ri ((((i_2:Int) + 1) % (n:Int) != (i_1:Int)) = true), ri ((((i_2:Int) + 1) % (n:Int) != (i_1:Int)) = true), ri ((((i_2:Int) + 1) % (n:Int) != (i_1:Int)) = true), (((i_2:Int) + 1) % (n:Int) != (i_1:Int)) = true → FnC prog 76 [DV.lst n [fun (i : Nat) => DV.val (Value.int IntKind.i64 (X i)), fun (i : Nat) => DV.val (Value.int IntKind.i64 (Y i))], DV.val (Value.int IntKind.i64 (i_1:Int)), DV.val (Value.int IntKind.i64 (i_2:Int))] (DV.val (Value.bool (decide (lo n X (i_1:Int) ≤ hi n X (i_2:Int) ∧ lo n X (i_2:Int) ≤ hi n X (i_1:Int) ∧ lo n Y (i_1:Int) ≤ hi n Y (i_2:Int) ∧ lo n Y (i_2:Int) ≤ hi n Y (i_1:Int))))), ri ((((i_2:Int) + 1) % (n:Int) != (i_1:Int)) = true)] (VT.ite (if (((i_2:Int) + 1) % (n:Int) != (i_1:Int)) = true then decide (lo n X (i_1:Int) ≤ hi n X (i_2:Int) ∧ lo n X (i_2:Int) ≤ hi n X (i_1:Int) ∧ lo n Y
     (i_1:Int) ≤ hi n Y (i_2:Int) ∧ lo n Y (i_2:Int) ≤ hi n Y (i_1:Int)) else false) (VT.done [(12:Int) = chk n X Y]) (VT.need [i64In ((i_2:Int) + 1)] (VT.done [(i_2:Int) + 1 = (↑((i_2:Int) + 1).toNat : Int), n = n, ∀ i < n, X i = X i, ∀ i < n, Y i = Y i, (n:Int) = (n:Int), (i_1:Int) = (i_1:Int), (i_1:Int) = (i_1:Int), Int.toNat (i_1:Int) + 2 ≤ ((i_2:Int) + 1).toNat ∧ ∀ (j : Nat), j < ((i_2:Int) + 1).toNat → Int.toNat (i_1:Int) + 2 ≤ j → j < n → clash n X Y (i_1:Int).toNat j = false, n + 2 - ((i_2:Int) + 1).toNat < n + 2 - i_2])))) (VT.need [i64In ((i_1:Int) + 1)] (VT.done [(i_1:Int) + 1 = (↑((i_1:Int) + 1).toNat : Int), n = n, ∀ i < n, X i = X i, ∀ i < n, Y i = Y i, (n:Int) = (n:Int), Int.toNat ((i_1:Int) + 1) ≤ n ∧ ∀ (j : Nat), j < ((i_1:Int) + 1).toNat → ∀ (k : Nat), k < n → j + 2 ≤ k → clash n X Y j k = false, n - ((i_1:Int) + 1).toNat < n - i_1])))) (VT.need [FnC prog 40 [DV.lst n [fun (i : Nat) => DV.val (Value.int IntKind.i64 (X i)), fun (i : Nat) => DV.val (Value.int IntKind.i64 (Y i))]] (DV.val (Value.int IntKind.i64 (twS n X Y n)))] (VT.ite (decide (twS n X Y n < 0)) (VT.done [(10:Int) = chk n X Y]) (VT.done [(0:Int) = chk n X Y]))))))))) (by kernel_rfl) ?_
  simp only [VT.holds, AllT, Sq]
  refine ⟨fun h => ?_, fun h => ⟨?_, fun h2 => ?_, fun h2 => ⟨rfl, ⟨Nat.zero_le n, fun j hj => (by omega)⟩, fun i ⟨hi, hf⟩ => ⟨fun hlt => ?_, fun hge => ⟨rfl, ⟨Nat.zero_le n, fun j hj => (by omega)⟩, fun i2 ⟨hi2, hc⟩ => ⟨fun hlt2 => ⟨?_, rfl, ⟨Nat.le_refl _, fun j h1 h2 => (by omega)⟩, fun k ⟨hk, hck⟩ => ⟨fun hkn => ⟨?_, fun hcl => ?_, fun hcl => ?_⟩, fun hkn => ?_⟩⟩, fun hge2 => ⟨?_, fun ht => ?_, fun ht => ?_⟩⟩⟩⟩⟩⟩⟩
  · rw [chk, if_pos (by omega)]
  · obtain ⟨r, hr⟩ := isFirst_exists (badP X Y) n
    exact contains_c n X Y r hn2 hr
  · rw [chk, if_neg (by omega), if_pos h2]
  · have e3 : formOk n X Y i = false → 3 = chk n X Y := fun hx => by
      rw [chk, if_neg (by omega), if_neg (by rw [h2]; simp), if_pos (fun hall => by rw [hall i (by omega)] at hx; cases hx)]
    have := dD_range n X Y i
    have := dD_range n X Y ((i : Int) - 1)
    refine ⟨dir_c n X Y i (by omega) (by omega) (by omega) (by omega), ⟨by unfold i64In; omega, dir_c n X Y (i - 1) (by omega) (by omega) (by omega) (by omega)⟩, ⟨fun _ => by omega, fun _ => by omega⟩, fun hbad => e3 ?_, fun hok => ⟨by unfold i64In; omega, rfl, ⟨by omega, fun j hj => ?_⟩, by omega⟩⟩
    · unfold formOk
      rcases hbad with (hb | hb) | hb <;> simp [hb]
    · by_cases e : j = i
      · subst e
        unfold formOk
        obtain ⟨hk1, hk2⟩ := hok
        simp only [not_or, Bool.not_eq_false] at hk1
        simp [hk1.1, hk1.2, hk2]
      · exact hf j (by omega)
  · unfold i64In; omega
  · refine ⟨by unfold i64In; omega, by omega, fun _ => touch_c n X Y i2 k (by omega) (by omega) (by omega) (by omega) (by omega) (by omega)⟩
  · have hform : ∀ j, j < n → formOk n X Y j = true := fun j hj => hf j (by omega)
    rw [chk, if_neg (by omega), if_neg (by rw [h2]; simp), if_neg (fun hx => hx hform), if_pos (fun hall => ?_)]
    have := hall i2 (by omega) k (by omega) hk
    unfold clash touF at this
    rw [decide_eq_true hcl.1, decide_eq_true hcl.2] at this
    cases this
  · refine ⟨by unfold i64In; omega, rfl, ⟨by omega, fun j h1 h2 h3 => ?_⟩, by omega⟩
    by_cases e : j = k
    · subst e
      unfold clash touF
      rw [Bool.and_eq_false_imp, decide_eq_true_eq, decide_eq_false_iff_not]
      exact hcl
    · exact hck j (by omega) h2 h3
  · refine ⟨by unfold i64In; omega, rfl, ⟨by omega, fun j h1 k' h2 h3 => ?_⟩, by omega⟩
    by_cases e : j = i2
    · subst e; exact hck k' (by omega) h3 h2
    · exact hc j (by omega) k' h2 h3
  · obtain ⟨b1, b2⟩ := allIn_inB h2
    exact twice_c n X Y (by omega) (by omega) b1 b2
  · have hform : ∀ j, j < n → formOk n X Y j = true := fun j hj => hf j (by omega)
    have hcl : ∀ j, j < n → ∀ k, k < n → j + 2 ≤ k → clash n X Y j k = false := fun j hj => hc j (by omega)
    rw [chk, if_neg (by omega), if_neg (by rw [h2]; simp), if_neg (fun hx => hx hform), if_neg (fun hx => hx hcl), if_pos ht]
  · have hform : ∀ j, j < n → formOk n X Y j = true := fun j hj => hf j (by omega)
    have hcl : ∀ j, j < n → ∀ k, k < n → j + 2 ≤ k → clash n X Y j k = false := fun j hj => hc j (by omega)
    rw [chk, if_neg (by omega), if_neg (by rw [h2]; simp), if_neg (fun hx => hx hform), if_neg (fun hx => hx hcl), if_neg ht]
noncomputable def A22_checkOutline_c (n : Nat) (X Y : Nat → Int) : Ann := { orc := [(1, [(1, rChk)])], loops := [], cuts := [] }
theorem checkOutline_c (n : Nat) (X Y : Nat → Int) (hn2 : n ≤ 1000000) : FnC prog 39 [pts n X Y] (dI (chk n X Y)) := by
  refine FnC_owed hmix (A22_checkOutline_c n X Y) (V := VT.need [FnC prog 61 [DV.lst n [fun (i : Nat) => DV.val (Value.int IntKind.i64 (X i)), fun (i : Nat) => DV.val (Value.int IntKind.i64 (Y i))]] (DV.val (Value.int IntKind.i64 (chk n X Y)))] (VT.done [chk n X Y = chk n X Y])) (by kernel_rfl) ?_
  simp only [VT.holds, AllT, Sq]
  exact check_c n X Y hn2
end Go.Abs
end
end
section
set_option linter.unusedVariables false
set_option linter.unusedSimpArgs false
set_option maxRecDepth 100000
namespace Go.Abs
open Go
theorem chk_zero {n : Nat} {X Y : Nat → Int} (h : chk n X Y = 0) : (4 ≤ n ∧ n ≤ 40) ∧ allIn n X Y = true ∧ (∀ i, i < n → formOk n X Y i = true) ∧
    (∀ i, i < n → ∀ k, k < n → i + 2 ≤ k → clash n X Y i k = false) ∧ 0 ≤ twS n X Y n := by
  unfold chk at h
  split at h
  · cases h
  · rename_i h1
    split at h
    · cases h
    · rename_i h2
      split at h
      · cases h
      · rename_i h3
        split at h
        · cases h
        · rename_i h4
          split at h
          · cases h
          · rename_i h5
            exact ⟨Decidable.not_not.1 h1, by simpa using h2, Decidable.not_not.1 h3, Decidable.not_not.1 h4, by omega⟩
theorem chk_inB {n : Nat} {X Y : Nat → Int} (h : chk n X Y = 0) : inB n X ∧ inB n Y := allIn_inB (chk_zero h).2.1
theorem chk_n {n : Nat} {X Y : Nat → Int} (h : chk n X Y = 0) : 4 ≤ n ∧ n ≤ 40 := (chk_zero h).1
/-- A point is on a side; a side is crossed by the ray to the right; how often, by parity. -/
def onS (n : Nat) (X Y : Nat → Int) (p q : Int) (i : Nat) : Bool := decide (lo n X i ≤ p ∧ p ≤ hi n X i ∧ lo n Y i ≤ q ∧ q ≤ hi n Y i)
def crB (n : Nat) (X Y : Nat → Int) (p q : Int) (i : Nat) : Bool := decide (lo n X i = hi n X i ∧ lo n X i > p ∧ lo n Y i ≤ q ∧ q < hi n Y i)
def crs (n : Nat) (X Y : Nat → Int) (p q : Int) : Nat → Bool
  | 0 => false
  | k + 1 => if crB n X Y p q k = true then !(crs n X Y p q k) else crs n X Y p q k
def whF (n : Nat) (X Y : Nat → Int) (p q : Int) : Int := if ¬ ∀ i, i < n → onS n X Y p q i = false then 0 else if crs n X Y p q n = true then 1 else -1
/-- The error of an outline and a place. -/
def whE (n : Nat) (X Y : Nat → Int) (p q : Int) : Int := if chk n X Y ≠ 0 then chk n X Y else if inF p = true ∧ inF q = true then 0 else 2
def whR (n : Nat) (X Y : Nat → Int) (p q : Int) : Int := if whE n X Y p q ≠ 0 then 0 else whF n X Y p q
/-- The square of the distance from a side; the least of the first ones. -/
def ap (p l h : Int) : Int := max (max (l - p) (p - h)) 0
def dst (n : Nat) (X Y : Nat → Int) (p q : Int) (i : Nat) : Int := ap p (lo n X i) (hi n X i) * ap p (lo n X i) (hi n X i) + ap q (lo n Y i) (hi n Y i) * ap q (lo n Y i) (hi n Y i)
def bst (n : Nat) (X Y : Nat → Int) (p q : Int) : Nat → Int
  | 0 => -1
  | k + 1 => if bst n X Y p q k < 0 ∨ dst n X Y p q k < bst n X Y p q k then dst n X Y p q k else bst n X Y p q k
def diR (n : Nat) (X Y : Nat → Int) (p q : Int) : Int := if whE n X Y p q ≠ 0 ∨ whR n X Y p q ≥ 0 then 0 else bst n X Y p q n
def cor (n : Nat) (X Y : Nat → Int) (k : Nat) : Int := if dD n X Y k = (dD n X Y ((k : Int) - 1) + 1) % 4 then 1 else -1
def rWhF : Orc := .res fun l => dI (whF (aN l) (aX l) (aY l) (fI 0 (arg l 1)) (fI 1 (arg l 1)))
def rWh : Orc := .res fun l => .tup [dI (whR (aN l) (aX l) (aY l) (fI 0 (arg l 1)) (fI 1 (arg l 1))), dI (whE (aN l) (aX l) (aY l) (fI 0 (arg l 1)) (fI 1 (arg l 1)))]
def rDi : Orc := .res fun l => .tup [dI (diR (aN l) (aX l) (aY l) (fI 0 (arg l 1)) (fI 1 (arg l 1))), dI (whE (aN l) (aX l) (aY l) (fI 0 (arg l 1)) (fI 1 (arg l 1)))]
def arF (n : Nat) (X Y : Nat → Int) : Int := if chk n X Y ≠ 0 then 0 else twS n X Y n / 2
def rAr : Orc := .res fun l => .tup [dI (arF (aN l) (aX l) (aY l)), dI (chk (aN l) (aX l) (aY l))]
def coN (n : Nat) (X Y : Nat → Int) : Nat := if chk n X Y ≠ 0 then 0 else n
def rCo : Orc := .res fun l => .tup [.lst (coN (aN l) (aX l) (aY l)) [fun k => dI (cor (aN l) (aX l) (aY l) k)], dI (chk (aN l) (aX l) (aY l))]
theorem lo_bd {n : Nat} {X : Nat → Int} (hn : 0 < n) (h : inB n X) (i : Int) : -1000000 ≤ lo n X i ∧ lo n X i ≤ 1000000 := by
  have := h _ (ix_lt (i := i) hn)
  have := h _ (ix_lt (i := i + 1) hn)
  unfold lo; omega
theorem hi_bd {n : Nat} {X : Nat → Int} (hn : 0 < n) (h : inB n X) (i : Int) : -1000000 ≤ hi n X i ∧ hi n X i ≤ 1000000 := by
  have := h _ (ix_lt (i := i) hn)
  have := h _ (ix_lt (i := i + 1) hn)
  unfold hi; omega
theorem ap_bd {p l h : Int} (hp : -1000000 ≤ p ∧ p ≤ 1000000) (hl : -1000000 ≤ l ∧ l ≤ 1000000) (hh : -1000000 ≤ h ∧ h ≤ 1000000) : 0 ≤ ap p l h ∧ (ap p l h * ap p l h).natAbs ≤ 4000000000000 ∧ 0 ≤ ap p l h * ap p l h := by
  have h0 : 0 ≤ ap p l h := by unfold ap; omega
  have h1 : (ap p l h).natAbs ≤ 2000000 := by unfold ap; omega
  exact ⟨h0, mul_bd h1 h1, Int.mul_nonneg h0 h0⟩
noncomputable def A52_where_c (n : Nat) (X Y : Nat → Int) (p q : Int) : Ann := { orc := [(5, [(2, rSpan)])], loops := [(0, { ι := Nat, keep := [0, 3, 10], boxes := [3], ts := fun _ i => [(5, dB (crs n X Y p q i)), (11, dI (i : Int))], inv := fun _ i => i ≤ n ∧ ∀ j, j < i → onS n X Y p q j = false, mu := fun _ i => n - i, rd := fun _ σ => (iOf (σ.get 11)).toNat })], cuts := [] }
theorem where_c (n : Nat) (X Y : Nat → Int) (p q : Int) (hn : 0 < n) (hn2 : n ≤ 800) : FnC prog 65 [pts n X Y, dP p q] (dI (whF n X Y p q)) := by
  refine FnC_owed hmix (A52_where_c n X Y p q) (V := VT.loop Nat (fun (a : Nat) => a ≤ n ∧ ∀ (j : Nat), j < a → onS n X Y p q j = false) (0:Int).toNat [false = false, (0:Int) = (↑(0:Int).toNat : Int), n = n, ∀ i < n, X i = X i, ∀ i < n, Y i = Y i, (n:Int) = (n:Int), p = p, q = q] fun (i : Nat) => VT.ite (decide ((i:Int) < (n:Int))) (VT.need [FnC prog 43 [DV.lst n [fun (i : Nat) => DV.val (Value.int IntKind.i64 (X i)), fun (i : Nat) => DV.val (Value.int IntKind.i64 (Y i))], DV.val (Value.int IntKind.i64 (i:Int))] (DV.tup [DV.val (Value.agg { toList := [Value.int IntKind.i64 (lo n X (i:Int)), Value.int IntKind.i64 (lo n Y (i:Int))] }), DV.val (Value.agg { toList := [Value.int IntKind.i64 (hi n X (i:Int)), Value.int IntKind.i64 (hi n Y (i:Int))] })])] (VT.need [ri (decide (lo n X (i:Int) ≤ p) = true), ri (decide (lo n X (i:Int) ≤ p) = true), ri (decide (lo n X (i:Int) ≤ p) = true), ri (decide (lo n X (i:Int) ≤ p) = true), ri (decide (lo n X (i:Int) ≤ p) = true), ri ((if decide (lo n X (i:Int) ≤ p) = true then decide (p ≤ hi n X (i:Int)) else false) = true), ri ((if decide (lo n X (i:Int) ≤ p) = true then decide (p ≤ hi n X (i:Int)) else false) = true), ri ((if decide (lo n X (i:Int) ≤ p) = true then decide (p ≤ hi n X (i:Int)) else false) = true), ri ((if decide (lo n X (i:Int) ≤ p) = true then decide (p ≤ hi n X (i:Int)) else false) = true), ri ((if decide (lo n X (i:Int) ≤ p) = true then decide (p ≤ hi n X (i:Int)) else false) = true), ri ((if (if decide (lo n X (i:Int) ≤ p) = true then decide (p ≤ hi n X (i:Int)) else false) = true then decide (lo n Y (i:Int) ≤ q) else false) = true), ri ((if (if decide (lo n X (i:Int) ≤ p) = true then decide (p ≤ hi n X (i:Int)) else false) = true then decide (lo n Y (i:Int) ≤ q) else false) = true), ri ((if (if decide (lo n X (i:Int) ≤ p) = true then decide (p ≤ hi n X (i:Int)) else false) = true then decide (lo n Y (i:Int) ≤ q) else false) = true), ri ((if (if decide (lo n X (i:Int) ≤ p) = true then decide (p ≤ hi n X (i:Int)) else false) = true then decide (lo n Y (i:Int) ≤ q) else false) = true), ri ((if (if decide (lo n X (i:Int) ≤ p) = true then decide (p ≤ hi n X (i:Int)) else false) = true then decide (lo n Y (i:Int) ≤ q) else false) = true)] (VT.ite (if (if (if decide (lo n X (i:Int) ≤ p) = true then decide (p ≤ hi n X (i:Int)) else false) = true then decide (lo n Y (i:Int) ≤ q) else false) = true then decide (q ≤ hi n Y (i:Int)) else false) (VT.done [(0:Int) = whF n X
     Y p q]) (VT.need [ri ((lo n X (i:Int) == hi n X (i:Int)) = true), ri ((lo n X (i:Int) == hi n X (i:Int)) = true), ri ((lo n X (i:Int) == hi n X (i:Int)) = true), ri ((lo n X (i:Int) == hi n X (i:Int)) = true), ri ((lo n X (i:Int) == hi n X (i:Int)) = true), ri ((if (lo n X (i:Int) == hi n X (i:Int)) = true then decide (lo n X (i:Int) > p) else false) = true), ri ((if (lo n X (i:Int) == hi n X (i:Int)) = true then decide (lo n X (i:Int) > p) else false) = true), ri ((if (lo n X (i:Int) == hi n X (i:Int)) = true then decide (lo n X (i:Int) > p) else false) = true), ri ((if (lo n X (i:Int) == hi n X (i:Int)) = true then decide (lo n X (i:Int) > p) else false) = true), ri ((if (lo n X (i:Int) == hi n X (i:Int)) = true then decide (lo n X (i:Int) > p) else false) = true), ri ((if (if (lo n X (i:Int) == hi n X (i:Int)) = true then decide (lo n X (i:Int) > p) else false) = true then decide (lo n Y (i:Int) ≤ q) else false) = true), ri ((if (if (lo n X (i:Int) == hi n X (i:Int)) = true then decide (lo n X (i:Int) > p) else false) = true then decide (lo n Y (i:Int) ≤ q) else false) = true), ri ((if (if (lo n X (i:Int) == hi n X (i:Int)) = true then decide (lo n X (i:Int) > p) else false) = true then decide (lo n Y (i:Int) ≤ q) else false) = true), ri ((if (if (lo n X (i:Int) == hi n X (i:Int)) = true then decide (lo n X (i:Int) > p) else false) = true then decide (lo n Y (i:Int) ≤ q) else false) = true), ri ((if (if (lo n X (i:Int) == hi n X (i:Int)) = true then decide (lo n X (i:Int) > p) else false) = true then decide (lo n Y (i:Int) ≤ q) else false) = true)] (VT.ite (if (if (if (lo n X (i:Int) == hi n X (i:Int)) = true then decide (lo n X (i:Int) > p) else false) = true then decide (lo n Y (i:Int) ≤ q) else false) = true then decide (q < hi n Y (i:Int)) else false) (VT.need [i64In ((i:Int) + 1)] (VT.done [(!crs n X Y p q i) = crs n X Y p q ((i:Int) + 1).toNat, (i:Int) + 1 = (↑((i:Int) + 1).toNat : Int), n = n, ∀ i < n, X i = X i, ∀ i < n, Y i = Y i, (n:Int) = (n:Int), p = p, q = q, Int.toNat ((i:Int) + 1) ≤ n ∧ ∀ (j : Nat), j < ((i:Int) + 1).toNat → onS n X Y p q j = false, n - ((i:Int) + 1).toNat < n - i])) (VT.need [i64In
     ((i:Int) + 1)] (VT.done [crs n X Y p q i = crs n X Y p q ((i:Int) + 1).toNat, (i:Int) + 1 = (↑((i:Int) + 1).toNat : Int), n = n, ∀ i < n, X i = X i, ∀ i < n, Y i = Y i, (n:Int) = (n:Int), p = p, q = q, Int.toNat ((i:Int) + 1) ≤ n ∧ ∀ (j : Nat), j < ((i:Int) + 1).toNat → onS n X Y p q j = false, n - ((i:Int) + 1).toNat < n - i]))))))) (VT.ite (crs n X Y p q i) (VT.done [(1:Int) = whF n X Y p q]) (VT.done [(-1:Int) = whF n X Y p q]))) (by kernel_rfl) ?_
  simp only [VT.holds, AllT, Sq]
  refine ⟨rfl, ⟨Nat.zero_le n, fun j hj => (by omega)⟩, fun i ⟨hi, hb⟩ => ⟨fun hlt => ⟨span_c n X Y i hn (by omega) (by omega) (by omega), fun hon => ?_, fun hoff => ?_⟩, fun hge => ?_⟩⟩
  · rw [whF, if_pos (fun hall => ?_)]
    have := hall i (by omega)
    unfold onS at this
    rw [decide_eq_false_iff_not] at this
    exact this (by omega)
  · have hbn : ∀ j, j < i + 1 → onS n X Y p q j = false := fun j hj => by
      by_cases e : j = i
      · subst e
        unfold onS
        rw [decide_eq_false_iff_not]
        omega
      · exact hb j (by omega)
    refine ⟨fun hc => ⟨by unfold i64In; omega, ?_, rfl, ⟨by omega, hbn⟩, by omega⟩, fun hc => ⟨by unfold i64In; omega, ?_, rfl, ⟨by omega, hbn⟩, by omega⟩⟩
    · rw [crs, if_pos]
      unfold crB
      rw [decide_eq_true_eq]; omega
    · rw [crs, if_neg]
      unfold crB
      rw [decide_eq_true_eq]; omega
  · have hall : ∀ j, j < n → onS n X Y p q j = false := fun j hj => hb j (by omega)
    have : i = n := by omega
    subst this
    refine ⟨fun h => ?_, fun h => ?_⟩
    · rw [whF, if_neg (fun hx => hx hall), if_pos h]
    · rw [whF, if_neg (fun hx => hx hall), if_neg (by rw [h]; simp)]
noncomputable def A12_whereTop_c (n : Nat) (X Y : Nat → Int) (p q : Int) : Ann := { orc := [(1, [(1, rChk)]), (4, [(1, rChkP)]), (7, [(2, rWhF)])], loops := [], cuts := [] }
theorem whereTop_c (n : Nat) (X Y : Nat → Int) (p q : Int) (hn2 : n ≤ 1000000) : FnC prog 42 [pts n X Y, dP p q] (.tup [dI (whR n X Y p q), dI (whE n X Y p q)]) := by
  refine FnC_owed hmix (A12_whereTop_c n X Y p q) (V := VT.need [FnC prog 39 [DV.lst n [fun (i : Nat) => DV.val (Value.int IntKind.i64 (X i)), fun (i : Nat) => DV.val (Value.int IntKind.i64 (Y i))]] (DV.val (Value.int IntKind.i64 (chk n X Y)))] (VT.ite (chk n X Y != 0) (VT.done [(0:Int) = whR n X Y p q, chk n X Y = whE n X Y p q]) (VT.need [FnC prog 64 [DV.val (Value.agg { toList := [Value.int IntKind.i64 p, Value.int IntKind.i64 q] })] (DV.val (Value.int IntKind.i64 (if inF p = true ∧ inF q = true then (0:Int) else (2:Int))))] (VT.ite ((if inF p = true ∧ inF q = true then (0:Int) else (2:Int)) != 0) (VT.done [(0:Int) = whR n X Y p q, (if inF p = true ∧ inF q = true then (0:Int) else (2:Int)) = whE n X Y p q]) (VT.need [FnC prog 65 [DV.lst n [fun (i : Nat) => DV.val (Value.int IntKind.i64 (X i)), fun (i : Nat) => DV.val (Value.int IntKind.i64 (Y i))], DV.val (Value.agg { toList := [Value.int IntKind.i64 p, Value.int IntKind.i64 q] })] (DV.val (Value.int IntKind.i64 (whF n X Y p q)))] (VT.done [whF n X Y p q = whR n X Y p q, (0:Int) = whE n X Y p q])))))) (by kernel_rfl) ?_
  simp only [VT.holds, AllT, Sq]
  refine ⟨checkOutline_c n X Y hn2, fun h => ?_, fun h => ⟨checkPoint_c p q, fun h2 => ?_, fun h2 => ⟨?_, ?_, ?_⟩⟩⟩
  · have e : whE n X Y p q = chk n X Y := by rw [whE, if_pos h]
    exact ⟨by rw [whR, if_pos (by rw [e]; exact h)], e.symm⟩
  · have e : whE n X Y p q = if inF p = true ∧ inF q = true then 0 else 2 := by rw [whE, if_neg (by rw [h]; simp)]
    exact ⟨by rw [whR, if_pos (by rw [e]; exact h2)], e.symm⟩
  · have := chk_n h
    exact where_c n X Y p q (by omega) (by omega)
  · have e : whE n X Y p q = if inF p = true ∧ inF q = true then 0 else 2 := by rw [whE, if_neg (by rw [h]; simp)]
    rw [whR, if_neg (by rw [e, h2]; simp)]
  · rw [whE, if_neg (by rw [h]; simp), h2]
noncomputable def A14_dist_c (n : Nat) (X Y : Nat → Int) (p q : Int) : Ann := { orc := [(1, [(2, rWh)]), (8, [(2, rSpan)]), (9, [(6, rApart), (13, rApart)])], loops := [(0, { ι := Nat, keep := [0, 3, 29], boxes := [3], ts := fun _ i => [(8, dI (bst n X Y p q i)), (30, dI (i : Int))], inv := fun _ i => i ≤ n, mu := fun _ i => n - i, rd := fun _ σ => (iOf (σ.get 30)).toNat })], cuts := [] }
theorem dist_c (n : Nat) (X Y : Nat → Int) (p q : Int) (hn2 : n ≤ 1000000) : FnC prog 17 [pts n X Y, dP p q] (.tup [dI (diR n X Y p q), dI (whE n X Y p q)]) := by
  refine FnC_owed hmix (A14_dist_c n X Y p q) (V := VT.need [FnC prog 42 [DV.lst n [fun (i : Nat) => DV.val (Value.int IntKind.i64 (X i)), fun (i : Nat) => DV.val (Value.int IntKind.i64 (Y i))], DV.val (Value.agg { toList := [Value.int IntKind.i64 p, Value.int IntKind.i64 q] })] (DV.tup [DV.val (Value.int IntKind.i64 (whR n X Y p q)), DV.val (Value.int IntKind.i64 (whE n X Y p q))])] (VT.need [ri ((!whE n X Y p q != 0) = true), (whE n X Y p q != 0) = false → (!whE n X Y p q != 0) = true] (VT.ite (if (whE n X Y p q != 0) = true then true else decide (whR n X Y p q ≥ 0)) (VT.done [(0:Int) = diR n X Y p q, whE n X Y p q = whE n X Y p q]) (VT.loop Nat (fun (a : Nat) => a ≤ n) (0:Int).toNat [(-1:Int) = (-1:Int), (0:Int) = (↑(0:Int).toNat : Int), n = n, ∀ i < n, X i = X i, ∀ i < n, Y i = Y i, (n:Int) = (n:Int), p = p, q = q] fun (i : Nat) => VT.ite (decide ((i:Int) < (n:Int))) (VT.need [FnC prog 43 [DV.lst n [fun (i : Nat) => DV.val (Value.int IntKind.i64 (X i)), fun (i : Nat) => DV.val (Value.int IntKind.i64 (Y i))], DV.val (Value.int IntKind.i64 (i:Int))] (DV.tup [DV.val (Value.agg { toList := [Value.int IntKind.i64 (lo n X (i:Int)), Value.int IntKind.i64 (lo n Y (i:Int))] }), DV.val (Value.agg { toList := [Value.int IntKind.i64 (hi n X (i:Int)), Value.int IntKind.i64 (hi n Y (i:Int))] })])] (VT.need [FnC prog 44 [DV.val (Value.int IntKind.i64 p), DV.val (Value.int IntKind.i64 (lo n X (i:Int))), DV.val (Value.int IntKind.i64 (hi n X (i:Int)))] (DV.val (Value.int IntKind.i64 (max (max (lo n X (i:Int) - p) (p - hi n X (i:Int))) (0:Int)))), FnC prog 44 [DV.val (Value.int IntKind.i64 q), DV.val (Value.int IntKind.i64 (lo n Y (i:Int))), DV.val (Value.int IntKind.i64 (hi n Y (i:Int)))] (DV.val (Value.int IntKind.i64 (max (max (lo n Y (i:Int) - q) (q - hi n Y (i:Int))) (0:Int))))] (VT.need [i64In (max (max (lo n X (↑i
     : Int) - p) (p - hi n X (i:Int))) (0:Int) * max (max (lo n X (i:Int) - p) (p - hi n X (i:Int))) (0:Int)), i64In (max (max (lo n Y (i:Int) - q) (q - hi n Y (i:Int))) (0:Int) * max (max (lo n Y (i:Int) - q) (q - hi n Y (i:Int))) (0:Int)), i64In (max (max (lo n X (i:Int) - p) (p - hi n X (i:Int))) (0:Int) * max (max (lo n X (i:Int) - p) (p - hi n X (i:Int))) (0:Int) + max (max (lo n Y (i:Int) - q) (q - hi n Y (i:Int))) (0:Int) * max (max (lo n Y (i:Int) - q) (q - hi n Y (i:Int))) (0:Int))] (VT.need [ri ((!decide (bst n X Y p q i < 0)) = true), ri ((!decide (bst n X Y p q i < 0)) = true), decide (bst n X Y p q i < 0) = false → (!decide (bst n X Y p q i < 0)) = true] (VT.ite (if decide (bst n X Y p q i < 0) = true then true else decide (max (max (lo n X (i:Int) - p) (p - hi n X (i:Int))) (0:Int) * max (max (lo n X (i:Int) - p) (p - hi n X (i:Int))) (0:Int) + max (max (lo n Y (i:Int) - q) (q - hi n Y (i:Int))) (0:Int) * max (max (lo n Y (i:Int) - q) (q - hi n Y (i:Int))) (0:Int) < bst n X Y p q i)) (VT.need [i64In ((i:Int) + 1)] (VT.done [max (max (lo n X (i:Int) - p) (p - hi n X (i:Int))) (0:Int) * max (max (lo n X (i:Int) - p) (p - hi n X (i:Int))) (0:Int) + max (max (lo n Y (i:Int) - q) (q - hi n Y (i:Int))) (0:Int) * max (max (lo n Y (i:Int) - q) (q - hi n Y (i:Int))) (0:Int) = bst n X Y p q ((i:Int) + 1).toNat, (i:Int) + 1 = (↑((i:Int) + 1).toNat : Int), n = n, ∀ i < n, X i = X i, ∀ i < n, Y i = Y i, (n:Int) = (n:Int), p = p, q = q, Int.toNat ((i:Int) + 1) ≤ n, n - ((i:Int) + 1).toNat < n - i])) (VT.need [i64In ((i:Int) + 1)] (VT.done [bst n X Y p q i = bst n X Y p q ((i:Int) + (1 :
     Int)).toNat, (i:Int) + 1 = (↑((i:Int) + 1).toNat : Int), n = n, ∀ i < n, X i = X i, ∀ i < n, Y i = Y i, (n:Int) = (n:Int), p = p, q = q, Int.toNat ((i:Int) + 1) ≤ n, n - ((i:Int) + 1).toNat < n - i]))))))) (VT.done [bst n X Y p q i = diR n X Y p q, (0:Int) = whE n X Y p q]))))) (by kernel_rfl) ?_
  simp only [VT.holds, AllT, Sq]
  refine ⟨whereTop_c n X Y p q hn2, fun h => ?_, fun h => ⟨rfl, Nat.zero_le n, fun i hin => ?_⟩⟩
  · rw [diR, if_pos h]
  · have h0 : whE n X Y p q = 0 := Decidable.not_not.1 h.1
    have hchk : chk n X Y = 0 := by
      unfold whE at h0
      split at h0
      · rename_i hx; exact absurd h0 hx
      · rename_i hx; exact Decidable.not_not.1 hx
    have hpq : inF p = true ∧ inF q = true := by
      unfold whE at h0
      rw [if_neg (by rw [hchk]; simp)] at h0
      split at h0
      · assumption
      · cases h0
    simp only [inF, decide_eq_true_eq] at hpq
    obtain ⟨hX, hY⟩ := chk_inB hchk
    have hn := chk_n hchk
    have l1 := lo_bd (by omega) hX i
    have l2 := lo_bd (by omega) hY i
    have u1 := hi_bd (by omega) hX i
    have u2 := hi_bd (by omega) hY i
    have a1 := ap_bd hpq.1 l1 u1
    have a2 := ap_bd hpq.2 l2 u2
    refine ⟨fun hlt => ⟨span_c n X Y i (by omega) (by omega) (by omega) (by omega), ⟨apart_c p _ _ (by omega) (by omega) (by omega), apart_c q _ _ (by omega) (by omega) (by omega)⟩, ?_⟩, fun hge => ⟨?_, h0.symm⟩⟩
    · show (i64In (ap p (lo n X i) (hi n X i) * ap p (lo n X i) (hi n X i)) ∧ i64In (ap q (lo n Y i) (hi n Y i) * ap q (lo n Y i) (hi n Y i)) ∧ i64In (dst n X Y p q i)) ∧
        (bst n X Y p q i < 0 ∨ dst n X Y p q i < bst n X Y p q i → _ ∧ dst n X Y p q i = _ ∧ _) ∧ (¬bst n X Y p q i < 0 ∧ ¬dst n X Y p q i < bst n X Y p q i → _)
      refine ⟨?_, fun hs => ⟨by unfold i64In; omega, ?_, rfl, by omega, by omega⟩, fun hs => ⟨by unfold i64In; omega, ?_, rfl, by omega, by omega⟩⟩
      · unfold dst i64In
        omega
      · rw [bst, if_pos hs]
      · rw [bst, if_neg (by omega)]
    · have : i = n := by omega
      rw [this, diR, if_neg (by omega)]
noncomputable def A19_area_c (n : Nat) (X Y : Nat → Int) : Ann := { orc := [(1, [(1, rChk)]), (4, [(1, rTw), (2, .pos)])], loops := [], cuts := [] }
theorem area_c (n : Nat) (X Y : Nat → Int) (hn2 : n ≤ 1000000) : FnC prog 14 [pts n X Y] (.tup [dI (arF n X Y), dI (chk n X Y)]) := by
  refine FnC_owed hmix (A19_area_c n X Y) (V := VT.need [FnC prog 39 [DV.lst n [fun (i : Nat) => DV.val (Value.int IntKind.i64 (X i)), fun (i : Nat) => DV.val (Value.int IntKind.i64 (Y i))]] (DV.val (Value.int IntKind.i64 (chk n X Y)))] (VT.ite (chk n X Y != 0) (VT.done [(0:Int) = arF n X Y, chk n X Y = chk n X Y]) (VT.need [FnC prog 40 [DV.lst n [fun (i : Nat) => DV.val (Value.int IntKind.i64 (X i)), fun (i : Nat) => DV.val (Value.int IntKind.i64 (Y i))]] (DV.val (Value.int IntKind.i64 (twS n X Y n))), (0:Int) ≤ twS n X Y n ∧ (0:Int) < 2 ∧ twS n X Y n ≤ 9223372036854775807] (VT.done [twS n X Y n / (2:Int) = arF n X Y, (0:Int) = chk n X Y])))) (by kernel_rfl) ?_
  simp only [VT.holds, AllT, Sq]
  refine ⟨checkOutline_c n X Y hn2, fun h => by rw [arF, if_pos h], fun h => ?_⟩
  have hn := chk_n h
  obtain ⟨hX, hY⟩ := chk_inB h
  have h5 := (chk_zero h).2.2.2.2
  have := twS_bd (by omega) hX hY n
  exact ⟨⟨twice_c n X Y (by omega) (by omega) hX hY, h5, by omega, by omega⟩, by rw [arF, if_neg (by rw [h]; simp)], h.symm⟩
noncomputable def A21_corners_c (n : Nat) (X Y : Nat → Int) : Ann := { orc := [(1, [(1, rChk)]), (9, [(2, rOuter)])], loops := [(0, { ι := Nat, keep := [0, 14], boxes := [], ts := fun _ i => [(15, dI (i : Int))], rw := fun _ i => [(5, 1, i, [fun k => dI (cor n X Y k)])], inv := fun _ i => i ≤ n, mu := fun _ i => n - i, rd := fun _ σ => (iOf (σ.get 15)).toNat })], cuts := [] }
theorem corners_c (n : Nat) (X Y : Nat → Int) (hn2 : n ≤ 1000000) : FnC prog 16 [pts n X Y] (.tup [.lst (coN n X Y) [fun k => dI (cor n X Y k)], dI (chk n X Y)]) := by
  refine FnC_owed hmix (A21_corners_c n X Y) (V := VT.need [FnC prog 39 [DV.lst n [fun (i : Nat) => DV.val (Value.int IntKind.i64 (X i)), fun (i : Nat) => DV.val (Value.int IntKind.i64 (Y i))]] (DV.val (Value.int IntKind.i64 (chk n X Y)))] (VT.ite (chk n X Y != 0) (VT.done [coN n X Y = 0, chk n X Y = chk n X Y]) (VT.loop Nat (fun (a : Nat) => a ≤ n) (0:Int).toNat [(0:Int) = (↑(0:Int).toNat : Int), (0:Nat) = 0, Int.toNat (0:Int) = 0, n = n, ∀ i < n, X i = X i, ∀ i < n, Y i = Y i, (n:Int) = (n:Int), Int.toNat (0:Int) = 0] fun (i : Nat) => VT.ite (decide ((i:Int) < (n:Int))) (VT.need [FnC prog 41 [DV.lst n [fun (i : Nat) => DV.val (Value.int IntKind.i64 (X i)), fun (i : Nat) => DV.val (Value.int IntKind.i64 (Y i))], DV.val (Value.int IntKind.i64 (i:Int))] (DV.val (Value.bool (decide (dD n X Y (i:Int) = (dD n X Y ((i:Int) - 1) + 1) % (4:Int)))))] (VT.ite (decide (dD n X Y (i:Int) = (dD n X Y ((i:Int) - 1) + 1) % (4:Int))) (VT.need [i ≤ i, (i + 1) * (nat_lit 7 + 1) ≤ 140737488355328, (1:Nat) ≤ 1] (VT.need [i64In ((i:Int) + 1)] (VT.done [(i:Int) + 1 = (↑((i:Int) + 1).toNat : Int), (0:Nat) = 0, i + 1 = ((i:Int) + 1).toNat, n = n, ∀ i < n, X i = X i, ∀ i < n, Y i = Y i, (n:Int) = (n:Int), i + 1 = ((i:Int) + 1).toNat, ∀ i_1 < ((i:Int) + 1).toNat, (if decide (i_1 < i) = true then cor n X Y i_1 else (1:Int)) = cor n X Y i_1, Int.toNat ((i:Int) + 1) ≤ n, n - ((i:Int) + 1).toNat < n - i]))) (VT.need [i ≤ i, (i + 1) * (nat_lit 7 + 1) ≤ 140737488355328, (1:Nat) ≤ 1] (VT.need [i64In ((i:Int) + 1)] (VT.done [(i:Int) + 1 = (↑((i:Int) + 1).toNat : Int), (0:Nat) = 0, i + (1
     : Nat) = ((i:Int) + 1).toNat, n = n, ∀ i < n, X i = X i, ∀ i < n, Y i = Y i, (n:Int) = (n:Int), i + 1 = ((i:Int) + 1).toNat, ∀ i_1 < ((i:Int) + 1).toNat, (if decide (i_1 < i) = true then cor n X Y i_1 else (-1:Int)) = cor n X Y i_1, Int.toNat ((i:Int) + 1) ≤ n, n - ((i:Int) + 1).toNat < n - i]))))) (VT.done [i ≤ i, i = coN n X Y, ∀ i < coN n X Y, cor n X Y i = cor n X Y i, (0:Int) = chk n X Y])))) (by kernel_rfl) ?_
  simp only [VT.holds, AllT, Sq]
  refine ⟨checkOutline_c n X Y hn2, fun h => by rw [coN, if_pos h], fun h => ⟨rfl, Nat.zero_le n, fun i hin => ⟨fun hlt => ?_, fun hge => ⟨Nat.le_refl i, ?_, h.symm⟩⟩⟩⟩
  · have hn := chk_n h
    have last : ∀ s : Int, s = cor n X Y i → ∀ k, k < i + 1 → (if k < i then cor n X Y k else s) = cor n X Y k := fun s hs k hk => by
      by_cases e : k < i
      · rw [if_pos e]
      · have : k = i := by omega
        subst this
        rw [if_neg e, hs]
    refine ⟨outer_c n X Y i (by omega) (by omega) (by omega) (by omega), fun ho => ⟨⟨Nat.le_refl i, by omega, Nat.le_refl 1⟩, by unfold i64In; omega, rfl, last 1 (by rw [cor, if_pos ho]), by omega, by omega⟩, fun ho => ⟨⟨Nat.le_refl i, by omega, Nat.le_refl 1⟩, by unfold i64In; omega, rfl, last (-1) (by rw [cor, if_neg ho]), by omega, by omega⟩⟩
  · rw [coN, if_neg (by rw [h]; simp)]
    omega
end Go.Abs
end
