/- Contracts. -/
import Derived.Test.YtcgfcahljfmipaaDoorK1
set_option linter.unusedVariables false
set_option linter.unusedSimpArgs false
set_option maxRecDepth 100000
namespace Go.Abs
open Go
/-- Twice the area, over the first k sides. -/
def twS (n : Nat) (X Y : Nat → Int) : Nat → Int
  | 0 => 0
  | k + 1 => twS n X Y k + (X (ix n k) * Y (ix n (k + 1)) - X (ix n (k + 1)) * Y (ix n k))
theorem mul_bd {a b : Int} {A B : Nat} (ha : a.natAbs ≤ A) (hb : b.natAbs ≤ B) : (a * b).natAbs ≤ A * B := by
  rw [Int.natAbs_mul]; exact Nat.mul_le_mul ha hb
theorem inB_abs {n : Nat} {X : Nat → Int} (h : inB n X) {k : Nat} (hk : k < n) : (X k).natAbs ≤ 1000000 := by
  have := h k hk; omega
theorem tw_term {n : Nat} {X Y : Nat → Int} (hn : 0 < n) (hX : inB n X) (hY : inB n Y) (i j : Int) : (X (ix n i) * Y (ix n j)).natAbs ≤ 1000000000000 :=
  mul_bd (A := 1000000) (B := 1000000) (inB_abs hX (ix_lt hn)) (inB_abs hY (ix_lt hn))
theorem twS_bd {n : Nat} {X Y : Nat → Int} (hn : 0 < n) (hX : inB n X) (hY : inB n Y) : ∀ k, (twS n X Y k).natAbs ≤ 2000000000000 * k
  | 0 => by simp [twS]
  | k + 1 => by
    have := twS_bd hn hX hY k
    have := tw_term hn hX hY k (k + 1)
    have := tw_term hn hX hY (k + 1) k
    simp only [twS]
    omega
theorem toNat_succ (i : Nat) : Int.toNat ((i : Int) + 1) = i + 1 := by omega
theorem toNat_add2 (i : Nat) : Int.toNat ((i : Int) + 2) = i + 2 := by omega
theorem toNat_zero' : Int.toNat (0:Int) = 0 := rfl
/-- r is the first number below n at which p holds, or -1. -/
def IsFirst (p : Nat → Bool) (n : Nat) (r : Int) : Prop := (r = -1 ∧ ∀ j, j < n → p j = false) ∨ ∃ i : Nat, i < n ∧ r = i ∧ p i = true ∧ ∀ j, j < i → p j = false
theorem isFirst_exists (p : Nat → Bool) (n : Nat) : ∃ r, IsFirst p n r := by
  induction n with
  | zero => exact ⟨-1, .inl ⟨rfl, fun j h => by omega⟩⟩
  | succ n ih =>
    obtain ⟨r, ⟨h1, h2⟩ | ⟨i, h1, h2, h3, h4⟩⟩ := ih
    · cases hp : p n with
      | true => exact ⟨n, .inr ⟨n, by omega, rfl, hp, h2⟩⟩
      | false =>
        refine ⟨-1, .inl ⟨rfl, fun j h => ?_⟩⟩
        by_cases e : j = n
        · rw [e]; exact hp
        · exact h2 j (by omega)
    · exact ⟨r, .inr ⟨i, by omega, h2, h3, h4⟩⟩
/-- A place is out of range. -/
def badP (X Y : Nat → Int) (k : Nat) : Bool := !(inF (X k) && inF (Y k))
def allIn (n : Nat) (X Y : Nat → Int) : Bool := decide (∀ k, k < n → badP X Y k = false)
def rTw : Orc := .res fun l => dI (twS (aN l) (aX l) (aY l) (aN l))
def rAllIn : Orc := .res fun l => dB (!(allIn (aN l) (aX l) (aY l)))
noncomputable def A62_twice_c (n : Nat) (X Y : Nat → Int) : Ann := { orc := [(5, [(2, rAt), (6, rAt)])], loops := [(0, { ι := Nat, keep := [0, 8], boxes := [], ts := fun _ i => [(3, dI (twS n X Y i)), (9, dI (i : Int))], inv := fun _ i => i ≤ n, mu := fun _ i => n - i, rd := fun _ σ => (iOf (σ.get 9)).toNat })], cuts := [] }
theorem twice_c (n : Nat) (X Y : Nat → Int) (hn : 0 < n) (hn2 : n ≤ 800) (hX : inB n X) (hY : inB n Y) : FnC prog 45 [pts n X Y] (dI (twS n X Y n)) := by
  refine FnC_owed hmix (A62_twice_c n X Y) (V := VT.loop Nat (fun (a : Nat) => a ≤ n) (0:Int).toNat [(0:Int) = 0, (0:Int) = (↑(0:Int).toNat : Int), n = n, ∀ i < n, X i = X i, ∀ i < n, Y i = Y i, (n:Int) = (n:Int)] fun (i : Nat) => VT.ite (decide ((i:Int) < (n:Int))) (VT.need [FnC prog 46 [DV.lst n [fun (i : Nat) => DV.val (Value.int IntKind.i64 (X i)), fun (i : Nat) => DV.val (Value.int IntKind.i64 (Y i))], DV.val (Value.int IntKind.i64 (i:Int))] (DV.val (Value.agg { toList := [Value.int IntKind.i64 (X (ix n (i:Int))), Value.int IntKind.i64 (Y (ix n (i:Int)))] })), i64In ((i:Int) + 1), FnC prog 46 [DV.lst n [fun (i : Nat) => DV.val (Value.int IntKind.i64 (X i)), fun (i : Nat) => DV.val (Value.int IntKind.i64 (Y i))], DV.val (Value.int IntKind.i64 ((i:Int) + 1))] (DV.val (Value.agg { toList := [Value.int IntKind.i64 (X (ix n ((i:Int) + 1))), Value.int IntKind.i64 (Y (ix n ((i:Int) + 1)))] }))] (VT.need [i64In (X (ix n (i:Int)) * Y (ix n ((i:Int) + 1))), i64In (X (ix n ((i:Int) + 1)) * Y (ix n (i:Int))), i64In (X (ix n (i:Int)) * Y (ix n ((i:Int) + 1)) - X (ix n ((i:Int) + 1)) * Y (ix n (i:Int))), i64In (twS n X Y i + (X (ix n (i:Int)) * Y (ix n ((i:Int) + 1)) - X (ix n ((i:Int) + 1)) * Y (ix n (i:Int))))] (VT.need [i64In ((i:Int) + 1)] (VT.done [twS n X Y i + (X (ix n (i:Int)) * Y (ix n ((i:Int) + 1)) - X (ix n ((i:Int) + 1)) * Y (ix n (i:Int))) = twS n X Y ((i:Int) + 1).toNat, (i:Int) + 1 = (↑((i:Int) + 1).toNat : Int), n = n, ∀ i < n, X i = X i, ∀ i < n, Y i = Y i, (n:Int) = (n:Int), Int.toNat ((i:Int) + 1) ≤ n, n - ((i:Int) + 1).toNat < n - i])))) (VT.done [twS n X Y i = twS n X Y n])) (by kernel_rfl) ?_
  simp only [VT.holds, AllT, implies_true, and_true, true_and, toNat_succ, toNat_zero', decide_eq_true_eq, decide_eq_false_iff_not]
  refine ⟨rfl, Nat.zero_le n, fun i hi => ⟨fun h => ?_, fun h => ?_⟩⟩
  · have b1 := tw_term hn hX hY i (i + 1)
    have b2 := tw_term hn hX hY (i + 1) i
    have b3 := twS_bd hn hX hY i
    simp only [i64In]
    refine ⟨⟨at_c n X Y i hn (by omega) (by omega) (by omega), by omega, at_c n X Y (i + 1) hn (by omega) (by omega) (by omega)⟩, ⟨by omega, by omega, by omega, by omega⟩, by omega, rfl, rfl, by omega, by omega⟩
  · have : i = n := by omega
    rw [this]
noncomputable def A64_length_c (n : Nat) (X Y : Nat → Int) (i : Int) : Ann := { orc := [(1, [(2, rAt), (6, rAt)]), (2, [(5, rAbs), (11, rAbs)])], loops := [], cuts := [] }
theorem length_c (n : Nat) (X Y : Nat → Int) (i : Int) (hn : 0 < n) (hn2 : n ≤ 1000) (h1 : -(n : Int) ≤ i) (h2 : i ≤ 900) (hX : inB n X) (hY : inB n Y) : FnC prog 25 [pts n X Y, dI i] (dI (((X (ix n (i + 1)) - X (ix n i)).natAbs : Int) + ((Y (ix n (i + 1)) - Y (ix n i)).natAbs : Int))) := by
  refine FnC_owed hmix (A64_length_c n X Y i) (V := VT.need [FnC prog 46 [DV.lst n [fun (i : Nat) => DV.val (Value.int IntKind.i64 (X i)), fun (i : Nat) => DV.val (Value.int IntKind.i64 (Y i))], DV.val (Value.int IntKind.i64 i)] (DV.val (Value.agg { toList := [Value.int IntKind.i64 (X (ix n i)), Value.int IntKind.i64 (Y (ix n i))] })), i64In (i + 1), FnC prog 46 [DV.lst n [fun (i : Nat) => DV.val (Value.int IntKind.i64 (X i)), fun (i : Nat) => DV.val (Value.int IntKind.i64 (Y i))], DV.val (Value.int IntKind.i64 (i + 1))] (DV.val (Value.agg { toList := [Value.int IntKind.i64 (X (ix n (i + 1))), Value.int IntKind.i64 (Y (ix n (i + 1)))] }))] (VT.need [i64In (X (ix n (i + 1)) - X (ix n i)), FnC prog 47 [DV.val (Value.int IntKind.i64 (X (ix n (i + 1)) - X (ix n i)))] (DV.val (Value.int IntKind.i64 (↑(Int.natAbs (X (ix n (i + 1)) - X (ix n i))) : Int))), i64In (Y (ix n (i + 1)) - Y (ix n i)), FnC prog 47 [DV.val (Value.int IntKind.i64 (Y (ix n (i + 1)) - Y (ix n i)))] (DV.val (Value.int IntKind.i64 (↑(Int.natAbs (Y (ix n (i + 1)) - Y (ix n i))) : Int))), i64In ((↑(Int.natAbs (X (ix n (i + 1)) - X (ix n i))) : Int) + (↑(Int.natAbs (Y (ix n (i + 1)) - Y (ix n i))) : Int))] (VT.done [(↑(Int.natAbs (X (ix n (i + 1)) - X (ix n i))) : Int) + (↑(Int.natAbs (Y (ix n (i + 1)) - Y (ix n i))) : Int) = (↑(Int.natAbs (X (ix n (i + 1)) - X (ix n i))) : Int) + (↑(Int.natAbs (Y (ix n (i + 1)) - Y (ix n i))) : Int)]))) (by kernel_rfl) ?_
  simp only [VT.holds, AllT, i64In]
  have a1 := inB_abs hX (ix_lt (i := i) hn)
  have a2 := inB_abs hX (ix_lt (i := i + 1) hn)
  have a3 := inB_abs hY (ix_lt (i := i) hn)
  have a4 := inB_abs hY (ix_lt (i := i + 1) hn)
  refine ⟨⟨at_c n X Y i hn hn2 h1 (by omega), by omega, at_c n X Y (i + 1) hn hn2 (by omega) (by omega)⟩, ⟨by omega, abs_c _ (by omega), by omega, abs_c _ (by omega), by omega⟩, trivial⟩
noncomputable def A99_index_c (n : Nat) (X Y : Nat → Int) (r : Int) : Ann := { orc := [(4, [(5, rBad)])], loops := [(0, { ι := Nat, keep := [0, 1, 7], boxes := [], ts := fun _ i => [(8, dI (i : Int))], inv := fun _ i => i ≤ n ∧ ∀ j, j < i → badP X Y j = false, mu := fun _ i => n - i, rd := fun _ σ => (iOf (σ.get 8)).toNat })], cuts := [] }
theorem index_c (n : Nat) (X Y : Nat → Int) (r : Int) (hn2 : n ≤ 1000000) (h : IsFirst (badP X Y) n r) : FnC prog 55 [pts n X Y, .val (.func (.func 50) #[] #[])] (dI r) := by
  refine FnC_owed hmix (A99_index_c n X Y r) (V := VT.loop Nat (fun (a : Nat) => a ≤ n ∧ ∀ (j : Nat), j < a → badP X Y j = false) (0:Int).toNat [(0:Int) = (↑(0:Int).toNat : Int), n = n, ∀ i < n, X i = X i, ∀ i < n, Y i = Y i, Value.func (Fn.func (50 : FuncId)) { toList := [] } { toList := [] } = Value.func (Fn.func (50 : FuncId)) { toList := [] } { toList := [] }, (n:Int) = (n:Int)] fun (i : Nat) => VT.ite (decide ((i:Int) < (n:Int))) (VT.need [(0:Int) ≤ (i:Int) ∧ (i:Int) < (n:Int), FnC prog (50 : FuncId) [DV.val (Value.agg { toList := [Value.int IntKind.i64 (X (i:Int).toNat), Value.int IntKind.i64 (Y (i:Int).toNat)] })] (DV.val (Value.bool !(inF (X (i:Int).toNat) && inF (Y (i:Int).toNat))))] (VT.ite (!(inF (X (i:Int).toNat) && inF (Y (i:Int).toNat))) (VT.done [(i:Int) = r]) (VT.need [i64In ((i:Int) + 1)] (VT.done [(i:Int) + 1 = (↑((i:Int) + 1).toNat : Int), n = n, ∀ i < n, X i = X i, ∀ i < n, Y i = Y i, Value.func (Fn.func (50 : FuncId)) { toList := [] } { toList := [] } = Value.func (Fn.func (50 : FuncId)) { toList := [] } { toList := [] }, (n:Int) = (n:Int), Int.toNat ((i:Int) + 1) ≤ n ∧ ∀ (j : Nat), j < ((i:Int) + 1).toNat → badP X Y j = false, n - ((i:Int) + 1).toNat < n - i])))) (VT.done [(-1:Int) = r])) (by kernel_rfl) ?_
  simp only [VT.holds, AllT, implies_true, and_true, true_and, toNat_succ, toNat_zero', decide_eq_true_eq, decide_eq_false_iff_not, Int.toNat_natCast]
  refine ⟨rfl, ⟨Nat.zero_le n, fun j hj => by omega⟩, fun i ⟨hi, hb⟩ => ⟨fun hlt => ⟨⟨by omega, bad_c _ _⟩, fun hbad => ?_, fun hok => ⟨by unfold i64In; omega, rfl, ⟨by omega, fun j hj => ?_⟩, by omega⟩⟩, fun hge => ?_⟩⟩
  · rcases h with ⟨h1, h2⟩ | ⟨k, h1, h2, h3, h4⟩
    · have := h2 i (by omega)
      rw [badP, hbad] at this; cases this
    · rcases Nat.lt_trichotomy i k with hk | hk | hk
      · have := h4 i hk
        rw [badP, hbad] at this; cases this
      · rw [h2, hk]
      · have := hb k hk
        rw [h3] at this; cases this
  · by_cases e : j = i
    · rw [e]; exact hok
    · exact hb j (by omega)
  · rcases h with ⟨h1, h2⟩ | ⟨k, h1, h2, h3, h4⟩
    · rw [h1]
    · have := hb k (by omega)
      rw [h3] at this; cases this
noncomputable def A92_contains_c (n : Nat) (X Y : Nat → Int) (r : Int) : Ann := { orc := [(1, [(2, .res fun _ => dI r)])], loops := [], cuts := [] }
theorem contains_c (n : Nat) (X Y : Nat → Int) (r : Int) (hn2 : n ≤ 1000000) (h : IsFirst (badP X Y) n r) : FnC prog 49 [pts n X Y, .val (.func (.func 50) #[] #[])] (dB (!(allIn n X Y))) := by
  refine FnC_owed hmix (A92_contains_c n X Y r) (V := VT.need [FnC prog 55 [DV.lst n [fun (i : Nat) => DV.val (Value.int IntKind.i64 (X i)), fun (i : Nat) => DV.val (Value.int IntKind.i64 (Y i))], DV.val (Value.func (Fn.func (50 : FuncId)) { toList := [] } { toList := [] })] (DV.val (Value.int IntKind.i64 r))] (VT.done [decide (r ≥ 0) = !allIn n X Y])) (by kernel_rfl) ?_
  simp only [VT.holds, AllT]
  refine ⟨index_c n X Y r hn2 h, ?_⟩
  unfold allIn
  rcases h with ⟨h1, h2⟩ | ⟨i, h1, h2, h3, h4⟩
  · rw [decide_eq_true h2, h1]; rfl
  · have hf : ¬ ∀ k, k < n → badP X Y k = false := fun h => by rw [h i h1] at h3; cases h3
    rw [decide_eq_false hf, h2]; simp
end Go.Abs
