/- Contracts. Contracts. -/
import Derived.Test.YteennpofimiliaaGreatDoorK1
section
set_option linter.unusedVariables false
set_option linter.unusedSimpArgs false
set_option maxRecDepth 100000
namespace Go.Abs
open Go
def twS (n : Nat) (X Y : Nat → Int) : Nat → Int
  | 0 => 0
  | k + 1 => twS n X Y k + (X (ix n k) * Y (ix n (k + 1)) - X (ix n (k + 1)) * Y (ix n k))
theorem mul_bd {a b : Int} {A B : Nat} (ha : a.natAbs ≤ A) (hb : b.natAbs ≤ B) : (a * b).natAbs ≤ A * B := by
  rw [Int.natAbs_mul]; exact Nat.mul_le_mul ha hb
theorem inB_abs {n : Nat} {X : Nat → Int} (h : inB n X) {k : Nat} (hk : k < n) : (X k).natAbs ≤ 1000000 := by
  have := h k hk; omega
theorem tw_term {n : Nat} {X Y : Nat → Int} (hn : 0 < n) (hX : inB n X) (hY : inB n Y) (i j : Int) : (X (ix n i) * Y (ix n j)).natAbs ≤ 1000000000000 :=
  mul_bd (A := 1000000) (B := 1000000) (inB_abs hX (ix_lt hn)) (inB_abs hY (ix_lt hn))
theorem twS_bd {n : Nat} {X Y : Nat → Int} (hn : 0 < n) (hX : inB n X) (hY : inB n Y) : ∀ k, (twS n X Y k).natAbs ≤ 2000000000000 * k
  | 0 => by simp [twS]
  | k + 1 => by
    have := twS_bd hn hX hY k
    have := tw_term hn hX hY k (k + 1)
    have := tw_term hn hX hY (k + 1) k
    simp only [twS]
    omega
theorem toNat_succ (i : Nat) : Int.toNat ((i : Int) + 1) = i + 1 := by omega
theorem toNat_add2 (i : Nat) : Int.toNat ((i : Int) + 2) = i + 2 := by omega
theorem toNat_zero' : Int.toNat (0:Int) = 0 := rfl
def IsFirst (p : Nat → Bool) (n : Nat) (r : Int) : Prop := (r = -1 ∧ ∀ j, j < n → p j = false) ∨ ∃ i : Nat, i < n ∧ r = i ∧ p i = true ∧ ∀ j, j < i → p j = false
theorem isFirst_exists (p : Nat → Bool) (n : Nat) : ∃ r, IsFirst p n r := by
  induction n with
  | zero => exact ⟨-1, .inl ⟨rfl, fun j h => by omega⟩⟩
  | succ n ih =>
    obtain ⟨r, ⟨h1, h2⟩ | ⟨i, h1, h2, h3, h4⟩⟩ := ih
    · cases hp : p n with
      | true => exact ⟨n, .inr ⟨n, by omega, rfl, hp, h2⟩⟩
      | false =>
        refine ⟨-1, .inl ⟨rfl, fun j h => ?_⟩⟩
        by_cases e : j = n
        · rw [e]; exact hp
        · exact h2 j (by omega)
    · exact ⟨r, .inr ⟨i, by omega, h2, h3, h4⟩⟩
def badP (X Y : Nat → Int) (k : Nat) : Bool := !(inF (X k) && inF (Y k))
def allIn (n : Nat) (X Y : Nat → Int) : Bool := decide (∀ k, k < n → badP X Y k = false)
def rTw : Orc := .res fun l => dI (twS (aN l) (aX l) (aY l) (aN l))
def rLen : Orc := .res fun l => dI (((aX l (ix (aN l) (aI l 1 + 1)) - aX l (ix (aN l) (aI l 1))).natAbs : Int) + ((aY l (ix (aN l) (aI l 1 + 1)) - aY l (ix (aN l) (aI l 1))).natAbs : Int))
def rAllIn : Orc := .res fun l => dB (!(allIn (aN l) (aX l) (aY l)))
noncomputable def A62_twice_c (n : Nat) (X Y : Nat → Int) : Ann := { orc := [(5, [(2, rAt), (6, rAt)])], loops := [(0, { ι := Nat, keep := [0, 8], boxes := [], ts := fun _ i => [(3, dI (twS n X Y i)), (9, dI (i : Int))], inv := fun _ i => i ≤ n, mu := fun _ i => n - i, rd := fun _ σ => (iOf (σ.get 9)).toNat })], cuts := [] }
theorem twice_c (n : Nat) (X Y : Nat → Int) (hn : 0 < n) (hn2 : n ≤ 800) (hX : inB n X) (hY : inB n Y) : FnC prog 157 [pts n X Y] (dI (twS n X Y n)) := by
  refine FnC_owed hmix (A62_twice_c n X Y) (V := .loop Nat (fun a => a ≤ n) (0:Int).toNat [(0:Int) = (0:Int), (0:Int) = (↑(0:Int).toNat : Int), n = n, ∀ i < n, X i = X i, ∀ i < n, Y i = Y i, (n:Int) = (n:Int)] fun i => .ite (decide ((i:Int) < (n:Int))) (.need [FnC prog 128 [.lst n [fun i => (dI (X i)), fun i => (dI (Y i))], (dI (i:Int))] (.val (.agg ⟨[.int .i64 (X (ix n (i:Int))), .int .i64 (Y (ix n (i:Int)))]⟩)), i64In ((i:Int) + (1:Int)), FnC prog 128 [.lst n [fun i => (dI (X i)), fun i => (dI (Y i))], (dI ((i:Int) + (1:Int)))] (.val (.agg ⟨[.int .i64 (X (ix n ((i:Int) + (1:Int)))), .int .i64 (Y (ix n ((i:Int) + (1:Int))))]⟩))] (.need [i64In (X (ix n (i:Int)) * Y (ix n ((i:Int) + (1:Int)))), i64In (X (ix n ((i:Int) + (1:Int))) * Y (ix n (i:Int))), i64In (X (ix n (i:Int)) * Y (ix n ((i:Int) + (1:Int))) - X (ix n ((i:Int) + (1:Int))) * Y (ix n (i:Int))), i64In (twS n X Y i + (X (ix n (i:Int)) * Y (ix n ((i:Int) + (1:Int))) - X (ix n ((i:Int) + (1:Int))) * Y (ix n (i:Int))))] (.need [i64In ((i:Int) + (1:Int))] (.done [twS n X Y i + (X (ix n (i:Int)) * Y (ix n ((i:Int) + (1:Int))) - X (ix n ((i:Int) + (1:Int))) * Y (ix n (i:Int))) = twS n X Y ((i:Int) + (1:Int)).toNat, (i:Int) + (1:Int) = (↑((i:Int) + (1:Int)).toNat : Int), n = n, ∀ i < n, X i = X i, ∀ i < n, Y i = Y i, (n:Int) = (n:Int), Int.toNat ((i:Int) + (1:Int)) ≤ n, n - ((i:Int) + (1:Int)).toNat < n - i])))) (.done [twS n X Y i = twS n X Y n])) (by kernel_rfl) ?_
  simp only [VT.holds, AllT, implies_true, and_true, true_and, toNat_succ, toNat_zero', decide_eq_true_eq, decide_eq_false_iff_not]
  refine ⟨rfl, Nat.zero_le n, fun i hi => ⟨fun h => ?_, fun h => ?_⟩⟩
  · have b1 := tw_term hn hX hY i (i + 1)
    have b2 := tw_term hn hX hY (i + 1) i
    have b3 := twS_bd hn hX hY i
    simp only [i64In]
    refine ⟨⟨at_c n X Y i hn (by omega) (by omega) (by omega), by omega, at_c n X Y (i + 1) hn (by omega) (by omega) (by omega)⟩, ⟨by omega, by omega, by omega, by omega⟩, by omega, rfl, rfl, by omega, by omega⟩
  · have : i = n := by omega
    rw [this]
noncomputable def A64_length_c (n : Nat) (X Y : Nat → Int) (i : Int) : Ann := { orc := [(1, [(2, rAt), (6, rAt)]), (2, [(5, rAbs), (11, rAbs)])], loops := [], cuts := [] }
theorem length_c (n : Nat) (X Y : Nat → Int) (i : Int) (hn : 0 < n) (hn2 : n ≤ 1000) (h1 : -(n : Int) ≤ i) (h2 : i ≤ 900) (hX : inB n X) (hY : inB n Y) : FnC prog 122 [pts n X Y, dI i] (dI (((X (ix n (i + 1)) - X (ix n i)).natAbs : Int) + ((Y (ix n (i + 1)) - Y (ix n i)).natAbs : Int))) := by
  refine FnC_owed hmix (A64_length_c n X Y i) (V := .need [FnC prog 128 [.lst n [fun i => (dI (X i)), fun i => (dI (Y i))], (dI i)] (.val (.agg ⟨[.int .i64 (X (ix n i)), .int .i64 (Y (ix n i))]⟩)), i64In (i + (1:Int)), FnC prog 128 [.lst n [fun i => (dI (X i)), fun i => (dI (Y i))], (dI (i + (1:Int)))] (.val (.agg ⟨[.int .i64 (X (ix n (i + (1:Int)))), .int .i64 (Y (ix n (i + (1:Int))))]⟩))] (.need [i64In (X (ix n (i + (1:Int))) - X (ix n i)), FnC prog 152 [(dI (X (ix n (i + (1:Int))) - X (ix n i)))] ((dI (↑(Int.natAbs (X (ix n (i + (1:Int))) - X (ix n i))) : Int))), i64In (Y (ix n (i + (1:Int))) - Y (ix n i)), FnC prog 152 [(dI (Y (ix n (i + (1:Int))) - Y (ix n i)))] ((dI (↑(Int.natAbs (Y (ix n (i + (1:Int))) - Y (ix n i))) : Int))), i64In ((↑(Int.natAbs (X (ix n (i + (1:Int))) - X (ix n i))) : Int) + (↑(Int.natAbs (Y (ix n (i + (1:Int))) - Y (ix n i))) : Int))] (.done [(↑(Int.natAbs (X (ix n (i + (1:Int))) - X (ix n i))) : Int) + (↑(Int.natAbs (Y (ix n (i + (1:Int))) - Y (ix n i))) : Int) = (↑(Int.natAbs (X (ix n (i + (1:Int))) - X (ix n i))) : Int) + (↑(Int.natAbs (Y (ix n (i + (1:Int))) - Y (ix n i))) : Int)]))) (by kernel_rfl) ?_
  simp only [VT.holds, AllT, i64In]
  have a1 := inB_abs hX (ix_lt (i := i) hn)
  have a2 := inB_abs hX (ix_lt (i := i + 1) hn)
  have a3 := inB_abs hY (ix_lt (i := i) hn)
  have a4 := inB_abs hY (ix_lt (i := i + 1) hn)
  refine ⟨⟨at_c n X Y i hn hn2 h1 (by omega), by omega, at_c n X Y (i + 1) hn hn2 (by omega) (by omega)⟩, ⟨by omega, abs_c _ (by omega), by omega, abs_c _ (by omega), by omega⟩, trivial⟩
noncomputable def A99_index_c (n : Nat) (X Y : Nat → Int) (r : Int) : Ann := { orc := [(4, [(5, rBad)])], loops := [(0, { ι := Nat, keep := [0, 1, 7], boxes := [], ts := fun _ i => [(8, dI (i : Int))], inv := fun _ i => i ≤ n ∧ ∀ j, j < i → badP X Y j = false, mu := fun _ i => n - i, rd := fun _ σ => (iOf (σ.get 8)).toNat })], cuts := [] }
theorem index_c (n : Nat) (X Y : Nat → Int) (r : Int) (hn2 : n ≤ 1000000) (h : IsFirst (badP X Y) n r) : FnC prog 178 [pts n X Y, .val (.func (.func 155) #[] #[])] (dI r) := by
  refine FnC_owed hmix (A99_index_c n X Y r) (V := .loop Nat (fun a => a ≤ n ∧ ∀ (j : Nat), j < a → badP X Y j = false) (0:Int).toNat [(0:Int) = (↑(0:Int).toNat : Int), n = n, ∀ i < n, X i = X i, ∀ i < n, Y i = Y i, Value.func (Fn.func (155 : FuncId)) ⟨[]⟩ ⟨[]⟩ = Value.func (Fn.func (155 : FuncId)) ⟨[]⟩ ⟨[]⟩, (n:Int) = (n:Int)] fun i => .ite (decide ((i:Int) < (n:Int))) (.need [(0:Int) ≤ (i:Int) ∧ (i:Int) < (n:Int), FnC prog (155 : FuncId) [.val (.agg ⟨[.int .i64 (X (i:Int).toNat), .int .i64 (Y (i:Int).toNat)]⟩)] ((dB !(inF (X (i:Int).toNat) && inF (Y (i:Int).toNat))))] (.ite (!(inF (X (i:Int).toNat) && inF (Y (i:Int).toNat))) (.done [(i:Int) = r]) (.need [i64In ((i:Int) + (1:Int))] (.done [(i:Int) + (1:Int) = (↑((i:Int) + (1:Int)).toNat : Int), n = n, ∀ i < n, X i = X i, ∀ i < n, Y i = Y i, Value.func (Fn.func (155 : FuncId)) ⟨[]⟩ ⟨[]⟩ = Value.func (Fn.func (155 : FuncId)) ⟨[]⟩ ⟨[]⟩, (n:Int) = (n:Int), Int.toNat ((i:Int) + (1:Int)) ≤ n ∧ ∀ (j : Nat), j < ((i:Int) + (1:Int)).toNat → badP X Y j = false, n - ((i:Int) + (1:Int)).toNat < n - i])))) (.done [(-1:Int) = r])) (by kernel_rfl) ?_
  simp only [VT.holds, AllT, implies_true, and_true, true_and, toNat_succ, toNat_zero', decide_eq_true_eq, decide_eq_false_iff_not, Int.toNat_natCast]
  refine ⟨rfl, ⟨Nat.zero_le n, fun j hj => by omega⟩, fun i ⟨hi, hb⟩ => ⟨fun hlt => ⟨⟨by omega, bad_c _ _⟩, fun hbad => ?_, fun hok => ⟨by unfold i64In; omega, rfl, ⟨by omega, fun j hj => ?_⟩, by omega⟩⟩, fun hge => ?_⟩⟩
  · rcases h with ⟨h1, h2⟩ | ⟨k, h1, h2, h3, h4⟩
    · have := h2 i (by omega)
      rw [badP, hbad] at this; cases this
    · rcases Nat.lt_trichotomy i k with hk | hk | hk
      · have := h4 i hk
        rw [badP, hbad] at this; cases this
      · rw [h2, hk]
      · have := hb k hk
        rw [h3] at this; cases this
  · by_cases e : j = i
    · rw [e]; exact hok
    · exact hb j (by omega)
  · rcases h with ⟨h1, h2⟩ | ⟨k, h1, h2, h3, h4⟩
    · rw [h1]
    · have := hb k (by omega)
      rw [h3] at this; cases this
noncomputable def A92_contains_c (n : Nat) (X Y : Nat → Int) (r : Int) : Ann := { orc := [(1, [(2, .res fun _ => dI r)])], loops := [], cuts := [] }
theorem contains_c (n : Nat) (X Y : Nat → Int) (r : Int) (hn2 : n ≤ 1000000) (h : IsFirst (badP X Y) n r) : FnC prog 154 [pts n X Y, .val (.func (.func 155) #[] #[])] (dB (!(allIn n X Y))) := by
  refine FnC_owed hmix (A92_contains_c n X Y r) (V := .need [FnC prog 178 [.lst n [fun i => (dI (X i)), fun i => (dI (Y i))], .val (Value.func (Fn.func (155 : FuncId)) ⟨[]⟩ ⟨[]⟩)] ((dI r))] (.done [decide (r ≥ (0:Int)) = !allIn n X Y])) (by kernel_rfl) ?_
  simp only [VT.holds, AllT]
  refine ⟨index_c n X Y r hn2 h, ?_⟩
  unfold allIn
  rcases h with ⟨h1, h2⟩ | ⟨i, h1, h2, h3, h4⟩
  · rw [decide_eq_true h2, h1]; rfl
  · have hf : ¬ ∀ k, k < n → badP X Y k = false := fun h => by rw [h i h1] at h3; cases h3
    rw [decide_eq_false hf, h2]; simp
end Go.Abs
end
section
set_option linter.unusedVariables false
set_option linter.unusedSimpArgs false
set_option maxRecDepth 100000
namespace Go.Abs
open Go
def formOk (n : Nat) (X Y : Nat → Int) (i : Nat) : Bool := dO n X Y i && dO n X Y ((i : Int) - 1) && decide (dD n X Y i % 2 ≠ dD n X Y ((i : Int) - 1) % 2)
def touF (n : Nat) (X Y : Nat → Int) (i k : Int) : Bool := decide (lo n X i ≤ hi n X k ∧ lo n X k ≤ hi n X i ∧ lo n Y i ≤ hi n Y k ∧ lo n Y k ≤ hi n Y i)
def clash (n : Nat) (X Y : Nat → Int) (i k : Nat) : Bool := decide (((k : Int) + 1) % (n : Int) ≠ (i : Int)) && touF n X Y i k
def chk (n : Nat) (X Y : Nat → Int) : Int :=
  if ¬ (4 ≤ n ∧ n ≤ 40) then 11 else if allIn n X Y = false then 2 else if ¬ ∀ i, i < n → formOk n X Y i = true then 3
  else if ¬ ∀ i, i < n → ∀ k, k < n → i + 2 ≤ k → clash n X Y i k = false then 12 else if twS n X Y n < 0 then 10 else 0
def rChk : Orc := .res fun l => dI (chk (aN l) (aX l) (aY l))
theorem allIn_inB {n : Nat} {X Y : Nat → Int} (h : allIn n X Y = true) : inB n X ∧ inB n Y := by
  simp only [allIn, decide_eq_true_eq] at h
  refine ⟨fun k hk => ?_, fun k hk => ?_⟩ <;>
  · have := h k hk
    simp [badP, inF] at this
    omega
noncomputable def A67_check_c (n : Nat) (X Y : Nat → Int) : Ann := { orc := [(3, [(1, rAllIn)]), (8, [(2, rDir)]), (9, [(3, rDir)]), (10, [(8, .pos), (10, .pos)]), (19, [(4, .pos), (11, rTouch)]), (22, [(1, rTw)])], loops := [(0, { ι := Nat, keep := [0, 21], boxes := [], ts := fun _ i => [(22, dI (i : Int))], inv := fun _ i => i ≤ n ∧ ∀ j, j < i → formOk n X Y j = true, mu := fun _ i => n - i, rd := fun _ σ => (iOf (σ.get 22)).toNat }),
  (2, { ι := Nat, keep := [0, 53], boxes := [], ts := fun _ i => [(54, dI (i : Int))], inv := fun _ i => i ≤ n ∧ ∀ j, j < i → ∀ k, k < n → j + 2 ≤ k → clash n X Y j k = false, mu := fun _ i => n - i, rd := fun _ σ => (iOf (σ.get 54)).toNat }),
  (4, { ι := Nat, keep := [0, 53, 54, 8], boxes := [], ts := fun _ k => [(9, dI (k : Int))], inv := fun σ k => (iOf (σ.get 8)).toNat + 2 ≤ k ∧ ∀ j, j < k → (iOf (σ.get 8)).toNat + 2 ≤ j → j < n → clash n X Y (iOf (σ.get 8)).toNat j = false, mu := fun _ k => n + 2 - k, rd := fun _ σ => (iOf (σ.get 9)).toNat })], cuts := [] }
abbrev q_check_c_0 (n : Nat) : Bool := !decide ((n:Int) < (4:Int))
abbrev q_check_c_1 (n : Nat) (X : Nat → Int) (Y : Nat → Int) (i : Nat) : Bool := !if (!dO n X Y (i:Int)) = true then true else !dO n X Y ((i:Int) - (1:Int))
theorem check_c (n : Nat) (X Y : Nat → Int) (hn2 : n ≤ 1000000) : FnC prog 127 [pts n X Y] (dI (chk n X Y)) := by
  refine FnC_owed hmix (A67_check_c n X Y) (V := .need [(q_check_c_0 n) = true → (q_check_c_0 n) = true, (q_check_c_0 n) = true → (q_check_c_0 n) = true, decide ((n:Int) < (4:Int)) = false → (q_check_c_0 n) = true] (.ite (if decide ((n:Int) < (4:Int)) = true then true else decide ((n:Int) > (40:Int))) (.done [(11:Int) = chk n X Y]) (.need [FnC prog 154 [.lst n [fun i => (dI (X i)), fun i => (dI (Y i))], .val (Value.func (Fn.func (155:Nat)) ⟨[]⟩ ⟨[]⟩)] ((dB !allIn n X Y))] (.ite (!allIn n X Y) (.done [(2:Int) = chk n X Y]) (.loop Nat (fun a => a ≤ n ∧ ∀ (j : Nat), j < a → formOk n X Y j = true) (0:Int).toNat [(0:Int) = (↑(0:Int).toNat : Int), n = n, ∀ i < n, X i = X i, ∀ i < n, Y i = Y i, (n:Int) = (n:Int)] fun i => .ite (decide ((i:Int) < (n:Int))) (.need [FnC prog 153 [.lst n [fun i => (dI (X i)), fun i => (dI (Y i))], (dI (i:Int))] (.tup [(dI (dD n X Y (i:Int))), (dB (dO n X Y (i:Int)))])] (.need [i64In ((i:Int) - (1:Int)), FnC prog 153 [.lst n [fun i => (dI (X i)), fun i => (dI (Y i))], (dI ((i:Int) - (1:Int)))] (.tup [(dI (dD n X Y ((i:Int) - (1:Int)))), (dB (dO n X Y ((i:Int) - (1:Int))))])] (.need [(!!dO n X Y (i:Int)) = true → (!!dO n X Y (i:Int)) = true, (!dO n X Y (i:Int)) = false → (!!dO n X Y (i:Int)) = true, (q_check_c_1 n X Y i) = true → (q_check_c_1 n X Y i) = true, (q_check_c_1 n X Y i) = true → (0:Int) ≤ dD n X Y (i:Int) ∧ (0:Int) < (2:Int), (q_check_c_1 n X Y i) = true → (q_check_c_1 n X Y i) = true, (q_check_c_1 n X Y i) = true → (0:Int) ≤ dD n X Y ((i:Int) - (1:Int)) ∧ (0:Int) < (2:Int), (q_check_c_1 n X Y i) = true → (q_check_c_1 n X Y i) = true, (q_check_c_1 n X Y i) = true → (q_check_c_1 n X Y i) = true, (if (!dO n X Y (i:Int)) = true then true else !dO n X Y ((i:Int) - (1:Int))) = false → (q_check_c_1 n X Y i) = true] (.ite (if (if (!dO n X Y (i:Int)) = true then true else !dO n X Y ((i:Int) - (1:Int))) = true then true
     else dD n X Y (i:Int) % (2:Int) == dD n X Y ((i:Int) - (1:Int)) % (2:Int)) (.done [(3:Int) = chk n X Y]) (.need [i64In ((i:Int) + (1:Int))] (.done [(i:Int) + (1:Int) = (↑((i:Int) + (1:Int)).toNat : Int), n = n, ∀ i < n, X i = X i, ∀ i < n, Y i = Y i, (n:Int) = (n:Int), Int.toNat ((i:Int) + (1:Int)) ≤ n ∧ ∀ (j : Nat), j < ((i:Int) + (1:Int)).toNat → formOk n X Y j = true, n - ((i:Int) + (1:Int)).toNat < n - i])))))) (.loop Nat (fun a => a ≤ n ∧ ∀ (j : Nat), j < a → ∀ (k : Nat), k < n → j + (2:Nat) ≤ k → clash n X Y j k = false) (0:Int).toNat [(0:Int) = (↑(0:Int).toNat : Int), n = n, ∀ i < n, X i = X i, ∀ i < n, Y i = Y i, (n:Int) = (n:Int)] fun i_1 => .ite (decide ((i_1:Int) < (n:Int))) (.need [i64In ((i_1:Int) + (2:Int))] (.loop Nat (fun a => Int.toNat (i_1:Int) + (2:Nat) ≤ a ∧ ∀ (j : Nat), j < a → Int.toNat (i_1:Int) + (2:Nat) ≤ j → j < n → clash n X Y (i_1:Int).toNat j = false) ((i_1:Int) + (2:Int)).toNat [(i_1:Int) + (2:Int) = (↑((i_1:Int) + (2:Int)).toNat : Int), n = n, ∀ i < n, X i = X i, ∀ i < n, Y i = Y i, (n:Int) = (n:Int), (i_1:Int) = (i_1:Int), (i_1:Int) = (i_1:Int)] fun i_2 => .ite (decide ((i_2:Int) < (n:Int))) (.need [i64In ((i_2:Int) + (1:Int)), (0:Int) ≤ (i_2:Int) + (1:Int) ∧ (0:Int) < (n:Int), (((i_2:Int) + (1:Int)) % (n:Int) != (i_1:Int)) = true → (((i_2:Int) + (1:Int)) % (n:Int) != (i_1:Int)) = true, (((i_2:Int) + (1:Int)) % (n:Int) != (i_1:Int)) = true → (((i_2:Int) + (1:Int)) % (n:Int) != (i_1:Int)) = true, (((i_2:Int) + (1:Int)) % (n:Int) != (i_1:Int)) = true → (((i_2:Int) + (1:Int)) % (n:Int) != (i_1:Int)) = true, (((i_2:Int) + (1:Int)) % (n:Int) != (i_1:Int)) = true → FnC prog 156 [.lst n [fun i => (dI
     (X i)), fun i => (dI (Y i))], (dI (i_1:Int)), (dI (i_2:Int))] ((dB (decide (lo n X (i_1:Int) ≤ hi n X (i_2:Int) ∧ lo n X (i_2:Int) ≤ hi n X (i_1:Int) ∧ lo n Y (i_1:Int) ≤ hi n Y (i_2:Int) ∧ lo n Y (i_2:Int) ≤ hi n Y (i_1:Int))))), (((i_2:Int) + (1:Int)) % (n:Int) != (i_1:Int)) = true → (((i_2:Int) + (1:Int)) % (n:Int) != (i_1:Int)) = true] (.ite (if (((i_2:Int) + (1:Int)) % (n:Int) != (i_1:Int)) = true then decide (lo n X (i_1:Int) ≤ hi n X (i_2:Int) ∧ lo n X (i_2:Int) ≤ hi n X (i_1:Int) ∧ lo n Y (i_1:Int) ≤ hi n Y (i_2:Int) ∧ lo n Y (i_2:Int) ≤ hi n Y (i_1:Int)) else false) (.done [(12:Int) = chk n X Y]) (.need [i64In ((i_2:Int) + (1:Int))] (.done [(i_2:Int) + (1:Int) = (↑((i_2:Int) + (1:Int)).toNat : Int), n = n, ∀ i < n, X i = X i, ∀ i < n, Y i = Y i, (n:Int) = (n:Int), (i_1:Int) = (i_1:Int), (i_1:Int) = (i_1:Int), Int.toNat (i_1:Int) + (2:Nat) ≤ ((i_2:Int) + (1:Int)).toNat ∧ ∀ (j : Nat), j < ((i_2:Int) + (1:Int)).toNat → Int.toNat (i_1:Int) + (2:Nat) ≤ j → j < n → clash n X Y (i_1:Int).toNat j = false, n + (2:Nat) - ((i_2:Int) + (1:Int)).toNat < n + (2:Nat) - i_2])))) (.need [i64In ((i_1:Int) + (1:Int))] (.done [(i_1:Int) + (1:Int) = (↑((i_1:Int) + (1:Int)).toNat : Int), n = n, ∀ i < n, X i = X i, ∀ i < n, Y i = Y i, (n:Int) = (n:Int), Int.toNat ((i_1:Int) + (1:Int)) ≤ n ∧ ∀ (j : Nat), j < ((i_1:Int) + (1:Int)).toNat → ∀ (k : Nat), k < n → j + (2:Nat) ≤ k → clash n X Y j k = false, n - ((i_1:Int) + (1:Int)).toNat < n - i_1])))) (.need [FnC prog 157 [.lst n [fun i => (dI (X i)), fun i => (dI (Y i))]] ((dI (twS n X Y n)))] (.ite (decide (twS n X Y n < (0:Int))) (.done [(10:Int) = chk n X Y]) (.done [(0:Int) = chk n X Y]))))))))) (by kernel_rfl) ?_
  simp only [q_check_c_0, q_check_c_1, VT.holds, AllT, Sq]
  refine ⟨fun h => ?_, fun h => ⟨?_, fun h2 => ?_, fun h2 => ⟨rfl, ⟨Nat.zero_le n, fun j hj => (by omega)⟩, fun i ⟨hi, hf⟩ => ⟨fun hlt => ?_, fun hge => ⟨rfl, ⟨Nat.zero_le n, fun j hj => (by omega)⟩, fun i2 ⟨hi2, hc⟩ => ⟨fun hlt2 => ⟨?_, rfl, ⟨Nat.le_refl _, fun j h1 h2 => (by omega)⟩, fun k ⟨hk, hck⟩ => ⟨fun hkn => ⟨?_, fun hcl => ?_, fun hcl => ?_⟩, fun hkn => ?_⟩⟩, fun hge2 => ⟨?_, fun ht => ?_, fun ht => ?_⟩⟩⟩⟩⟩⟩⟩
  · rw [chk, if_pos (by omega)]
  · obtain ⟨r, hr⟩ := isFirst_exists (badP X Y) n
    exact contains_c n X Y r hn2 hr
  · rw [chk, if_neg (by omega), if_pos h2]
  · have e3 : formOk n X Y i = false → 3 = chk n X Y := fun hx => by
      rw [chk, if_neg (by omega), if_neg (by rw [h2]; simp), if_pos (fun hall => by rw [hall i (by omega)] at hx; cases hx)]
    have := dD_range n X Y i
    have := dD_range n X Y ((i : Int) - 1)
    refine ⟨dir_c n X Y i (by omega) (by omega) (by omega) (by omega), ⟨by unfold i64In; omega, dir_c n X Y (i - 1) (by omega) (by omega) (by omega) (by omega)⟩, ⟨fun _ => by omega, fun _ => by omega⟩, fun hbad => e3 ?_, fun hok => ⟨by unfold i64In; omega, rfl, ⟨by omega, fun j hj => ?_⟩, by omega⟩⟩
    · unfold formOk
      rcases hbad with (hb | hb) | hb <;> simp [hb]
    · by_cases e : j = i
      · subst e
        unfold formOk
        obtain ⟨hk1, hk2⟩ := hok
        simp only [not_or, Bool.not_eq_false] at hk1
        simp [hk1.1, hk1.2, hk2]
      · exact hf j (by omega)
  · unfold i64In; omega
  · refine ⟨by unfold i64In; omega, by omega, fun _ => touch_c n X Y i2 k (by omega) (by omega) (by omega) (by omega) (by omega) (by omega)⟩
  · have hform : ∀ j, j < n → formOk n X Y j = true := fun j hj => hf j (by omega)
    rw [chk, if_neg (by omega), if_neg (by rw [h2]; simp), if_neg (fun hx => hx hform), if_pos (fun hall => ?_)]
    have := hall i2 (by omega) k (by omega) hk
    unfold clash touF at this
    rw [decide_eq_true hcl.1, decide_eq_true hcl.2] at this
    cases this
  · refine ⟨by unfold i64In; omega, rfl, ⟨by omega, fun j h1 h2 h3 => ?_⟩, by omega⟩
    by_cases e : j = k
    · subst e
      unfold clash touF
      rw [Bool.and_eq_false_imp, decide_eq_true_eq, decide_eq_false_iff_not]
      exact hcl
    · exact hck j (by omega) h2 h3
  · refine ⟨by unfold i64In; omega, rfl, ⟨by omega, fun j h1 k' h2 h3 => ?_⟩, by omega⟩
    by_cases e : j = i2
    · subst e; exact hck k' (by omega) h3 h2
    · exact hc j (by omega) k' h2 h3
  · obtain ⟨b1, b2⟩ := allIn_inB h2
    exact twice_c n X Y (by omega) (by omega) b1 b2
  · have hform : ∀ j, j < n → formOk n X Y j = true := fun j hj => hf j (by omega)
    have hcl : ∀ j, j < n → ∀ k, k < n → j + 2 ≤ k → clash n X Y j k = false := fun j hj => hc j (by omega)
    rw [chk, if_neg (by omega), if_neg (by rw [h2]; simp), if_neg (fun hx => hx hform), if_neg (fun hx => hx hcl), if_pos ht]
  · have hform : ∀ j, j < n → formOk n X Y j = true := fun j hj => hf j (by omega)
    have hcl : ∀ j, j < n → ∀ k, k < n → j + 2 ≤ k → clash n X Y j k = false := fun j hj => hc j (by omega)
    rw [chk, if_neg (by omega), if_neg (by rw [h2]; simp), if_neg (fun hx => hx hform), if_neg (fun hx => hx hcl), if_neg ht]
noncomputable def A22_checkOutline_c (n : Nat) (X Y : Nat → Int) : Ann := { orc := [(1, [(1, rChk)])], loops := [], cuts := [] }
theorem checkOutline_c (n : Nat) (X Y : Nat → Int) (hn2 : n ≤ 1000000) : FnC prog 121 [pts n X Y] (dI (chk n X Y)) := by
  refine FnC_owed hmix (A22_checkOutline_c n X Y) (V := .need [FnC prog 127 [.lst n [fun i => (dI (X i)), fun i => (dI (Y i))]] ((dI (chk n X Y)))] (.done [chk n X Y = chk n X Y])) (by kernel_rfl) ?_
  simp only [VT.holds, AllT, Sq]
  exact check_c n X Y hn2
end Go.Abs
end
