/- Contracts. Contracts. -/
import Derived.Test.YteennpofimiliaaGreatDoorK1
section
set_option linter.unusedVariables false
set_option linter.unusedSimpArgs false
set_option maxRecDepth 100000
namespace Go.Abs
open Go
def twS (n : Nat) (X Y : Nat → Int) : Nat → Int
  | 0 => 0
  | k + 1 => twS n X Y k + (X (ix n k) * Y (ix n (k + 1)) - X (ix n (k + 1)) * Y (ix n k))
theorem mul_bd {a b : Int} {A B : Nat} (ha : a.natAbs ≤ A) (hb : b.natAbs ≤ B) : (a * b).natAbs ≤ A * B := by
  rw [Int.natAbs_mul]; exact Nat.mul_le_mul ha hb
theorem inB_abs {n : Nat} {X : Nat → Int} (h : inB n X) {k : Nat} (hk : k < n) : (X k).natAbs ≤ 1000000 := by
  have := h k hk; omega
theorem tw_term {n : Nat} {X Y : Nat → Int} (hn : 0 < n) (hX : inB n X) (hY : inB n Y) (i j : Int) : (X (ix n i) * Y (ix n j)).natAbs ≤ 1000000000000 :=
  mul_bd (A := 1000000) (B := 1000000) (inB_abs hX (ix_lt hn)) (inB_abs hY (ix_lt hn))
theorem twS_bd {n : Nat} {X Y : Nat → Int} (hn : 0 < n) (hX : inB n X) (hY : inB n Y) : ∀ k, (twS n X Y k).natAbs ≤ 2000000000000 * k
  | 0 => by simp [twS]
  | k + 1 => by
    have := twS_bd hn hX hY k
    have := tw_term hn hX hY k (k + 1)
    have := tw_term hn hX hY (k + 1) k
    simp only [twS]
    omega
theorem toNat_succ (i : Nat) : Int.toNat ((i : Int) + 1) = i + 1 := by omega
theorem toNat_add2 (i : Nat) : Int.toNat ((i : Int) + 2) = i + 2 := by omega
theorem toNat_zero' : Int.toNat (0:Int) = 0 := rfl
def IsFirst (p : Nat → Bool) (n : Nat) (r : Int) : Prop := (r = -1 ∧ ∀ j, j < n → p j = false) ∨ ∃ i : Nat, i < n ∧ r = i ∧ p i = true ∧ ∀ j, j < i → p j = false
theorem isFirst_exists (p : Nat → Bool) (n : Nat) : ∃ r, IsFirst p n r := by
  induction n with
  | zero => exact ⟨-1, .inl ⟨rfl, fun j h => by omega⟩⟩
  | succ n ih =>
    obtain ⟨r, ⟨h1, h2⟩ | ⟨i, h1, h2, h3, h4⟩⟩ := ih
    · cases hp : p n with
      | true => exact ⟨n, .inr ⟨n, by omega, rfl, hp, h2⟩⟩
      | false =>
        refine ⟨-1, .inl ⟨rfl, fun j h => ?_⟩⟩
        by_cases e : j = n
        · rw [e]; exact hp
        · exact h2 j (by omega)
    · exact ⟨r, .inr ⟨i, by omega, h2, h3, h4⟩⟩
def badP (X Y : Nat → Int) (k : Nat) : Bool := !(inF (X k) && inF (Y k))
def allIn (n : Nat) (X Y : Nat → Int) : Bool := decide (∀ k, k < n → badP X Y k = false)
def rTw : Orc := .res fun l => dI (twS (aN l) (aX l) (aY l) (aN l))
def rLen : Orc := .res fun l => dI (((aX l (ix (aN l) (aI l 1 + 1)) - aX l (ix (aN l) (aI l 1))).natAbs : Int) + ((aY l (ix (aN l) (aI l 1 + 1)) - aY l (ix (aN l) (aI l 1))).natAbs : Int))
def rAllIn : Orc := .res fun l => dB (!(allIn (aN l) (aX l) (aY l)))
noncomputable def A62_twice_c (n : Nat) (X Y : Nat → Int) : Ann := { orc := [(5, [(2, rAt), (6, rAt)])], loops := [(0, { ι := Nat, keep := [0, 8], boxes := [], ts := fun _ i => [(3, dI (twS n X Y i)), (9, dI (i : Int))], inv := fun _ i => i ≤ n, mu := fun _ i => n - i, rd := fun _ σ => (iOf (σ.get 9)).toNat })], cuts := [] }
namespace w8
noncomputable section
structure Z where
  n : Nat
  X : Nat → Int
  Y : Nat → Int
variable (z : Z) (i0 : Nat) (p : Prop) (P : List Prop) (a b c : Int) (k : Nat)
abbrev x0 := (i0:Int) + 1
abbrev x1 := Int.toNat (x0 i0)
abbrev x2 := (z.X (ix z.n (i0:Int))) * (z.Y (ix z.n (x0 i0)))
abbrev x3 := (z.X (ix z.n (x0 i0))) * (z.Y (ix z.n (i0:Int)))
abbrev x4 := twS z.n z.X z.Y i0 + (x2 z i0 - x3 z i0)
abbrev x5 : List Prop := p :: (a = (k:Int)) :: rf z.n :: (∀ i0 < z.n, rf (z.X i0)) :: (∀ i0 < z.n, rf (z.Y i0)) :: rf (z.n:Int) :: P
abbrev x6 := FnC prog 128 [DV.lst z.n [fun i0 => dI (z.X i0), fun i0 => dI (z.Y i0)], dI a] (DV.val (Value.agg (Array.mk [Value.int IntKind.i64 (z.X (ix z.n b)), Value.int IntKind.i64 (z.Y (ix z.n c))])))
abbrev xt : VT := VT.loop Nat (fun i0 => i0 ≤ z.n) (Int.toNat 0) (x5 z (rf (0:Int)) [] (0:Int) (Int.toNat 0)) (fun i0 => VT.ite (decide ((i0:Int) < (z.n:Int))) (VT.need [x6 z (i0:Int) (i0:Int) (i0:Int), i64In (x0 i0), x6 z (x0 i0) (x0 i0) (x0 i0)] (VT.need [i64In (x2 z i0), i64In (x3 z i0), i64In (x2 z i0 - x3 z i0), i64In (x4 z i0)] (VT.need [i64In (x0 i0)] (VT.done (x5 z (x4 z i0 = twS z.n z.X z.Y (x1 i0)) [x1 i0 ≤ z.n, z.n - x1 i0 < z.n - i0] (x0 i0) (x1 i0)))))) (VT.done [twS z.n z.X z.Y i0 = twS z.n z.X z.Y z.n]))
end
end w8
open w8 in
theorem twice_c (n : Nat) (X Y : Nat → Int) (hn : 0 < n) (hn2 : n ≤ 800) (hX : inB n X) (hY : inB n Y) : FnC prog 157 [pts n X Y] (dI (twS n X Y n)) := by
  refine FnC_owed hmix (A62_twice_c n X Y) (V := xt ⟨n, X, Y⟩) (by kernel_rfl) ?_
  simp only [xt, x0, x1, x2, x3, x4, x5, x6, Rf, VT.holds, AllT, implies_true, and_true, true_and, toNat_succ, toNat_zero', decide_eq_true_eq, decide_eq_false_iff_not]
  refine ⟨rfl, Nat.zero_le n, fun i hi => ⟨fun h => ?_, fun h => ?_⟩⟩
  · have b1 := tw_term hn hX hY i (i + 1)
    have b2 := tw_term hn hX hY (i + 1) i
    have b3 := twS_bd hn hX hY i
    simp only [i64In]
    refine ⟨⟨at_c n X Y i hn (by omega) (by omega) (by omega), by omega, at_c n X Y (i + 1) hn (by omega) (by omega) (by omega)⟩, ⟨by omega, by omega, by omega, by omega⟩, by omega, rfl, rfl, by omega, by omega⟩
  · have : i = n := by omega
    rw [this]
noncomputable def A64_length_c (n : Nat) (X Y : Nat → Int) (i : Int) : Ann := { orc := [(1, [(2, rAt), (6, rAt)]), (2, [(5, rAbs), (11, rAbs)])], loops := [], cuts := [] }
namespace w9
noncomputable section
structure Z where
  n : Nat
  X : Nat → Int
  Y : Nat → Int
  i : Int
variable (z : Z) (a b c : Int)
abbrev x0 := z.X (ix z.n z.i)
abbrev x1 := z.X (ix z.n (z.i + 1))
abbrev x2 := z.Y (ix z.n z.i)
abbrev x3 := z.Y (ix z.n (z.i + 1))
abbrev x4 : Int := (↑(Int.natAbs (x1 z - x0 z)) : Int)
abbrev x5 : Int := (↑(Int.natAbs (x3 z - x2 z)) : Int)
abbrev x6 := FnC prog 128 [DV.lst z.n [fun i0 => dI (z.X i0), fun i0 => dI (z.Y i0)], dI a] (DV.val (Value.agg (Array.mk [Value.int IntKind.i64 b, Value.int IntKind.i64 c])))
abbrev xt : VT := VT.need [x6 z z.i (x0 z) (x2 z), i64In (z.i + 1), x6 z (z.i + 1) (x1 z) (x3 z)] (VT.need [i64In (x1 z - x0 z), FnC prog 152 [dI (x1 z - x0 z)] (dI (x4 z)), i64In (x3 z - x2 z), FnC prog 152 [dI (x3 z - x2 z)] (dI (x5 z)), i64In (x4 z + x5 z)] (VT.done [rf (x4 z + x5 z)]))
end
end w9
open w9 in
theorem length_c (n : Nat) (X Y : Nat → Int) (i : Int) (hn : 0 < n) (hn2 : n ≤ 1000) (h1 : -(n : Int) ≤ i) (h2 : i ≤ 900) (hX : inB n X) (hY : inB n Y) : FnC prog 122 [pts n X Y, dI i] (dI (((X (ix n (i + 1)) - X (ix n i)).natAbs : Int) + ((Y (ix n (i + 1)) - Y (ix n i)).natAbs : Int))) := by
  refine FnC_owed hmix (A64_length_c n X Y i) (V := xt ⟨n, X, Y, i⟩) (by kernel_rfl) ?_
  simp only [xt, x0, x1, x2, x3, x4, x5, x6, Rf, VT.holds, AllT, i64In]
  have a1 := inB_abs hX (ix_lt (i := i) hn)
  have a2 := inB_abs hX (ix_lt (i := i + 1) hn)
  have a3 := inB_abs hY (ix_lt (i := i) hn)
  have a4 := inB_abs hY (ix_lt (i := i + 1) hn)
  refine ⟨⟨at_c n X Y i hn hn2 h1 (by omega), by omega, at_c n X Y (i + 1) hn hn2 (by omega) (by omega)⟩, ⟨by omega, abs_c _ (by omega), by omega, abs_c _ (by omega), by omega⟩, trivial⟩
noncomputable def A99_index_c (n : Nat) (X Y : Nat → Int) (r : Int) : Ann := { orc := [(4, [(5, rBad)])], loops := [(0, { ι := Nat, keep := [0, 1, 7], boxes := [], ts := fun _ i => [(8, dI (i : Int))], inv := fun _ i => i ≤ n ∧ ∀ j, j < i → badP X Y j = false, mu := fun _ i => n - i, rd := fun _ σ => (iOf (σ.get 8)).toNat })], cuts := [] }
theorem index_c (n : Nat) (X Y : Nat → Int) (r : Int) (hn2 : n ≤ 1000000) (h : IsFirst (badP X Y) n r) : FnC prog 178 [pts n X Y, .val (.func (.func 155) #[] #[])] (dI r) := by
  refine FnC_owed hmix (A99_index_c n X Y r) (V := .loop Nat (fun a => a ≤ n ∧ ∀ (j : Nat), j < a → badP X Y j = false) (0:Int).toNat [(0:Int) = (↑(0:Int).toNat : Int), n = n, ∀ i < n, X i = X i, ∀ i < n, Y i = Y i, Value.func (Fn.func (155 : FuncId)) ⟨[]⟩ ⟨[]⟩ = Value.func (Fn.func (155 : FuncId)) ⟨[]⟩ ⟨[]⟩, (n:Int) = (n:Int)] fun i => .ite (decide ((i:Int) < (n:Int))) (.need [(0:Int) ≤ (i:Int) ∧ (i:Int) < (n:Int), FnC prog (155 : FuncId) [.val (.agg ⟨[.int .i64 (X (i:Int).toNat), .int .i64 (Y (i:Int).toNat)]⟩)] ((dB !(inF (X (i:Int).toNat) && inF (Y (i:Int).toNat))))] (.ite (!(inF (X (i:Int).toNat) && inF (Y (i:Int).toNat))) (.done [(i:Int) = r]) (.need [i64In ((i:Int) + (1:Int))] (.done [(i:Int) + (1:Int) = (↑((i:Int) + (1:Int)).toNat : Int), n = n, ∀ i < n, X i = X i, ∀ i < n, Y i = Y i, Value.func (Fn.func (155 : FuncId)) ⟨[]⟩ ⟨[]⟩ = Value.func (Fn.func (155 : FuncId)) ⟨[]⟩ ⟨[]⟩, (n:Int) = (n:Int), Int.toNat ((i:Int) + (1:Int)) ≤ n ∧ ∀ (j : Nat), j < ((i:Int) + (1:Int)).toNat → badP X Y j = false, n - ((i:Int) + (1:Int)).toNat < n - i])))) (.done [(-1:Int) = r])) (by kernel_rfl) ?_
  simp only [VT.holds, AllT, implies_true, and_true, true_and, toNat_succ, toNat_zero', decide_eq_true_eq, decide_eq_false_iff_not, Int.toNat_natCast]
  refine ⟨rfl, ⟨Nat.zero_le n, fun j hj => by omega⟩, fun i ⟨hi, hb⟩ => ⟨fun hlt => ⟨⟨by omega, bad_c _ _⟩, fun hbad => ?_, fun hok => ⟨by unfold i64In; omega, rfl, ⟨by omega, fun j hj => ?_⟩, by omega⟩⟩, fun hge => ?_⟩⟩
  · rcases h with ⟨h1, h2⟩ | ⟨k, h1, h2, h3, h4⟩
    · have := h2 i (by omega)
      rw [badP, hbad] at this; cases this
    · rcases Nat.lt_trichotomy i k with hk | hk | hk
      · have := h4 i hk
        rw [badP, hbad] at this; cases this
      · rw [h2, hk]
      · have := hb k hk
        rw [h3] at this; cases this
  · by_cases e : j = i
    · rw [e]; exact hok
    · exact hb j (by omega)
  · rcases h with ⟨h1, h2⟩ | ⟨k, h1, h2, h3, h4⟩
    · rw [h1]
    · have := hb k (by omega)
      rw [h3] at this; cases this
noncomputable def A92_contains_c (n : Nat) (X Y : Nat → Int) (r : Int) : Ann := { orc := [(1, [(2, .res fun _ => dI r)])], loops := [], cuts := [] }
theorem contains_c (n : Nat) (X Y : Nat → Int) (r : Int) (hn2 : n ≤ 1000000) (h : IsFirst (badP X Y) n r) : FnC prog 154 [pts n X Y, .val (.func (.func 155) #[] #[])] (dB (!(allIn n X Y))) := by
  refine FnC_owed hmix (A92_contains_c n X Y r) (V := .need [FnC prog 178 [.lst n [fun i => (dI (X i)), fun i => (dI (Y i))], .val (Value.func (Fn.func (155 : FuncId)) ⟨[]⟩ ⟨[]⟩)] ((dI r))] (.done [decide (r ≥ (0:Int)) = !allIn n X Y])) (by kernel_rfl) ?_
  simp only [VT.holds, AllT]
  refine ⟨index_c n X Y r hn2 h, ?_⟩
  unfold allIn
  rcases h with ⟨h1, h2⟩ | ⟨i, h1, h2, h3, h4⟩
  · rw [decide_eq_true h2, h1]; rfl
  · have hf : ¬ ∀ k, k < n → badP X Y k = false := fun h => by rw [h i h1] at h3; cases h3
    rw [decide_eq_false hf, h2]; simp
end Go.Abs
end
section
set_option linter.unusedVariables false
set_option linter.unusedSimpArgs false
set_option maxRecDepth 100000
namespace Go.Abs
open Go
def formOk (n : Nat) (X Y : Nat → Int) (i : Nat) : Bool := dO n X Y i && dO n X Y ((i : Int) - 1) && decide (dD n X Y i % 2 ≠ dD n X Y ((i : Int) - 1) % 2)
def touF (n : Nat) (X Y : Nat → Int) (i k : Int) : Bool := decide (lo n X i ≤ hi n X k ∧ lo n X k ≤ hi n X i ∧ lo n Y i ≤ hi n Y k ∧ lo n Y k ≤ hi n Y i)
def clash (n : Nat) (X Y : Nat → Int) (i k : Nat) : Bool := decide (((k : Int) + 1) % (n : Int) ≠ (i : Int)) && touF n X Y i k
def chk (n : Nat) (X Y : Nat → Int) : Int :=
  if ¬ (4 ≤ n ∧ n ≤ 40) then 11 else if allIn n X Y = false then 2 else if ¬ ∀ i, i < n → formOk n X Y i = true then 3
  else if ¬ ∀ i, i < n → ∀ k, k < n → i + 2 ≤ k → clash n X Y i k = false then 12 else if twS n X Y n < 0 then 10 else 0
def rChk : Orc := .res fun l => dI (chk (aN l) (aX l) (aY l))
theorem allIn_inB {n : Nat} {X Y : Nat → Int} (h : allIn n X Y = true) : inB n X ∧ inB n Y := by
  simp only [allIn, decide_eq_true_eq] at h
  refine ⟨fun k hk => ?_, fun k hk => ?_⟩ <;>
  · have := h k hk
    simp [badP, inF] at this
    omega
noncomputable def A67_check_c (n : Nat) (X Y : Nat → Int) : Ann := { orc := [(3, [(1, rAllIn)]), (8, [(2, rDir)]), (9, [(3, rDir)]), (10, [(8, .pos), (10, .pos)]), (19, [(4, .pos), (11, rTouch)]), (22, [(1, rTw)])], loops := [(0, { ι := Nat, keep := [0, 21], boxes := [], ts := fun _ i => [(22, dI (i : Int))], inv := fun _ i => i ≤ n ∧ ∀ j, j < i → formOk n X Y j = true, mu := fun _ i => n - i, rd := fun _ σ => (iOf (σ.get 22)).toNat }),
  (2, { ι := Nat, keep := [0, 53], boxes := [], ts := fun _ i => [(54, dI (i : Int))], inv := fun _ i => i ≤ n ∧ ∀ j, j < i → ∀ k, k < n → j + 2 ≤ k → clash n X Y j k = false, mu := fun _ i => n - i, rd := fun _ σ => (iOf (σ.get 54)).toNat }),
  (4, { ι := Nat, keep := [0, 53, 54, 8], boxes := [], ts := fun _ k => [(9, dI (k : Int))], inv := fun σ k => (iOf (σ.get 8)).toNat + 2 ≤ k ∧ ∀ j, j < k → (iOf (σ.get 8)).toNat + 2 ≤ j → j < n → clash n X Y (iOf (σ.get 8)).toNat j = false, mu := fun _ k => n + 2 - k, rd := fun _ σ => (iOf (σ.get 9)).toNat })], cuts := [] }
namespace wc
noncomputable section
structure Z where
  n : Nat
  X : Nat → Int
  Y : Nat → Int
variable (z : Z) (i0 i1 i2 : Nat) (p : Prop) (P : List Prop) (a b : Int) (k : Nat) (g h : Bool) (U : VT) (j16a : Nat → Prop) (j17a : Nat → VT)
abbrev x0 : Int := (i0:Int)
abbrev x1 : Int := (z.n:Int)
abbrev x2 := (i1:Int) + 1
abbrev x3 := !(dO z.n z.X z.Y (x0 i0))
abbrev x4 := if g = true then true else h
abbrev x5 := x4 (x3 z i0) (!(dO z.n z.X z.Y (x0 i0 - 1)))
abbrev x6 := Int.toNat (x0 i0 + 1)
abbrev x7 := VT.ite g (VT.done [a = chk z.n z.X z.Y]) U
abbrev x8 := (x2 i1 % x1 z != x0 i0) = true
abbrev x9 := decide ((x1 z) < (4:Int))
abbrev x10 := DV.lst z.n [fun i0 => dI (z.X i0), fun i0 => dI (z.Y i0)]
abbrev x11 := Int.toNat (x2 i1)
abbrev x12 : List Prop := p :: rf z.n :: (∀ i0 < z.n, rf (z.X i0)) :: (∀ i0 < z.n, rf (z.Y i0)) :: rf (x1 z) :: P
abbrev x13 := dD z.n z.X z.Y (x0 i0)
abbrev x14 := dD z.n z.X z.Y (x0 i0 - 1)
abbrev x15 := DV.tup [dI a, dB (dO z.n z.X z.Y b)]
abbrev x16 : List Prop := ((!(x5 z i0)) = true → 0 ≤ a ∧ (0:Int) < (2:Int)) :: ri ((!(x5 z i0)) = true) :: P
abbrev x17 := VT.loop Nat j16a (Int.toNat 0) [0 = (↑(Int.toNat 0) : Int), rf z.n, ∀ i0 < z.n, rf (z.X i0), ∀ i0 < z.n, rf (z.Y i0), rf (x1 z)] j17a
abbrev x18 := i2 < k → Int.toNat (x0 i0) + 2 ≤ i2 → i2 < z.n → clash z.n z.X z.Y (Int.toNat (x0 i0)) i2 = false
abbrev x19 := ∀ i0 < z.n, i1 + 2 ≤ i0 → clash z.n z.X z.Y i1 i0 = false
abbrev x20 := VT.need [i64In (x0 i0 + 1)] (VT.done (x12 z (x0 i0 + 1 = (↑(x6 i0) : Int)) [x6 i0 ≤ z.n ∧ p, z.n - x6 i0 < z.n - i0]))
abbrev x21 := decide ((lo z.n z.X (x0 i0) ≤ hi z.n z.X (i1:Int)) ∧ (lo z.n z.X (i1:Int) ≤ hi z.n z.X (x0 i0) ∧ lo z.n z.Y (x0 i0) ≤ hi z.n z.Y (i1:Int) ∧ lo z.n z.Y (i1:Int) ≤ hi z.n z.Y (x0 i0)))
abbrev xt : VT := VT.need [ri ((!(x9 z)) = true), ri ((!(x9 z)) = true), x9 z = false → (!(x9 z)) = true] (x7 z (11:Int) (x4 (x9 z) (decide ((x1 z) > (40:Int)))) (VT.need [FnC prog 154 [x10 z, DV.val (Value.func (Fn.func 155) (Array.mk []) (Array.mk []))] (dB (!(allIn z.n z.X z.Y)))] (x7 z (2:Int) (!(allIn z.n z.X z.Y)) (x17 z (fun i0 => i0 ≤ z.n ∧ (∀ i1 < i0, formOk z.n z.X z.Y i1 = true)) (fun i0 => VT.ite (decide ((x0 i0) < (x1 z))) (VT.need [FnC prog 153 [x10 z, dI (x0 i0)] (x15 z (x13 z i0) (x0 i0))] (VT.need [i64In (x0 i0 - 1), FnC prog 153 [x10 z, dI (x0 i0 - 1)] (x15 z (x14 z i0) (x0 i0 - 1))] (VT.need (ri ((!(x3 z i0)) = true) :: (x3 z i0 = false → (!(x3 z i0)) = true) :: ri ((!(x5 z i0)) = true) :: x16 z i0 (x16 z i0 [ri ((!(x5 z i0)) = true), x5 z i0 = false → (!(x5 z i0)) = true] (x14 z i0)) (x13 z i0)) (x7 z (3:Int) (x4 (x5 z i0) (x13 z i0 % 2 == x14 z i0 % 2)) (x20 z i0 (∀ i1 < x6 i0, formOk z.n z.X z.Y i1 = true)))))) (x17 z (fun i0 => i0 ≤ z.n ∧ (∀ i1 < i0, x19 z i1)) (fun i0 => VT.ite (decide ((x0 i0) < (x1 z))) (VT.need [i64In (x0 i0 + 2)] (VT.loop Nat (fun i1 => Int.toNat (x0 i0) + 2 ≤ i1 ∧ (∀ (i2 : Nat), x18 z i0 i2 i1)) (Int.toNat (x0 i0 + 2)) (x12 z (x0 i0 + 2 = (↑(Int.toNat (x0 i0 + 2)) : Int)) [rf (x0 i0), rf (x0 i0)]) (fun i1 => VT.ite (decide ((i1:Int) < (x1 z))) (VT.need [i64In (x2 i1), 0 ≤ x2 i1 ∧ 0 < x1 z, ri (x8 z i0 i1), ri (x8 z i0 i1), ri (x8 z i0 i1), x8 z i0 i1 → FnC prog 156 [x10 z, dI (x0 i0), dI (i1:Int)] (dB (x21 z i0 i1)), ri (x8 z i0 i1)] (x7 z (12:Int) (if (x2 i1 % x1 z != x0 i0) = true then (x21 z i0 i1) else false) (VT.need [i64In (x2 i1)] (VT.done (x12 z (x2 i1 = (↑(x11 i1) : Int)) [rf (x0 i0), rf (x0 i0), Int.toNat (x0 i0) + 2 ≤ x11 i1 ∧ (∀ (i2 : Nat), x18 z i0 i2 (x11 i1)), z.n + 2 - x11 i1 < z.n + 2 - i1]))))) (x20 z i0 (∀ i1 < x6 i0, x19 z i1))))) (VT.need [FnC prog 157 [x10 z] (dI (twS z.n z.X z.Y z.n))] (x7 z (10:Int) (decide ((twS z.n z.X z.Y z.n) < (0:Int))) (VT.done [0 = chk z.n z.X z.Y]))))))))))
end
end wc
open wc in
theorem check_c (n : Nat) (X Y : Nat → Int) (hn2 : n ≤ 1000000) : FnC prog 127 [pts n X Y] (dI (chk n X Y)) := by
  refine FnC_owed hmix (A67_check_c n X Y) (V := xt ⟨n, X, Y⟩) (by kernel_rfl) ?_
  simp only [xt, x0, x1, x2, x3, x4, x5, x6, x7, x8, x9, x10, x11, x12, x13, x14, x15, x16, x17, x18, x19, x20, x21, Rf, VT.holds, AllT, Sq]
  refine ⟨fun h => ?_, fun h => ⟨?_, fun h2 => ?_, fun h2 => ⟨rfl, ⟨Nat.zero_le n, fun j hj => (by omega)⟩, fun i ⟨hi, hf⟩ => ⟨fun hlt => ?_, fun hge => ⟨rfl, ⟨Nat.zero_le n, fun j hj => (by omega)⟩, fun i2 ⟨hi2, hc⟩ => ⟨fun hlt2 => ⟨?_, rfl, ⟨Nat.le_refl _, fun j h1 h2 => (by omega)⟩, fun k ⟨hk, hck⟩ => ⟨fun hkn => ⟨?_, fun hcl => ?_, fun hcl => ?_⟩, fun hkn => ?_⟩⟩, fun hge2 => ⟨?_, fun ht => ?_, fun ht => ?_⟩⟩⟩⟩⟩⟩⟩
  · rw [chk, if_pos (by omega)]
  · obtain ⟨r, hr⟩ := isFirst_exists (badP X Y) n
    exact contains_c n X Y r hn2 hr
  · rw [chk, if_neg (by omega), if_pos h2]
  · have e3 : formOk n X Y i = false → 3 = chk n X Y := fun hx => by
      rw [chk, if_neg (by omega), if_neg (by rw [h2]; simp), if_pos (fun hall => by rw [hall i (by omega)] at hx; cases hx)]
    have := dD_range n X Y i
    have := dD_range n X Y ((i : Int) - 1)
    refine ⟨dir_c n X Y i (by omega) (by omega) (by omega) (by omega), ⟨by unfold i64In; omega, dir_c n X Y (i - 1) (by omega) (by omega) (by omega) (by omega)⟩, ⟨fun _ => by omega, fun _ => by omega⟩, fun hbad => e3 ?_, fun hok => ⟨by unfold i64In; omega, rfl, ⟨by omega, fun j hj => ?_⟩, by omega⟩⟩
    · unfold formOk
      rcases hbad with (hb | hb) | hb <;> simp [hb]
    · by_cases e : j = i
      · subst e
        unfold formOk
        obtain ⟨hk1, hk2⟩ := hok
        simp only [not_or, Bool.not_eq_false] at hk1
        simp [hk1.1, hk1.2, hk2]
      · exact hf j (by omega)
  · unfold i64In; omega
  · refine ⟨by unfold i64In; omega, by omega, fun _ => touch_c n X Y i2 k (by omega) (by omega) (by omega) (by omega) (by omega) (by omega)⟩
  · have hform : ∀ j, j < n → formOk n X Y j = true := fun j hj => hf j (by omega)
    rw [chk, if_neg (by omega), if_neg (by rw [h2]; simp), if_neg (fun hx => hx hform), if_pos (fun hall => ?_)]
    have := hall i2 (by omega) k (by omega) hk
    unfold clash touF at this
    rw [decide_eq_true hcl.1, decide_eq_true hcl.2] at this
    cases this
  · refine ⟨by unfold i64In; omega, rfl, ⟨by omega, fun j h1 h2 h3 => ?_⟩, by omega⟩
    by_cases e : j = k
    · subst e
      unfold clash touF
      rw [Bool.and_eq_false_imp, decide_eq_true_eq, decide_eq_false_iff_not]
      exact hcl
    · exact hck j (by omega) h2 h3
  · refine ⟨by unfold i64In; omega, rfl, ⟨by omega, fun j h1 k' h2 h3 => ?_⟩, by omega⟩
    by_cases e : j = i2
    · subst e; exact hck k' (by omega) h3 h2
    · exact hc j (by omega) k' h2 h3
  · obtain ⟨b1, b2⟩ := allIn_inB h2
    exact twice_c n X Y (by omega) (by omega) b1 b2
  · have hform : ∀ j, j < n → formOk n X Y j = true := fun j hj => hf j (by omega)
    have hcl : ∀ j, j < n → ∀ k, k < n → j + 2 ≤ k → clash n X Y j k = false := fun j hj => hc j (by omega)
    rw [chk, if_neg (by omega), if_neg (by rw [h2]; simp), if_neg (fun hx => hx hform), if_neg (fun hx => hx hcl), if_pos ht]
  · have hform : ∀ j, j < n → formOk n X Y j = true := fun j hj => hf j (by omega)
    have hcl : ∀ j, j < n → ∀ k, k < n → j + 2 ≤ k → clash n X Y j k = false := fun j hj => hc j (by omega)
    rw [chk, if_neg (by omega), if_neg (by rw [h2]; simp), if_neg (fun hx => hx hform), if_neg (fun hx => hx hcl), if_neg ht]
noncomputable def A22_checkOutline_c (n : Nat) (X Y : Nat → Int) : Ann := { orc := [(1, [(1, rChk)])], loops := [], cuts := [] }
theorem checkOutline_c (n : Nat) (X Y : Nat → Int) (hn2 : n ≤ 1000000) : FnC prog 121 [pts n X Y] (dI (chk n X Y)) := by
  refine FnC_owed hmix (A22_checkOutline_c n X Y) (V := .need [FnC prog 127 [.lst n [fun i => (dI (X i)), fun i => (dI (Y i))]] ((dI (chk n X Y)))] (.done [chk n X Y = chk n X Y])) (by kernel_rfl) ?_
  simp only [VT.holds, AllT, Sq]
  exact check_c n X Y hn2
end Go.Abs
end
