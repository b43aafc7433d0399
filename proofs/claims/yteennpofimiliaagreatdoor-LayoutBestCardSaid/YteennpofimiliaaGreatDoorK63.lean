/- Contracts. Contracts. -/
import Derived.Test.YteennpofimiliaaGreatDoorK61
import Derived.Test.YteennpofimiliaaGreatDoorL22
section
set_option linter.unusedVariables false
set_option linter.unusedSimpArgs false
set_option maxRecDepth 100000
namespace Go.Abs
open Go
/-- The longest run of the first m choices. -/
def lonG (n : Nat) (X Y : Nat → Int) (G W : Int) : Nat → Int
  | 0 => 0
  | m + 1 => max (lonG n X Y G W m) (ruL n X Y G W ((m / 4 : Nat) : Int) ((m % 4 / 2 : Nat) : Int) ((m % 4 % 2 : Nat) : Int))
def mgE (lon u : Int) : Int := if lon > 4000 * u then 8 else 0
def mgN (lon u : Int) : Nat := if mgE lon u = 0 then (lon / u + 1).toNat else 0
/-- The code of a run's least cost, by a table. -/
def codF (T : Nat → Int) (u x : Int) : Int := if x < 0 ∨ x % u ≠ 0 then -1 else T (x / u).toNat
section
variable {n : Nat} {X Y : Nat → Int} {G W : Int} {T : Nat → Int} {u : Int}
theorem c4 {c : Nat} (h : c < 4) : (0 ≤ ((c / 2 : Nat) : Int) ∧ ((c / 2 : Nat) : Int) ≤ 1) ∧ 0 ≤ ((c % 2 : Nat) : Int) ∧ ((c % 2 : Nat) : Int) ≤ 1 := by omega
theorem ru_bd (hn : 0 < n) (hX : inB n X) (hY : inB n Y) (hg : gwOk G W) (i : Int) {a b : Int} (ha : 0 ≤ a ∧ a ≤ 1) (hb : 0 ≤ b ∧ b ≤ 1) : -40000 ≤ ruL n X Y G W i a b ∧ ruL n X Y G W i a b ≤ 4040000 := by
  have b1 := bef_bd (n := n) (X := X) (Y := Y) i hg ha
  have b2 := beh_bd i hn hX hY hg hb
  unfold ruL
  omega
theorem ru_le (hg : gwOk G W) (i : Int) {a b : Int} (ha : 0 ≤ a ∧ a ≤ 1) (hb : 0 ≤ b ∧ b ≤ 1) : ruL n X Y G W i a b ≤ ruL n X Y G W i 1 0 := by
  obtain ⟨g1, g2, g3, g4⟩ := hg
  have h1 := mul01 ha ⟨g3, g4⟩
  have h2 := mul01 hb ⟨g3, g4⟩
  unfold ruL behF befF
  split <;> split <;> omega
theorem lonG_bd (hn : 0 < n) (hX : inB n X) (hY : inB n Y) (hg : gwOk G W) : ∀ m, 0 ≤ lonG n X Y G W m ∧ lonG n X Y G W m ≤ 4040000
  | 0 => by rw [lonG]; omega
  | m + 1 => by
    have := lonG_bd hn hX hY hg m
    have h := c4 (c := m % 4) (by omega)
    have := ru_bd hn hX hY hg ((m / 4 : Nat) : Int) h.1 h.2
    rw [lonG]
    omega
theorem lonG_ge {m k : Nat} (h : k < m) : ruL n X Y G W ((k / 4 : Nat) : Int) ((k % 4 / 2 : Nat) : Int) ((k % 4 % 2 : Nat) : Int) ≤ lonG n X Y G W m := by
  induction m with
  | zero => omega
  | succ m ih =>
    rw [lonG]
    by_cases e : k = m
    · subst e; omega
    · have := ih (by omega); omega
theorem lonG_at {i c : Nat} (hi : i < n) (hc : c < 4) : ruL n X Y G W i ((c / 2 : Nat) : Int) ((c % 2 : Nat) : Int) ≤ lonG n X Y G W (4 * n) := by
  have := lonG_ge (n := n) (X := X) (Y := Y) (G := G) (W := W) (m := 4 * n) (k := 4 * i + c) (by omega)
  rwa [show (4 * i + c) / 4 = i by omega, show (4 * i + c) % 4 = c by omega] at this
end
/-- The table of least costs of a system. -/
def tabC (nB : Nat) (B : Nat → Int) (nO : Nat) (O : Nat → Int) (W G L : Int) (k : Nat) : Int := Lay.tabL (Lay.plX (Lay.unitP nB B nO O (nB + nO)) (Lay.pLen nB B nO O) (Lay.pCode nB) (nB + nO)) k
noncomputable def A87_longest_c (b : Bld) (nB : Nat) (B : Nat → Int) (nO : Nat) (O : Nat → Int) (W G L : Int) : Ann := { orc := [(2, [(1, .res fun _ => dI (b.N 0 : Int))]), (8, [(4, .pos), (6, .pos), (7, .res fun l => dI (ruL (b.N 0) (b.X 0) (b.Y 0) G W (aI l 1) (aI l 2) (aI l 3)))])], loops := [(0, { ι := Nat, keep := [0, 7], boxes := [], ts := fun _ i => [(3, dI (lonG (b.N 0) (b.X 0) (b.Y 0) G W (4 * i))), (8, dI (i : Int))], inv := fun _ i => i ≤ b.N 0, mu := fun _ i => b.N 0 - i, rd := fun _ σ => (iOf (σ.get 8)).toNat }), (2, { ι := Nat, keep := [0, 7, 8, 4], boxes := [], ts := fun σ c => [(3, dI (lonG (b.N 0) (b.X 0) (b.Y 0) G W (4 * (iOf (σ.get 8)).toNat + c))), (11, dI (c : Int))], inv := fun _ c => c ≤ 4, mu := fun _ c => 4 - c, rd := fun _ σ => (iOf (σ.get 11)).toNat })], cuts := [] }
namespace w4a
noncomputable section
structure Z where
  b : Bld
  nB : Nat
  B : Nat → Int
  nO : Nat
  O : Nat → Int
  W : Int
  G : Int
  L : Int
variable (z : Z) (i0 i1 : Nat) (p : Prop) (P : List Prop) (a : Int) (k : Nat)
abbrev x0 := i0 < z.b.N 0 → rf a
abbrev x1 := i0 < z.b.nO → rf (z.b.O i0 k)
abbrev x2 := i0 < z.b.nB → rf (z.b.B i0 k)
abbrev x3 := (i0:Int) + 1
abbrev x4 := Lay.catN z.nB z.B z.nO z.O z.W z.G z.L
abbrev x5 := ix (z.b.N 0) (x3 i0)
abbrev x6 := lonG (z.b.N 0) (z.b.X 0) (z.b.Y 0) z.G z.W k
abbrev x7 := Int.toNat 0
abbrev x8 := lenW (z.b.N 0) (z.b.X 0) (z.b.Y 0) (i0:Int)
abbrev x9 := dD (z.b.N 0) (z.b.X 0) (z.b.Y 0) (i0:Int)
abbrev x10 := cor (z.b.N 0) (z.b.X 0) (z.b.Y 0) i0
abbrev x11 := Lay.catU z.nB z.B z.nO z.O z.W z.G z.L
abbrev x12 := Int.toNat ((i1:Int) + 1)
abbrev x13 := 4 * Int.toNat (i0:Int) + k
abbrev x14 : List Prop := p :: rf z.b.name :: rf z.b.nS :: (∀ i0 < z.b.nS, rf (z.b.fl i0)) :: (∀ i0 < z.b.nS, rf (z.b.N i0) ∧ (∀ i1 < z.b.N i0, rf (z.b.X i0 i1)) ∧ (∀ i1 < z.b.N i0, rf (z.b.Y i0 i1))) :: rf z.b.roof :: rf z.b.nO :: (∀ (i0 : Nat), x1 z i0 (0:Nat)) :: (∀ (i0 : Nat), x1 z i0 (1:Nat)) :: (∀ (i0 : Nat), x1 z i0 (2:Nat)) :: (∀ (i0 : Nat), x1 z i0 (3:Nat)) :: (∀ (i0 : Nat), x1 z i0 (4:Nat)) :: (∀ (i0 : Nat), x1 z i0 (5:Nat)) :: rf z.b.nB :: (∀ (i0 : Nat), x2 z i0 (0:Nat)) :: (∀ (i0 : Nat), x2 z i0 (1:Nat)) :: (∀ (i0 : Nat), x2 z i0 (2:Nat)) :: (∀ (i0 : Nat), x2 z i0 (3:Nat)) :: (∀ (i0 : Nat), x2 z i0 (4:Nat)) :: (∀ (i0 : Nat), x2 z i0 (5:Nat)) :: rf z.nB :: (∀ i0 < z.nB, rf (z.B i0)) :: rf z.nO :: (∀ i0 < z.nO, rf (z.O i0)) :: rf z.W :: rf z.G :: rf z.L :: rf (↑(x11 z) : Int) :: rf (x4 z) :: (∀ i0 < x4 z, rf (Lay.pLen z.nB z.B z.nO z.O i0)) :: (∀ i0 < x4 z, rf (Lay.pCode z.nB i0)) :: (∀ i0 < x4 z, rf (decide (z.nB ≤ i0))) :: rf (z.b.N 0) :: (∀ (i0 : Nat), x0 z i0 (z.b.X 0 i0)) :: (∀ (i0 : Nat), x0 z i0 (z.b.Y 0 i0)) :: (∀ (i0 : Nat), x0 z i0 (z.b.X 0 (x5 z i0))) :: (∀ (i0 : Nat), x0 z i0 (z.b.Y 0 (x5 z i0))) :: (∀ (i0 : Nat), x0 z i0 (x8 z i0)) :: (∀ (i0 : Nat), x0 z i0 (x9 z i0)) :: rf (z.b.N 0) :: (∀ (i0 : Nat), x0 z i0 (x10 z i0)) :: rf (↑(z.b.N 0) : Int) :: P
abbrev x15 := DV.cptr [DV.val (Value.string z.b.name), DV.lst z.b.nS [fun i0 => dI (z.b.fl i0), fun i0 => DV.lst (z.b.N i0) [fun i1 => dI (z.b.X i0 i1), fun i1 => dI (z.b.Y i0 i1)]], dI z.b.roof, DV.lst z.b.nO [fun i0 => dI (z.b.O i0 0), fun i0 => dI (z.b.O i0 1), fun i0 => dI (z.b.O i0 2), fun i0 => dI (z.b.O i0 3), fun i0 => dI (z.b.O i0 4), fun i0 => dI (z.b.O i0 5)], DV.lst z.b.nB [fun i0 => dI (z.b.B i0 0), fun i0 => dI (z.b.B i0 1), fun i0 => dI (z.b.B i0 2), fun i0 => dI (z.b.B i0 3), fun i0 => dI (z.b.B i0 4), fun i0 => dI (z.b.B i0 5)], DV.lst z.nB [fun i0 => dI (z.B i0)], DV.lst z.nO [fun i0 => dI (z.O i0)], dI z.W, dI z.G, dI z.L, dI (↑(x11 z) : Int), DV.lst (x4 z) [fun i0 => dI (Lay.pLen z.nB z.B z.nO z.O i0), fun i0 => dI (Lay.pCode z.nB i0), fun i0 => dB (decide (z.nB ≤ i0))], DV.lst (z.b.N 0) [fun i0 => dI (z.b.X 0 i0), fun i0 => dI (z.b.Y 0 i0), fun i0 => dI (z.b.X 0 (x5 z i0)), fun i0 => dI (z.b.Y 0 (x5 z i0)), fun i0 => dI (x8 z i0), fun i0 => dI (x9 z i0)], DV.lst (z.b.N 0) [fun i0 => dI (x10 z i0)]]
abbrev x16 := ruL (z.b.N 0) (z.b.X 0) (z.b.Y 0) z.G z.W (i0:Int) ((i1:Int) / 2) ((i1:Int) % 2)
abbrev xt : VT := VT.need [FnC prog 42 [x15 z] (dI (↑(z.b.N 0) : Int))] (VT.loop Nat (fun i0 => i0 ≤ z.b.N 0) x7 ((0 = x6 z (4 * x7)) :: x14 z (0 = (x7:Int)) []) (fun i0 => VT.ite (decide ((i0:Int) < (↑(z.b.N 0) : Int))) (VT.loop Nat (fun i0 => i0 ≤ 4) x7 ((x6 z (4 * i0) = x6 z (x13 i0 x7)) :: x14 z (0 = (x7:Int)) [rf (i0:Int), rf (i0:Int)]) (fun i1 => VT.ite (decide ((i1:Int) < (4:Int))) (VT.need [0 ≤ (i1:Int) ∧ (0:Int) < (2:Int) ∧ (i1:Int) ≤ 9223372036854775807, 0 ≤ (i1:Int) ∧ (0:Int) < (2:Int), FnC prog 54 [x15 z, dI (i0:Int), dI ((i1:Int) / 2), dI ((i1:Int) % 2)] (dI (x16 z i0 i1))] (VT.need [i64In ((i1:Int) + 1)] (VT.done ((maxs (x6 z (x13 i0 i1)) [x16 z i0 i1] = x6 z (x13 i0 (x12 i1))) :: x14 z ((i1:Int) + 1 = (↑(x12 i1) : Int)) [rf (i0:Int), rf (i0:Int), x12 i1 ≤ 4, 4 - x12 i1 < 4 - i1])))) (VT.need [i64In (x3 i0)] (VT.done ((x6 z (x13 i0 i1) = x6 z (4 * Int.toNat (x3 i0))) :: x14 z (x3 i0 = (↑(Int.toNat (x3 i0)) : Int)) [Int.toNat (x3 i0) ≤ z.b.N 0, z.b.N 0 - Int.toNat (x3 i0) < z.b.N 0 - i0]))))) (VT.done [x6 z (4 * i0) = x6 z (4 * z.b.N 0)])))
end
end w4a
open w4a in
theorem longest_c (b : Bld) (nB : Nat) (B : Nat → Int) (nO : Nat) (O : Nat → Int) (W G L : Int) (hn : 0 < b.N 0) (hn2 : b.N 0 ≤ 1000) (hX : inB (b.N 0) (b.X 0)) (hY : inB (b.N 0) (b.Y 0)) (hg : gwOk G W) : FnC prog 87 [ringD b nB B nO O W G L] (dI (lonG (b.N 0) (b.X 0) (b.Y 0) G W (4 * b.N 0))) := by
  refine FnC_owed hmix (A87_longest_c b nB B nO O W G L) (V := xt ⟨b, nB, B, nO, O, W, G, L⟩) (by kernel_rfl) ?_
  simp only [xt, x0, x1, x2, x3, x4, x5, x6, x7, x8, x9, x10, x11, x12, x13, x14, x15, x16, Rf, VT.holds, AllT, Sq]
  have e2 : ∀ c : Nat, (c : Int) / 2 = ((c / 2 : Nat) : Int) := fun c => by omega
  have e3 : ∀ c : Nat, (c : Int) % 2 = ((c % 2 : Nat) : Int) := fun c => by omega
  simp only [e2, e3]
  refine ⟨n_c _ _ _ _ _ _ _ _ _ _ _ _ _ _ _, ⟨rfl, rfl⟩, Nat.zero_le _, fun i hi => ⟨fun hlt => ⟨⟨rfl, rfl⟩, by omega, fun c hc => ⟨fun hc4 => ?_, fun hc4 => ?_⟩⟩, fun hge => by rw [show i = b.N 0 by omega]⟩⟩
  · have h4 := c4 (c := c) (by omega)
    refine ⟨⟨by omega, by omega, runLen_c _ _ _ _ _ _ _ _ _ _ _ _ _ _ _ _ _ _ (by omega) hn2 hX hY hg h4.1 h4.2⟩, by unfold i64In; omega, ?_, rfl, by omega, by omega⟩
    rw [maxs1, show 4 * i + (c + 1) = 4 * i + c + 1 by omega, lonG, show (4 * i + c) / 4 = i by omega, show (4 * i + c) % 4 = c by omega]
  · exact ⟨by unfold i64In; omega, by rw [show 4 * i + c = 4 * (i + 1) by omega], rfl, by omega, by omega⟩
noncomputable def A50_measuredR_c (b : Bld) (nB : Nat) (B : Nat → Int) (nO : Nat) (O : Nat → Int) (W G L : Int) : Ann := { orc := [(1, [(1, .res fun _ => dI (lonG (b.N 0) (b.X 0) (b.Y 0) G W (4 * b.N 0)))]), (4, [(10, .pos), (11, .res fun l => .lst (aI l 1 + 1).toNat [fun k => dI (tabC nB B nO O W G L k)])])], loops := [], cuts := [] }
namespace w4b
noncomputable section
structure Z where
  b : Bld
  nB : Nat
  B : Nat → Int
  nO : Nat
  O : Nat → Int
  W : Int
  G : Int
  L : Int
variable (z : Z) (i0 : Nat)
abbrev x0 : Int := (↑(Lay.catU z.nB z.B z.nO z.O z.W z.G z.L) : Int)
abbrev x1 := lonG (z.b.N 0) (z.b.X 0) (z.b.Y 0) z.G z.W (4 * z.b.N 0)
abbrev x2 := mgN (x1 z) (x0 z)
abbrev x3 := Int.toNat (x1 z / x0 z + 1)
abbrev x4 := DV.lst (Lay.catN z.nB z.B z.nO z.O z.W z.G z.L) [fun i0 => dI (Lay.pLen z.nB z.B z.nO z.O i0), fun i0 => dI (Lay.pCode z.nB i0), fun i0 => dB (decide (z.nB ≤ i0))]
abbrev x5 := tabC z.nB z.B z.nO z.O z.W z.G z.L i0
abbrev xt : VT := VT.need [FnC prog 87 [DV.cptr [DV.val (Value.string z.b.name), DV.lst z.b.nS [fun i0 => dI (z.b.fl i0), fun i0 => DV.lst (z.b.N i0) [fun i1 => dI (z.b.X i0 i1), fun i1 => dI (z.b.Y i0 i1)]], dI z.b.roof, DV.lst z.b.nO [fun i0 => dI (z.b.O i0 0), fun i0 => dI (z.b.O i0 1), fun i0 => dI (z.b.O i0 2), fun i0 => dI (z.b.O i0 3), fun i0 => dI (z.b.O i0 4), fun i0 => dI (z.b.O i0 5)], DV.lst z.b.nB [fun i0 => dI (z.b.B i0 0), fun i0 => dI (z.b.B i0 1), fun i0 => dI (z.b.B i0 2), fun i0 => dI (z.b.B i0 3), fun i0 => dI (z.b.B i0 4), fun i0 => dI (z.b.B i0 5)], DV.lst z.nB [fun i0 => dI (z.B i0)], DV.lst z.nO [fun i0 => dI (z.O i0)], dI z.W, dI z.G, dI z.L, dI (x0 z), x4 z, DV.lst (z.b.N 0) [fun i0 => dI (z.b.X 0 i0), fun i0 => dI (z.b.Y 0 i0), fun i0 => dI (z.b.X 0 (ix (z.b.N 0) ((i0:Int) + 1))), fun i0 => dI (z.b.Y 0 (ix (z.b.N 0) ((i0:Int) + 1))), fun i0 => dI (lenW (z.b.N 0) (z.b.X 0) (z.b.Y 0) (i0:Int)), fun i0 => dI (dD (z.b.N 0) (z.b.X 0) (z.b.Y 0) (i0:Int))], DV.lst (z.b.N 0) [fun i0 => dI (cor (z.b.N 0) (z.b.X 0) (z.b.Y 0) i0)]]] (dI (x1 z))] (VT.need [i64In (4000 * x0 z)] (VT.ite (decide ((x1 z) > (4000 * x0 z))) (VT.done [x2 z = 0, 8 = mgE (x1 z) (x0 z)]) (VT.need [0 ≤ x1 z ∧ 0 < x0 z ∧ x1 z ≤ 9223372036854775807, FnC prog 59 [DV.agg [dI (x0 z), x4 z], dI (x1 z / x0 z)] (DV.lst (x3 z) [fun i0 => dI (x5 z i0)])] (VT.done [x3 z = x2 z, ∀ i0 < x2 z, rf (x5 z i0), 0 = mgE (x1 z) (x0 z)]))))
end
end w4b
open w4b in
theorem measuredR_c (b : Bld) (nB : Nat) (B : Nat → Int) (nO : Nat) (O : Nat → Int) (W G L : Int) (hn : 0 < b.N 0) (hn2 : b.N 0 ≤ 1000) (hX : inB (b.N 0) (b.X 0)) (hY : inB (b.N 0) (b.Y 0)) (hg : gwOk G W) (hs : Lay.sysE nB B nO O W G L = 0) : FnC prog 50 [ringD b nB B nO O W G L] (.tup [.lst (mgN (lonG (b.N 0) (b.X 0) (b.Y 0) G W (4 * b.N 0)) (Lay.catU nB B nO O W G L)) [fun k => dI (tabC nB B nO O W G L k)], dI (mgE (lonG (b.N 0) (b.X 0) (b.Y 0) G W (4 * b.N 0)) (Lay.catU nB B nO O W G L))]) := by
  refine FnC_owed hmix (A50_measuredR_c b nB B nO O W G L) (V := xt ⟨b, nB, B, nO, O, W, G, L⟩) (by kernel_rfl) ?_
  simp only [xt, x0, x1, x2, x3, x4, x5, Rf, VT.holds, AllT, Sq]
  obtain ⟨s1, s2, s3, sB, sO, _, _⟩ := Lay.sys_ok hs
  have hu := Lay.unitP_bd s1 sB sO
  have cu : Lay.catU nB B nO O W G L = Lay.unitP nB B nO O (nB + nO) := by rw [Lay.catU, if_pos hs]
  have cn : Lay.catN nB B nO O W G L = nB + nO := by rw [Lay.catN, if_pos hs]
  have hl := lonG_bd hn hX hY hg (4 * b.N 0)
  rw [← cu] at hu
  have hq : lonG (b.N 0) (b.X 0) (b.Y 0) G W (4 * b.N 0) > 4000 * (Lay.catU nB B nO O W G L : Int) ∨ lonG (b.N 0) (b.X 0) (b.Y 0) G W (4 * b.N 0) / (Lay.catU nB B nO O W G L : Int) ≤ 4000 := by
    by_cases h : lonG (b.N 0) (b.X 0) (b.Y 0) G W (4 * b.N 0) > 4000 * (Lay.catU nB B nO O W G L : Int)
    · exact .inl h
    · refine .inr ?_
      have := Int.ediv_le_ediv (a := lonG (b.N 0) (b.X 0) (b.Y 0) G W (4 * b.N 0)) (b := 4000 * (Lay.catU nB B nO O W G L : Int)) (c := (Lay.catU nB B nO O W G L : Int)) (by omega) (by omega)
      rwa [Int.mul_ediv_cancel _ (by omega)] at this
  have hq0 := Int.ediv_nonneg hl.1 (show 0 ≤ (Lay.catU nB B nO O W G L : Int) by omega)
  refine ⟨longest_c b nB B nO O W G L hn hn2 hX hY hg, by unfold i64In; omega, fun h => ?_, fun h => ⟨⟨by omega, ?_⟩, ?_, ?_⟩⟩
  · exact ⟨by rw [mgN, mgE, if_pos h]; rfl, by rw [mgE, if_pos h]⟩
  · have := Lay.table_c (Lay.unitP nB B nO O (nB + nO)) (nB + nO) (Lay.pLen nB B nO O) (Lay.pCode nB) (fun i => decide (nB ≤ i)) (lonG (b.N 0) (b.X 0) (b.Y 0) G W (4 * b.N 0) / (Lay.catU nB B nO O W G L : Int)) (by rw [← cu]; omega) (by omega) (fun i hi => Lay.pLen_bd sB sO hi) (fun i hi => Lay.unitsP_pos sB sO hi) (fun i _ => Lay.pCode_bd nB i) hq0 (by omega)
    rw [cn]
    rw [← cu] at this
    unfold tabC
    rw [cu] at this ⊢
    exact this
  · rw [mgN, mgE, if_neg h, if_pos rfl]
  · rw [mgE, if_neg h]
noncomputable def A51_code_c (c0 c1 : DV) (rf : Int) (c3 c4 c5 c6 : DV) (W G L : Int) (u : Nat) (c11 : DV) (n : Nat) (X Y : Nat → Int) (N : Nat) (T : Nat → Int) (i a e : Int) : Ann := { orc := [(1, [(4, .res fun _ => dI (ruL n X Y G W i a e))]), (2, [(9, .pos)]), (4, [(7, .pos)])], loops := [], cuts := [] }
namespace w4c
noncomputable section
structure Z where
  c0 : DV
  c1 : DV
  rf : Int
  c3 : DV
  c4 : DV
  c5 : DV
  c6 : DV
  W : Int
  G : Int
  L : Int
  u : Nat
  c11 : DV
  n : Nat
  X : Nat → Int
  Y : Nat → Int
  N : Nat
  T : Nat → Int
  i : Int
  a : Int
  e : Int
variable (z : Z) (P : List Prop)
abbrev x0 := ruL z.n z.X z.Y z.G z.W z.i z.a z.e
abbrev x1 := decide ((x0 z) < (0:Int))
abbrev x2 : Int := (z.u:Int)
abbrev x3 := (!(x1 z)) = true
abbrev x4 : List Prop := ri (x3 z) :: ri (x3 z) :: P
abbrev xt : VT := VT.need [FnC prog 54 [DV.cptr [z.c0, z.c1, dI z.rf, z.c3, z.c4, z.c5, z.c6, dI z.W, dI z.G, dI z.L, dI (x2 z), z.c11, DV.lst z.n [fun i0 => dI (z.X i0), fun i0 => dI (z.Y i0), fun i0 => dI (z.X (ix z.n ((i0:Int) + 1))), fun i0 => dI (z.Y (ix z.n ((i0:Int) + 1))), fun i0 => dI (lenW z.n z.X z.Y (i0:Int)), fun i0 => dI (dD z.n z.X z.Y (i0:Int))], DV.lst z.n [fun i0 => dI (cor z.n z.X z.Y i0)]], dI z.i, dI z.a, dI z.e] (dI (x0 z))] (VT.need (x4 z (x4 z (x4 z [x3 z → 0 ≤ x0 z ∧ 0 < x2 z, ri (x3 z), x1 z = false → x3 z]))) (VT.ite (if (x1 z) = true then true else (x0 z % x2 z != 0)) (VT.done [(-(1:Int)) = codF z.T (x2 z) (x0 z)]) (VT.need [0 ≤ x0 z ∧ 0 < x2 z ∧ x0 z ≤ 9223372036854775807, 0 ≤ x0 z / x2 z ∧ x0 z / x2 z < (z.N:Int)] (VT.done [(z.T (Int.toNat (x0 z / x2 z))) = codF z.T (x2 z) (x0 z)]))))
end
end w4c
open w4c in
theorem code_c (c0 c1 : DV) (rf : Int) (c3 c4 c5 c6 : DV) (W G L : Int) (u : Nat) (c11 : DV) (n : Nat) (X Y : Nat → Int) (N : Nat) (T : Nat → Int) (i a e : Int) (h : 0 ≤ i ∧ i < n) (hn2 : n ≤ 1000) (hX : inB n X) (hY : inB n Y) (hg : gwOk G W) (ha : 0 ≤ a ∧ a ≤ 1) (he : 0 ≤ e ∧ e ≤ 1) (hu : 1 ≤ u ∧ u ≤ 10000) (hN : ruL n X Y G W i a e / u < N) : FnC prog 51 [ringC c0 c1 rf c3 c4 c5 c6 W G L (dI (u : Int)) c11 n X Y, Lay.nums N T, dI i, dI a, dI e] (dI (codF T u (ruL n X Y G W i a e))) := by
  refine FnC_owed hmix (A51_code_c c0 c1 rf c3 c4 c5 c6 W G L u c11 n X Y N T i a e) (V := xt ⟨c0, c1, rf, c3, c4, c5, c6, W, G, L, u, c11, n, X, Y, N, T, i, a, e⟩) (by kernel_rfl) ?_
  simp only [xt, x0, x1, x2, x3, x4, Rf, VT.holds, AllT, Sq]
  have hb := ru_bd (by omega) hX hY hg i ha he
  refine ⟨runLen_c _ _ _ _ _ _ _ _ _ _ _ _ _ _ _ _ _ _ h hn2 hX hY hg ha he, fun h1 => by omega, fun h1 => by rw [codF, if_pos h1], fun h1 => ⟨⟨by omega, Int.ediv_nonneg (by omega) (by omega), hN⟩, ?_⟩⟩
  rw [codF, if_neg (by omega)]
end Go.Abs
end
section
set_option linter.unusedVariables false
set_option linter.unusedSimpArgs false
set_option maxRecDepth 100000
namespace Go.Abs
open Go
/-- What Blocked tells: its error, how many facades, which. -/
def bkdU (nB : Nat) (B : Nat → Int) (nO : Nat) (O : Nat → Int) (W G L : Int) : Int := (Lay.catU nB B nO O W G L : Nat)
/-- The specification's: a run too large; the code of a length; light. -/
def lgF (b : Bld) (G W u : Int) : Bool := decide (∃ i, i < b.N 0 ∧ ruL (b.N 0) (b.X 0) (b.Y 0) G W (i : Nat) 1 0 > 4000 * u)
def litF (b : Bld) (G W u : Int) : Bool := decide (∀ i, i < b.N 0 → ¬ (ruL (b.N 0) (b.X 0) (b.Y 0) G W (i : Nat) 1 0 > 800 * u ∧ ruL (b.N 0) (b.X 0) (b.Y 0) G W (i : Nat) 1 0 ≤ 4000 * u))
section
variable {b : Bld} {nB : Nat} {B : Nat → Int} {nO : Nat} {O : Nat → Int} {W G L : Int}
theorem u_bdB (hs : Lay.sysE nB B nO O W G L = 0) : bkdU nB B nO O W G L = uRI nB B nO O ∧ 1 ≤ uRI nB B nO O ∧ uRI nB B nO O ≤ 10000 := u_bd hs
end
noncomputable def A16_light_c (b : Bld) (nB : Nat) (B : Nat → Int) (nO : Nat) (O : Nat → Int) (W G L : Int) : Ann := { orc := [(1, [(2, .res fun _ => dI (uRI nB B nO O))]), (5, [(5, .res fun l => dI (ruL (b.N 0) (b.X 0) (b.Y 0) G W (aI l 2) 1 0))])], loops := [(0, { ι := Nat, keep := [1, 3], boxes := [1], ts := fun _ i => [(4, dI (i : Int))], inv := fun _ i => i ≤ b.N 0 ∧ ∀ k, k < i → ¬ (ruL (b.N 0) (b.X 0) (b.Y 0) G W (k : Nat) 1 0 > 800 * (uRI nB B nO O) ∧ ruL (b.N 0) (b.X 0) (b.Y 0) G W (k : Nat) 1 0 ≤ 4000 * (uRI nB B nO O)), mu := fun _ i => b.N 0 - i, rd := fun _ σ => (iOf (σ.get 4)).toNat })], cuts := [] }
namespace w4d
noncomputable section
structure Z where
  b : Bld
  nB : Nat
  B : Nat → Int
  nO : Nat
  O : Nat → Int
  W : Int
  G : Int
  L : Int
variable (z : Z) (i0 i1 : Nat) (P : List Prop) (a : Int) (k : Nat) (g : Bool)
abbrev x0 := uRI z.nB z.B z.nO z.O
abbrev x1 := i0 < z.b.nO → rf (z.b.O i0 k)
abbrev x2 := i0 < z.b.nB → rf (z.b.B i0 k)
abbrev x3 := ruL (z.b.N 0) (z.b.X 0) (z.b.Y 0) z.G z.W a 1 0
abbrev x4 := decide ((x3 z (i0:Int)) > (800 * x0 z))
abbrev x5 := Int.toNat ((i0:Int) + 1)
abbrev x6 := i1 < k → (¬(x3 z (i1:Int) > 800 * x0 z ∧ x3 z (i1:Int) ≤ 4000 * x0 z))
abbrev x7 := DV.agg [DV.lst z.nB [fun i0 => dI (z.B i0)], DV.lst z.nO [fun i0 => dI (z.O i0)], dI z.W, dI z.G, dI z.L]
abbrev x8 := VT.done [g = litF z.b z.G z.W (x0 z)]
abbrev x9 : List Prop := (a = (k:Int)) :: rf (x0 z) :: rf z.b.name :: rf z.b.nS :: (∀ i0 < z.b.nS, rf (z.b.fl i0)) :: (∀ i0 < z.b.nS, rf (z.b.N i0) ∧ (∀ i1 < z.b.N i0, rf (z.b.X i0 i1)) ∧ (∀ i1 < z.b.N i0, rf (z.b.Y i0 i1))) :: rf z.b.roof :: rf z.b.nO :: (∀ (i0 : Nat), x1 z i0 (0:Nat)) :: (∀ (i0 : Nat), x1 z i0 (1:Nat)) :: (∀ (i0 : Nat), x1 z i0 (2:Nat)) :: (∀ (i0 : Nat), x1 z i0 (3:Nat)) :: (∀ (i0 : Nat), x1 z i0 (4:Nat)) :: (∀ (i0 : Nat), x1 z i0 (5:Nat)) :: rf z.b.nB :: (∀ (i0 : Nat), x2 z i0 (0:Nat)) :: (∀ (i0 : Nat), x2 z i0 (1:Nat)) :: (∀ (i0 : Nat), x2 z i0 (2:Nat)) :: (∀ (i0 : Nat), x2 z i0 (3:Nat)) :: (∀ (i0 : Nat), x2 z i0 (4:Nat)) :: (∀ (i0 : Nat), x2 z i0 (5:Nat)) :: rf z.nB :: (∀ i0 < z.nB, rf (z.B i0)) :: rf z.nO :: (∀ i0 < z.nO, rf (z.O i0)) :: rf z.W :: rf z.G :: rf z.L :: P
abbrev xt : VT := VT.need [FnC prog 48 [x7 z] (dI (x0 z))] (VT.loop Nat (fun i0 => i0 ≤ z.b.N 0 ∧ (∀ (i1 : Nat), x6 z i1 i0)) (Int.toNat 0) (x9 z [] (0:Int) (Int.toNat 0)) (fun i0 => VT.need [(0:Int) ≤ (0:Int) ∧ 0 < (z.b.nS:Int)] (VT.ite (decide ((i0:Int) < (↑(z.b.N (Int.toNat 0)) : Int))) (VT.need [FnC prog 36 [bld z.b, x7 z, dI (i0:Int), dI 1, dI 0] (dI (x3 z (i0:Int)))] (VT.need [i64In (800 * x0 z), ri (x4 z i0 = true), x4 z i0 = true → i64In (4000 * x0 z), ri (x4 z i0 = true), ri (x4 z i0 = true), ri (x4 z i0 = true)] (VT.ite (if (x4 z i0) = true then (decide ((x3 z (i0:Int)) ≤ (4000 * x0 z))) else false) (x8 z false) (VT.need [i64In ((i0:Int) + 1)] (VT.done (x9 z [x5 i0 ≤ z.b.N 0 ∧ (∀ (i1 : Nat), x6 z i1 (x5 i0)), z.b.N 0 - x5 i0 < z.b.N 0 - i0] ((i0:Int) + 1) (x5 i0))))))) (x8 z true))))
end
end w4d
open w4d in
theorem light_c (b : Bld) (nB : Nat) (B : Nat → Int) (nO : Nat) (O : Nat → Int) (W G L : Int) (h0 : arE b nB B nO O W G L = 0) : FnC prog 16 [jobD b nB B nO O W G L] (dB (litF b G W (uRI nB B nO O))) := by
  refine FnC_owed hmix (A16_light_c b nB B nO O W G L) (V := xt ⟨b, nB, B, nO, O, W, G, L⟩) (by kernel_rfl) ?_
  simp only [xt, x0, x1, x2, x3, x4, x5, x6, x7, x8, x9, Rf, VT.holds, AllT, Sq]
  obtain ⟨hc, hs, _, _, _, _, _⟩ := ar_zero h0
  obtain ⟨b1, b2, b3, b4, b5⟩ := b0_ok hc
  have hn := chk_n b2
  have g1 := (sys_wgl hs).1
  obtain ⟨u1, u2, u3⟩ := u_bdB hs
  obtain ⟨s1, s2, s3, sB, sO, _, _⟩ := Lay.sys_ok hs
  refine ⟨Lay.unitR_c nB B nO O W G L s2 s3 sB sO, rfl, ⟨Nat.zero_le _, fun k hk => absurd hk (Nat.not_lt_zero k)⟩, fun i ⟨hi, hb⟩ => ⟨by omega, fun hlt => ⟨runLenR_c b nB B nO O W G L i 1 0 b1 b2 g1 (by omega) (by omega) (by omega), ⟨by unfold i64In; omega, fun _ => by unfold i64In; omega⟩, fun h => ?_, fun h => ⟨by unfold i64In; omega, rfl, ⟨by omega, fun k hk => ?_⟩, by omega⟩⟩, fun hge => ?_⟩⟩
  · rw [litF, eq_comm, decide_eq_false_iff_not]
    exact fun hx => hx i (by omega) h
  · by_cases e : k = i
    · rw [e]; exact fun hx => h hx.1 hx.2
    · exact hb k (by omega)
  · rw [litF, eq_comm, decide_eq_true_eq]
    exact fun k hk => hb k (by omega)
noncomputable def A18_large_c (b : Bld) (nB : Nat) (B : Nat → Int) (nO : Nat) (O : Nat → Int) (W G L : Int) : Ann := { orc := [(2, [(2, rFst b)]), (4, [(3, .res fun l => dI (ruL (b.N 0) (b.X 0) (b.Y 0) G W (aI l 2) 1 0)), (5, .res fun _ => dI (uRI nB B nO O))])], loops := [(0, { ι := Nat, keep := [2, 3], boxes := [2, 3], ts := fun _ i => [(5, dI (i : Int))], inv := fun _ i => i ≤ b.N 0 ∧ ∀ k, k < i → ¬ ruL (b.N 0) (b.X 0) (b.Y 0) G W (k : Nat) 1 0 > 4000 * (uRI nB B nO O), mu := fun _ i => b.N 0 - i, rd := fun _ σ => (iOf (σ.get 5)).toNat })], cuts := [] }
namespace w4e
noncomputable section
structure Z where
  b : Bld
  nB : Nat
  B : Nat → Int
  nO : Nat
  O : Nat → Int
  W : Int
  G : Int
  L : Int
variable (z : Z) (i0 i1 : Nat) (P : List Prop) (a : Int) (k : Nat) (g : Bool)
abbrev x0 := i0 < z.b.nO → rf (z.b.O i0 k)
abbrev x1 := i0 < z.b.nB → rf (z.b.B i0 k)
abbrev x2 := uRI z.nB z.B z.nO z.O
abbrev x3 := Int.toNat ((i0:Int) + 1)
abbrev x4 := ruL (z.b.N 0) (z.b.X 0) (z.b.Y 0) z.G z.W a 1 0
abbrev x5 := i1 < k → (¬(x4 z (i1:Int) > 4000 * x2 z))
abbrev x6 := DV.agg [DV.lst z.nB [fun i0 => dI (z.B i0)], DV.lst z.nO [fun i0 => dI (z.O i0)], dI z.W, dI z.G, dI z.L]
abbrev x7 := VT.done [g = lgF z.b z.G z.W (x2 z)]
abbrev x8 : List Prop := (a = (k:Int)) :: rf z.b.name :: rf z.b.nS :: (∀ i0 < z.b.nS, rf (z.b.fl i0)) :: (∀ i0 < z.b.nS, rf (z.b.N i0) ∧ (∀ i1 < z.b.N i0, rf (z.b.X i0 i1)) ∧ (∀ i1 < z.b.N i0, rf (z.b.Y i0 i1))) :: rf z.b.roof :: rf z.b.nO :: (∀ (i0 : Nat), x0 z i0 (0:Nat)) :: (∀ (i0 : Nat), x0 z i0 (1:Nat)) :: (∀ (i0 : Nat), x0 z i0 (2:Nat)) :: (∀ (i0 : Nat), x0 z i0 (3:Nat)) :: (∀ (i0 : Nat), x0 z i0 (4:Nat)) :: (∀ (i0 : Nat), x0 z i0 (5:Nat)) :: rf z.b.nB :: (∀ (i0 : Nat), x1 z i0 (0:Nat)) :: (∀ (i0 : Nat), x1 z i0 (1:Nat)) :: (∀ (i0 : Nat), x1 z i0 (2:Nat)) :: (∀ (i0 : Nat), x1 z i0 (3:Nat)) :: (∀ (i0 : Nat), x1 z i0 (4:Nat)) :: (∀ (i0 : Nat), x1 z i0 (5:Nat)) :: rf z.nB :: (∀ i0 < z.nB, rf (z.B i0)) :: rf z.nO :: (∀ i0 < z.nO, rf (z.O i0)) :: rf z.W :: rf z.G :: P
abbrev xt : VT := VT.loop Nat (fun i0 => i0 ≤ z.b.N 0 ∧ (∀ (i1 : Nat), x5 z i1 i0)) (Int.toNat 0) (x8 z [rf z.L] (0:Int) (Int.toNat 0)) (fun i0 => VT.need [FnC prog 33 [bld z.b] (DV.lst (z.b.N 0) [fun i0 => dI (z.b.X 0 i0), fun i0 => dI (z.b.Y 0 i0)])] (VT.ite (decide ((i0:Int) < (↑(z.b.N 0) : Int))) (VT.need [FnC prog 36 [bld z.b, x6 z, dI (i0:Int), dI 1, dI 0] (dI (x4 z (i0:Int))), FnC prog 48 [x6 z] (dI (x2 z)), i64In (4000 * x2 z)] (VT.ite (decide ((x4 z (i0:Int)) > (4000 * x2 z))) (x7 z true) (VT.need [i64In ((i0:Int) + 1)] (VT.done (x8 z [rf z.L, x3 i0 ≤ z.b.N 0 ∧ (∀ (i1 : Nat), x5 z i1 (x3 i0)), z.b.N 0 - x3 i0 < z.b.N 0 - i0] ((i0:Int) + 1) (x3 i0)))))) (x7 z false)))
end
end w4e
open w4e in
theorem large_c (b : Bld) (nB : Nat) (B : Nat → Int) (nO : Nat) (O : Nat → Int) (W G L : Int) (h0 : arE b nB B nO O W G L = 0) : FnC prog 18 [bld b, Lay.sys nB B nO O W G L] (dB (lgF b G W (uRI nB B nO O))) := by
  refine FnC_owed hmix (A18_large_c b nB B nO O W G L) (V := xt ⟨b, nB, B, nO, O, W, G, L⟩) (by kernel_rfl) ?_
  simp only [xt, x0, x1, x2, x3, x4, x5, x6, x7, x8, Rf, VT.holds, AllT, Sq]
  obtain ⟨hc, hs, _, _, _, _, _⟩ := ar_zero h0
  obtain ⟨b1, b2, b3, b4, b5⟩ := b0_ok hc
  have hn := chk_n b2
  have g1 := (sys_wgl hs).1
  obtain ⟨u1, u2, u3⟩ := u_bdB hs
  obtain ⟨s1, s2, s3, sB, sO, _, _⟩ := Lay.sys_ok hs
  refine ⟨rfl, ⟨Nat.zero_le _, fun k hk => absurd hk (Nat.not_lt_zero k)⟩, fun i ⟨hi, hb⟩ => ⟨first_c b b1, fun hlt => ⟨⟨runLenR_c b nB B nO O W G L i 1 0 b1 b2 g1 (by omega) (by omega) (by omega), Lay.unitR_c nB B nO O W G L s2 s3 sB sO, by unfold i64In; omega⟩, fun h => ?_, fun h => ⟨by unfold i64In; omega, rfl, ⟨by omega, fun k hk => ?_⟩, by omega⟩⟩, fun hge => ?_⟩⟩
  · rw [lgF, eq_comm, decide_eq_true_eq]
    exact ⟨i, by omega, h⟩
  · by_cases e : k = i
    · rw [e]; exact h
    · exact hb k (by omega)
  · rw [lgF, eq_comm, decide_eq_false_iff_not]
    exact fun ⟨k, hk, hx⟩ => hb k (by omega) hx
noncomputable def A56_least_c (nB : Nat) (B : Nat → Int) (nO : Nat) (O : Nat → Int) (W G L len : Int) : Ann := { orc := [(1, [(5, .res fun _ => dI (uRI nB B nO O)), (6, .pos)]), (3, [(2, .res fun _ => .lst (len / (uRI nB B nO O) + 1).toNat [fun k => dI (Lay.tabRS nB B nO O k)])])], loops := [], cuts := [] }
namespace w4f
noncomputable section
structure Z where
  nB : Nat
  B : Nat → Int
  nO : Nat
  O : Nat → Int
  W : Int
  G : Int
  L : Int
  len : Int
variable (z : Z) (a : Int)
abbrev x0 := uRI z.nB z.B z.nO z.O
abbrev x1 := decide (z.len < (0:Int))
abbrev x2 := (!(x1 z)) = true
abbrev x3 := Int.toNat (z.len / x0 z + 1)
abbrev x4 := (↑(x3 z) : Int) - 1
abbrev x5 := DV.agg [DV.lst z.nB [fun i0 => dI (z.B i0)], DV.lst z.nO [fun i0 => dI (z.O i0)], dI z.W, dI z.G, dI z.L]
abbrev x6 := VT.done [a = codF (Lay.tabRS z.nB z.B z.nO z.O) (x0 z) z.len]
abbrev xt : VT := VT.need [ri (x2 z), x2 z → FnC prog 48 [x5 z] (dI (x0 z)), ri (x2 z), ri (x2 z), x2 z → 0 ≤ z.len ∧ 0 < x0 z, ri (x2 z), x1 z = false → x2 z] (VT.ite (if (x1 z) = true then true else (z.len % x0 z != 0)) (x6 z (-(1:Int))) (VT.need [FnC prog 91 [x5 z, dI z.len] (DV.lst (x3 z) [fun i0 => dI (Lay.tabRS z.nB z.B z.nO z.O i0)])] (VT.need [i64In (x4 z), 0 ≤ x4 z ∧ x4 z < (↑(x3 z) : Int)] (x6 z (Lay.tabRS z.nB z.B z.nO z.O (Int.toNat (x4 z)))))))
end
end w4f
open w4f in
theorem least_c (nB : Nat) (B : Nat → Int) (nO : Nat) (O : Nat → Int) (W G L len : Int) (hs : Lay.sysE nB B nO O W G L = 0) (hl : len ≤ 4000 * (uRI nB B nO O)) (hl2 : -9000000 ≤ len ∧ len ≤ 9000000) : FnC prog 56 [Lay.sys nB B nO O W G L, dI len] (dI (codF (Lay.tabRS nB B nO O) (uRI nB B nO O) len)) := by
  refine FnC_owed hmix (A56_least_c nB B nO O W G L len) (V := xt ⟨nB, B, nO, O, W, G, L, len⟩) (by kernel_rfl) ?_
  simp only [xt, x0, x1, x2, x3, x4, x5, x6, Rf, VT.holds, AllT, Sq]
  obtain ⟨u1, u2, u3⟩ := u_bdB hs
  obtain ⟨s1, s2, s3, sB, sO, _, _⟩ := Lay.sys_ok hs
  have hU : uRI nB B nO O = (Lay.unitR nB B O (nB + nO) : Nat) := rfl
  refine ⟨⟨fun _ => Lay.unitR_c nB B nO O W G L s2 s3 sB sO, fun h => by omega⟩, fun h => by rw [codF, if_pos h], fun h => ?_⟩
  have hq := Int.ediv_nonneg (show 0 ≤ len by omega) (show 0 ≤ uRI nB B nO O by omega)
  have hq2 := Int.ediv_le_self (uRI nB B nO O) (show 0 ≤ len by omega)
  refine ⟨Lay.tableR_c nB B nO O W G L len hs ?_, ⟨by unfold i64In; omega, by omega, by omega⟩, ?_⟩
  · rw [Lay.lenR, if_neg (by omega), if_neg (by rw [← hU]; omega)]
  · rw [codF, if_neg (by omega), show (((len / uRI nB B nO O + 1).toNat : Int) - 1).toNat = (len / uRI nB B nO O).toNat by omega]
end Go.Abs
end
