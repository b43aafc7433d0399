/- Contracts. -/
import Derived.Test.YtagpmenaaekdeaaGreatDoorK48
set_option linter.unusedVariables false
set_option linter.unusedSimpArgs false
set_option maxRecDepth 100000
namespace Go.Abs
open Go
section
variable {b : Bld} {nB : Nat} {B : Nat → Int} {nO : Nat} {O : Nat → Int} {W G L : Int}
theorem blocked_c (b : Bld) (nB : Nat) (B : Nat → Int) (nO : Nat) (O : Nat → Int) (W G L : Int) (hN : ∀ i, i < b.nS → b.N i ≤ 1000) :
    FnC prog 21 [bld b, Lay.sys nB B nO O W G L] (.tup [Lay.nums (bkdN b nB B nO O W G L) (bkdF b nB B nO O W G L), dI (bkdE b nB B nO O W G L)]) := by
  by_cases h : arE b nB B nO O W G L = 0
  · exact blockedB_c b nB B nO O W G L hN h
  · rw [bkdN, if_neg (by rw [bkdE_1 h]; exact h), bkdE_1 h]
    exact blockedA_c b nB B nO O W G L hN h
theorem tab_same (k : Nat) : tabC nB B nO O W G L k = Lay.tabRS nB B nO O k := by
  unfold tabC Lay.tabRS
  have h := Lay.table_eq (Lay.unitP nB B nO O (nB + nO)) nB B nO O k
  rw [Lay.unit_eq] at h ⊢
  exact h
theorem lea_mos (hs : Lay.sysE nB B nO O W G L = 0) (i : Nat) : leaC b nB B nO O W G L i 4 = false ↔ mosC b nB B nO O W G L i 4 < 0 := by
  have hT : tabC nB B nO O W G L = Lay.tabRS nB B nO O := funext fun k => tab_same k
  have hu := (u_bd hs).1
  unfold mosC
  rw [hT, hu]
  simp only [leaC, mosF, Bool.or_eq_false_iff, decide_eq_false_iff_not, Bool.false_or]
  omega
theorem lea_bkd (hs : Lay.sysE nB B nO O W G L = 0) : ∀ k, leaL b nB B nO O W G L k = bkdL b nB B nO O W G L k
  | 0 => rfl
  | k + 1 => by
    rw [leaL, lea_bkd hs k]
    by_cases h : mosC b nB B nO O W G L k 4 < 0
    · rw [if_pos ((lea_mos hs k).2 h), bkdL_yes h]
    · rw [if_neg (fun hx => h ((lea_mos hs k).1 hx)), bkdL_no h]
theorem lg_mg (h0 : arE b nB B nO O W G L = 0) : lgF b G W (uRI nB B nO O) = true ↔ mgE (lonG (b.N 0) (b.X 0) (b.Y 0) G W (4 * b.N 0)) (bkdU nB B nO O W G L) = 8 := by
  obtain ⟨hc, hs, _, _, _, _, _⟩ := ar_zero h0
  obtain ⟨b1, b2, b3, b4, b5⟩ := b0_ok hc
  have hn := chk_n b2
  have g1 := (sys_wgl hs).1
  obtain ⟨u1, u2, u3⟩ := u_bd hs
  rw [u1, lgF, decide_eq_true_eq, mgE]
  constructor
  · rintro ⟨i, hi, h⟩
    have := lonG_at (n := b.N 0) (X := b.X 0) (Y := b.Y 0) (G := G) (W := W) (i := i) (c := 2) hi (by omega)
    rw [show ((2 / 2 : Nat) : Int) = 1 from rfl, show ((2 % 2 : Nat) : Int) = 0 from rfl] at this
    rw [if_pos (by omega)]
  · intro h
    split at h
    · rename_i h1
      rcases lonG_is (n := b.N 0) (X := b.X 0) (Y := b.Y 0) (G := G) (W := W) (4 * b.N 0) with e | ⟨k, hk, e⟩
      · omega
      · have h4 := c4 (c := k % 4) (by omega)
        have := ru_le (n := b.N 0) (X := b.X 0) (Y := b.Y 0) g1 ((k / 4 : Nat) : Int) h4.1 h4.2
        exact ⟨k / 4, by omega, by omega⟩
    · cases h
theorem mg_val (lon u : Int) : mgE lon u = 0 ∨ mgE lon u = 8 := by
  unfold mgE
  split
  · exact .inr rfl
  · exact .inl rfl
end
noncomputable def A5_blocked_law (b : Bld) (nB : Nat) (B : Nat → Int) (nO : Nat) (O : Nat → Int) (W G L : Int) : Ann := { orc := [(1, [(0, .res fun _ => dB true)]), (4, [(1, .res fun _ => dB (jobS b nB nO))]), (6, [(1, .res fun _ => dI (arE b nB B nO O W G L))]), (7, [(4, .res fun _ => dB (litF b G W (uRI nB B nO O)))]), (9, [(2, .res fun _ => bld b), (5, .res fun _ => Lay.sys nB B nO O W G L), (6, .res fun _ => .tup [Lay.nums (bkdN b nB B nO O W G L) (bkdF b nB B nO O W G L), dI (bkdE b nB B nO O W G L)])]), (10, [(7, .res fun _ => dB (lgF b G W (uRI nB B nO O)))]), (14, [(8, .res fun _ => .lst (leaL b nB B nO O W G L (b.N 0)).length [fun j => dI ((((leaL b nB B nO O W G L (b.N 0)).getD j 0 : Nat) : Int))]), (9, .res fun _ => dB true)])], loops := [], cuts := [(12, { ι := Unit, keep := [1, 4, 5], boxes := [1], ts := fun _ _ => [(3, dI (bkdE b nB B nO O W G L))], inv := fun _ _ => True, mu := fun _ _ => 0, rd := fun _ _ => () })] }
abbrev blocked_lawd0 (b : Bld) (nB : Nat) (B : Nat → Int) (nO : Nat) (O : Nat → Int) (W : Int) (G : Int) (L : Int) : DV := .agg [.val (.string b.name), .lst b.nS [fun i => (dI (b.fl i)), fun i => .lst (b.N i) [fun i_1 => (dI (b.X i i_1)), fun i_1 => (dI (b.Y i i_1))]], (dI b.roof), .lst b.nO [fun i => (dI (b.O i (0 : Nat))), fun i => (dI (b.O i (1 : Nat))), fun i => (dI (b.O i (2 : Nat))), fun i => (dI (b.O i (3 : Nat))), fun i => (dI (b.O i (4 : Nat))), fun i => (dI (b.O i (5 : Nat)))], .lst b.nB [fun i => (dI (b.B i (0 : Nat))), fun i => (dI (b.B i (1 : Nat))), fun i => (dI (b.B i (2 : Nat))), fun i => (dI (b.B i (3 : Nat))), fun i => (dI (b.B i (4 : Nat))), fun i => (dI (b.B i (5 : Nat)))], .lst nB [fun i => (dI (B i))], .lst nO [fun i => (dI (O i))], (dI W), (dI G), (dI L)]
abbrev blocked_lawr0 (b : Bld) (nB : Nat) (B : Nat → Int) (nO : Nat) (O : Nat → Int) (W : Int) (G : Int) (L : Int) (r : List Prop) : List Prop := (bkdN b nB B nO O W G L = bkdN b nB B nO O W G L) :: (∀ (i : Nat), i < bkdN b nB B nO O W G L → bkdF b nB B nO O W G L i = bkdF b nB B nO O W G L i) :: (bkdE b nB B nO O W G L = bkdE b nB B nO O W G L) :: (b.name = b.name) :: (b.nS = b.nS) :: (∀ (i : Nat), i < b.nS → b.fl i = b.fl i) :: (∀ (i : Nat), i < b.nS → b.N i = b.N i ∧ (∀ (i_1 : Nat), i_1 < b.N i → b.X i i_1 = b.X i i_1) ∧ ∀ (i_1 : Nat), i_1 < b.N i → b.Y i i_1 = b.Y i i_1) :: (b.roof = b.roof) :: (b.nO = b.nO) :: (∀ (i : Nat), i < b.nO → b.O i (0 : Nat) = b.O i (0 : Nat)) :: (∀ (i : Nat), i < b.nO → b.O i (1 : Nat) = b.O i (1 : Nat)) :: (∀ (i : Nat), i < b.nO → b.O i (2 : Nat) = b.O i (2 : Nat)) :: (∀ (i : Nat), i < b.nO → b.O i (3 : Nat) = b.O i (3 : Nat)) :: (∀ (i : Nat), i < b.nO → b.O i (4 : Nat) = b.O i (4 : Nat)) :: (∀ (i : Nat), i < b.nO → b.O i (5 : Nat) = b.O i (5 : Nat)) :: (b.nB = b.nB) :: (∀ (i : Nat), i < b.nB → b.B i (0 : Nat) = b.B i (0 : Nat)) :: (∀ (i : Nat), i < b.nB → b.B i (1 : Nat) = b.B i (1 : Nat)) :: (∀ (i : Nat), i < b.nB → b.B i (2 : Nat) = b.B i (2 : Nat)) :: (∀ (i : Nat), i < b.nB → b.B i (3 : Nat) = b.B i (3 : Nat)) :: (∀ (i : Nat), i < b.nB → b.B i (4 : Nat) = b.B i (4 : Nat)) :: (∀ (i : Nat), i < b.nB → b.B i (5 : Nat) = b.B i (5 : Nat)) :: (nB = nB) :: (∀ (i : Nat), i < nB → B i = B i) :: (nO = nO) :: (∀ (i : Nat), i < nO → O i = O i) :: (W = W) :: (G = G) :: (L = L) :: r
theorem blocked_law (b : Bld) (nB : Nat) (B : Nat → Int) (nO : Nat) (O : Nat → Int) (W G L : Int)  : FnC prog 5 [jobD b nB B nO O W G L] (dB true) := by
  refine FnC_owed hmix (A5_blocked_law b nB B nO O W G L) (V := .need [FnC prog (8 : Nat) [] ((dB true))] (.ite (!true) (.done [false = true]) (.need [FnC prog (9 : Nat) [(blocked_lawd0 b nB B nO O W G L)] ((dB (jobS b nB nO)))] (.ite (!jobS b nB nO) (.done [true = true]) (.need [FnC prog (13 : Nat) [(blocked_lawd0 b nB B nO O W G L)] ((dI (arE b nB B nO O W G L)))] (.need [(arE b nB B nO O W G L == (0 : Int)) = true → (arE b nB B nO O W G L == (0 : Int)) = true, (arE b nB B nO O W G L == (0 : Int)) = true → FnC prog (20 : Nat) [(blocked_lawd0 b nB B nO O W G L)] ((dB (litF b G W (uRI nB B nO O)))), (arE b nB B nO O W G L == (0 : Int)) = true → (arE b nB B nO O W G L == (0 : Int)) = true, (arE b nB B nO O W G L == (0 : Int)) = true → (arE b nB B nO O W G L == (0 : Int)) = true] (.ite (if (arE b nB B nO O W G L == (0 : Int)) = true then !litF b G W (uRI nB B nO O) else false) (.done [true = true]) (.need [FnC prog (11 : Nat) [(bld b)] ((bld b)), FnC prog (12 : Nat) [.agg [.lst nB [fun i => (dI (B i))], .lst nO [fun i => (dI (O i))], (dI W), (dI G), (dI L)]] (.agg [.lst nB [fun i => (dI (B i))], .lst nO [fun i => (dI (O i))], (dI W), (dI G), (dI L)]), FnC prog (21 : Nat) [(bld b), .agg [.lst nB [fun i => (dI (B i))], .lst nO [fun i => (dI (O i))], (dI W), (dI G), (dI L)]] (.tup [.lst (bkdN b nB B nO O W G L) [fun i => (dI (bkdF b nB B nO O W G L i))], (dI (bkdE b nB B nO O W G L))])] (.cut PUnit (fun (a : PUnit) => True) (.need [(arE b nB B nO O W G L == (0 : Int)) = true → (arE b nB B nO O W G L == (0 : Int)) = true, (arE b nB B nO O W G L == (0 : Int)) = true → (arE b nB B nO O W G L == (0 : Int)) = true, (arE b nB B nO O W G L == (0 : Int)) = true → (arE b nB B nO O W G L == (0 : Int)) = true, (arE b nB B nO O W G L == (0 : Int)) = true → (arE b nB B nO O W G L == (0 : Int)) = true, (arE b nB B nO O W G L == (0 : Int)) = true → FnC prog (22 : Nat) [(bld b), .agg [.lst nB [fun i => (dI (B i))], .lst nO [fun i => (dI (O i))], (dI W), (dI G), (dI L)]] ((dB (lgF b G W (uRI nB B nO O)))), (arE b nB B nO O W G L == (0 : Int)) = true →
     (arE b nB B nO O W G L == (0 : Int)) = true] (.ite (if (arE b nB B nO O W G L == (0 : Int)) = true then lgF b G W (uRI nB B nO O) else false) (.done (((8 : Int) = bkdE b nB B nO O W G L) :: (blocked_lawr0 b nB B nO O W G L [True]))) (.done ((arE b nB B nO O W G L = bkdE b nB B nO O W G L) :: (blocked_lawr0 b nB B nO O W G L [True]))))) fun (i : PUnit) => .ite (bkdE b nB B nO O W G L != (0 : Int)) (.need [(bkdE b nB B nO O W G L == bkdE b nB B nO O W G L) = true → (bkdE b nB B nO O W G L == bkdE b nB B nO O W G L) = true, (bkdE b nB B nO O W G L == bkdE b nB B nO O W G L) = true → (bkdE b nB B nO O W G L == bkdE b nB B nO O W G L) = true, (bkdE b nB B nO O W G L == bkdE b nB B nO O W G L) = true → (bkdE b nB B nO O W G L == bkdE b nB B nO O W G L) = true] (.done [(if (bkdE b nB B nO O W G L == bkdE b nB B nO O W G L) = true then (↑(bkdN b nB B nO O W G L) : Int) == (0 : Int) else false) = true])) (.need [(bkdE b nB B nO O W G L == (0 : Int)) = true → (bkdE b nB B nO O W G L == (0 : Int)) = true, (bkdE b nB B nO O W G L == (0 : Int)) = true → (bkdE b nB B nO O W G L == (0 : Int)) = true, (bkdE b nB B nO O W G L == (0 : Int)) = true → (bkdE b nB B nO O W G L == (0 : Int)) = true, (bkdE b nB B nO O W G L == (0 : Int)) = true → (bkdE b nB B nO O W G L == (0 : Int)) = true, (bkdE b nB B nO O W G L == (0 : Int)) = true → FnC prog (24 : Nat) [(bld b), .agg [.lst nB [fun i => (dI (B i))], .lst nO [fun i => (dI (O i))], (dI W), (dI G), (dI L)]] (.lst (List.length (leaL b nB B nO O W G L (b.N (0 : Nat)))) [fun j => (dI (↑(List.getD (leaL b nB B nO O W G L (b.N (0 : Nat))) j (0 : Nat)) : Int))]), (bkdE b nB B nO O W G L == (0 : Int)) = true → (bkdE b nB B nO O W G L == (0 : Int)) = true, (bkdE b nB B nO O W G L == (0 : Int)) = true → (bkdE b nB B nO O W G L == (0 : Int)) = true, (bkdE b nB B nO O W G L == (0 : Int)) = true → FnC prog (23 : Nat) [.lst (bkdN b nB B nO O W G L) [fun i => (dI (bkdF b nB B nO O W G L i))], .lst (List.length (leaL b nB B nO O W G L (b.N (0 : Nat))))
     [fun j => (dI (↑(List.getD (leaL b nB B nO O W G L (b.N (0 : Nat))) j (0 : Nat)) : Int))]] ((dB true)), (bkdE b nB B nO O W G L == (0 : Int)) = true → (bkdE b nB B nO O W G L == (0 : Int)) = true] (.done [(if (bkdE b nB B nO O W G L == (0 : Int)) = true then true else false) = true]))))))))))) (by kernel_rfl) ?_
  simp only [VT.holds, AllT, blocked_lawd0, blocked_lawr0, imp_self, implies_true, and_true, true_and, toNat_succ, toNat_add2, toNat_zero', Int.toNat_natCast, Bool.if_true_left, Bool.if_false_right, Bool.decide_eq_true, Bool.or_eq_true, Bool.or_eq_false_iff, Bool.and_eq_true, Bool.and_eq_false_imp, Bool.not_eq_true', Bool.not_eq_false', Bool.not_not, bne_iff_ne, bne_eq_false_iff_eq, beq_iff_eq, beq_eq_false_iff_ne, decide_eq_true_eq, decide_eq_false_iff_not, ne_eq]
  refine ⟨awakeJ_c, fun h => (by cases h), fun _ => ⟨jobSmall_c b nB B nO O W G L, fun hj => ?_⟩⟩
  obtain ⟨⟨j1, j2, j3, j4⟩, j5, j6⟩ := jobS_ok hj
  have hN : ∀ i, i < b.nS → b.N i ≤ 1000 := fun i hi => by have := j4 i hi; omega
  have cp := copied_c b (by omega) (by omega) (by omega) hN
  have cs := Lay.copied_c nB B nO O W G L (by omega) (by omega)
  refine ⟨jobRing_c b nB B nO O W G L hN, fun h => light_c b nB B nO O W G L h, fun _ => ⟨⟨cp, cs, blocked_c b nB B nO O W G L hN⟩, ⟨fun h => large_c b nB B nO O W G L h, fun ⟨h1, h2⟩ => ?_, fun h => ?_⟩, fun _ _ => ⟨fun h => ?_, fun h => ?_⟩⟩⟩
  · rw [bkdE_2 h1, (lg_mg h1).1 h2]
  · by_cases h1 : arE b nB B nO O W G L = 0
    · rw [h1, bkdE_2 h1]
      rcases mg_val (lonG (b.N 0) (b.X 0) (b.Y 0) G W (4 * b.N 0)) (bkdU nB B nO O W G L) with e | e
      · exact e.symm
      · have := (lg_mg h1).2 e
        rw [h h1] at this; cases this
    · rw [bkdE_1 h1]
  · rw [bkdN, if_neg h]; rfl
  · have h1 : arE b nB B nO O W G L = 0 := by
      by_cases h1 : arE b nB B nO O W G L = 0
      · exact h1
      · rw [bkdE_1 h1] at h; exact h
    obtain ⟨hc, hs, _, _, _, _, _⟩ := ar_zero h1
    obtain ⟨b1, b2, b3, b4, b5⟩ := b0_ok hc
    have hn := chk_n b2
    have hl : ∀ i, i < b.N 0 → ruL (b.N 0) (b.X 0) (b.Y 0) G W (i : Nat) 1 0 ≤ 4000 * (uRI nB B nO O) := fun i hi => by
      have h2 : ¬ lgF b G W (uRI nB B nO O) = true := fun hx => by
        have := (lg_mg h1).1 hx
        rw [bkdE_2 h1, this] at h; cases h
      unfold lgF at h2
      rw [decide_eq_true_eq] at h2
      exact Int.not_lt.1 fun hx => h2 ⟨i, hi, hx⟩
    have hLL := lea_bkd hs (b := b) (b.N 0)
    have hlen := bdL_len (T := tabC nB B nO O W G L) (u := bkdU nB B nO O W G L) (n := b.N 0) (X := b.X 0) (Y := b.Y 0) (G := G) (W := W) (b.N 0)
    have hlen2 : (bkdL b nB B nO O W G L (b.N 0)).length ≤ b.N 0 := hlen
    have eN : bkdN b nB B nO O W G L = (bkdL b nB B nO O W G L (b.N 0)).length := by rw [bkdN, if_pos h]
    refine ⟨⟨fun _ => blockedR_c b nB B nO O W G L h1 hl, fun _ => ?_⟩, h⟩
    rw [hLL, eN]
    have := ints_c (bkdL b nB B nO O W G L (b.N 0)).length (bkdF b nB B nO O W G L) (bkdL b nB B nO O W G L (b.N 0)).length (fun j => (((bkdL b nB B nO O W G L (b.N 0)).getD j 0 : Nat) : Int)) (by omega)
    rw [show sameN (bkdL b nB B nO O W G L (b.N 0)).length (bkdF b nB B nO O W G L) (bkdL b nB B nO O W G L (b.N 0)).length (fun j => (((bkdL b nB B nO O W G L (b.N 0)).getD j 0 : Nat) : Int)) = true from decide_eq_true ⟨rfl, fun k _ => rfl⟩] at this
    exact this
end Go.Abs
