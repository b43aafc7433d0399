/- Contracts. -/
import Derived.Test.YteennpofimiliaaGreatDoorK51
set_option linter.unusedVariables false
set_option linter.unusedSimpArgs false
set_option maxRecDepth 100000
namespace Go.Abs
open Go
def prOk (l : Lyt) (i : Nat) : Prop := (∀ k, k < l.nP i → 1 ≤ l.P i k ∧ l.P i k ≤ 10000) ∧ ∀ k, k < l.nQ i → 1 ≤ l.Q i k ∧ l.Q i k ≤ 10000
section
variable {b : Bld} {nB : Nat} {B : Nat → Int} {nO : Nat} {O : Nat → Int} {W G L : Int} {l : Lyt}
/-- What an accepted layout gives. -/
theorem ly_ok (h0 : arE b nB B nO O W G L = 0) (h : lyE b nB B nO O W G l = 0) : (l.nC = b.N 0 ∧ l.nR = b.N 0) ∧ (∀ k, k < b.N 0 → 0 ≤ l.C k ∧ l.C k ≤ 1) ∧ ∀ i, i < b.N 0 → ruE b nB B nO O W G l i = 0 ∧ prOk l i := by
  obtain ⟨hc, hs, _, _, _, _, _⟩ := ar_zero h0
  by_cases h1 : l.nC = b.N 0 ∧ l.nR = b.N 0
  · cases h2 : Lay.anyN (fun k => bad01 (l.C k)) l.nC with
    | true => rw [ly_2 h1 h2] at h; cases h
    | false =>
      rw [ly_3 h1 h2] at h
      have h3 := firstE_zero h
      refine ⟨h1, fun k hk => bad01_sp.1 (anyN_no.1 h2 k (by omega)), fun i hi => ⟨h3 i hi, ?_⟩⟩
      have h4 := h3 i hi
      unfold ruE at h4
      split at h4
      · cases h4
      · split at h4
        · cases h4
        · unfold cloE Lay.closesE at h4
          have h5 : Lay.ckE nB B nO O (l.nP i) (l.P i) (l.nQ i) (l.Q i) = 0 := by
            split at h4
            · rename_i h6; first | exact h6 | exact absurd h4 h6
            · rename_i h6; first | exact Decidable.not_not.1 h6 | cases h4 | exact h4
          exact Lay.ck_bd hs h5
  · rw [ly_1 (by omega)] at h; cases h
end
noncomputable def A61_laidC_c (b : Bld) (nB : Nat) (B : Nat → Int) (nO : Nat) (O : Nat → Int) (W G L : Int) (l : Lyt) : Ann := { orc := [(1, [(2, rArO b nB B nO O W G L)]), (4, [(1, .res fun _ => dI (b.N 0 : Int))]), (7, [(2, .res fun _ => dB (Lay.anyN (fun k => bad01 (l.C k)) l.nC))]), (12, [(10, .pos)]), (15, [(7, .res fun q => dI (befF (b.N 0) (b.X 0) (b.Y 0) G W (aI q 1) (aI q 2))), (10, .res fun q => dP (atX (b.N 0) (b.X 0) (b.Y 0) (aI q 1) (aI q 2) (aI q 3)) (atY (b.N 0) (b.X 0) (b.Y 0) (aI q 1) (aI q 2) (aI q 3))), (19, .res fun q => dI (ruL (b.N 0) (b.X 0) (b.Y 0) G W (aI q 1) (aI q 2) (aI q 3)))]), (17, [(5, rClo nB B nO O)])], loops := [(0, { ι := Nat, keep := [3, 4, 5, 8, 10, 43, 44], boxes := [3, 4, 5], ts := fun _ i => [(45, dI (i : Int))], inv := fun _ i => i ≤ b.N 0, mu := fun _ i => b.N 0 - i, rd := fun _ σ => (iOf (σ.get 45)).toNat })], cuts := [] }
abbrev q_laidC_c_0 (l : Lyt) (b : Bld) : Bool := !(l.nC:Int) != (↑(b.N 0) : Int)
abbrev q_laidC_c_1 (l : Lyt) (i : Nat) (b : Bld) (G : Int) (W : Int) : Bool := !!(l.SX (Int.toNat (i:Int)) == atX (b.N 0) (b.X 0) (b.Y 0) (i:Int) (befF (b.N 0) (b.X 0) (b.Y 0) G W (i:Int) (l.C (Int.toNat (i:Int)))) G && (l.SY (Int.toNat (i:Int)) == atY (b.N 0) (b.X 0) (b.Y 0) (i:Int) (befF (b.N 0) (b.X 0) (b.Y 0) G W (i:Int) (l.C (Int.toNat (i:Int)))) G && true))
abbrev laidC_cd0 (b : Bld) (nB : Nat) (B : Nat → Int) (nO : Nat) (O : Nat → Int) (W : Int) (G : Int) (L : Int) : DV := .cptr [.val (.string b.name), .lst b.nS [fun i => (dI (b.fl i)), fun i => .lst (b.N i) [fun i_1 => (dI (b.X i i_1)), fun i_1 => (dI (b.Y i i_1))]], (dI b.roof), .lst b.nO [fun i => (dI (b.O i (0:Nat))), fun i => (dI (b.O i (1:Nat))), fun i => (dI (b.O i (2:Nat))), fun i => (dI (b.O i (3:Nat))), fun i => (dI (b.O i (4:Nat))), fun i => (dI (b.O i (5:Nat)))], .lst b.nB [fun i => (dI (b.B i (0:Nat))), fun i => (dI (b.B i (1:Nat))), fun i => (dI (b.B i (2:Nat))), fun i => (dI (b.B i (3:Nat))), fun i => (dI (b.B i (4:Nat))), fun i => (dI (b.B i (5:Nat)))], .lst nB [fun i => (dI (B i))], .lst nO [fun i => (dI (O i))], (dI W), (dI G), (dI L), (dI (↑(Lay.catU nB B nO O W G L) : Int)), .lst (Lay.catN nB B nO O W G L) [fun i => (dI (Lay.pLen nB B nO O i)), fun i => (dI (Lay.pCode nB i)), fun i => (dB (decide (nB ≤ i)))], .lst (b.N 0) [fun i => (dI (b.X 0 i)), fun i => (dI (b.Y 0 i)), fun i => (dI (b.X 0 (ix (b.N 0) ((i:Int) + (1:Int))))), fun i => (dI (b.Y 0 (ix (b.N 0) ((i:Int) + (1:Int))))), fun i => (dI (lenW (b.N 0) (b.X 0) (b.Y 0) (i:Int))), fun i => (dI (dD (b.N 0) (b.X 0) (b.Y 0) (i:Int)))], .lst (b.N 0) [fun k => (dI (cor (b.N 0) (b.X 0) (b.Y 0) k))]]
abbrev laidC_cr0 (b : Bld) (nB : Nat) (B : Nat → Int) (nO : Nat) (O : Nat → Int) (W : Int) (G : Int) (L : Int) (r : List Prop) : List Prop := (b.name = b.name) :: (b.nS = b.nS) :: (∀ i < b.nS, b.fl i = b.fl i) :: (∀ i < b.nS, b.N i = b.N i ∧ (∀ i_1 < b.N i, b.X i i_1 = b.X i i_1) ∧ ∀ i_1 < b.N i, b.Y i i_1 = b.Y i i_1) :: (b.roof = b.roof) :: (b.nO = b.nO) :: (∀ i < b.nO, b.O i (0:Nat) = b.O i (0:Nat)) :: (∀ i < b.nO, b.O i (1:Nat) = b.O i (1:Nat)) :: (∀ i < b.nO, b.O i (2:Nat) = b.O i (2:Nat)) :: (∀ i < b.nO, b.O i (3:Nat) = b.O i (3:Nat)) :: (∀ i < b.nO, b.O i (4:Nat) = b.O i (4:Nat)) :: (∀ i < b.nO, b.O i (5:Nat) = b.O i (5:Nat)) :: (b.nB = b.nB) :: (∀ i < b.nB, b.B i (0:Nat) = b.B i (0:Nat)) :: (∀ i < b.nB, b.B i (1:Nat) = b.B i (1:Nat)) :: (∀ i < b.nB, b.B i (2:Nat) = b.B i (2:Nat)) :: (∀ i < b.nB, b.B i (3:Nat) = b.B i (3:Nat)) :: (∀ i < b.nB, b.B i (4:Nat) = b.B i (4:Nat)) :: (∀ i < b.nB, b.B i (5:Nat) = b.B i (5:Nat)) :: (nB = nB) :: (∀ i < nB, B i = B i) :: (nO = nO) :: (∀ i < nO, O i = O i) :: (W = W) :: (G = G) :: (L = L) :: ((↑(Lay.catU nB B nO O W G L) : Int) = (↑(Lay.catU nB B nO O W G L) : Int)) :: (Lay.catN nB B nO O W G L = Lay.catN nB B nO O W G L) :: (∀ i < Lay.catN nB B nO O W G L, Lay.pLen nB B nO O i = Lay.pLen nB B nO O i) :: (∀ i < Lay.catN nB B nO O W G L, Lay.pCode nB i = Lay.pCode nB i) :: (∀ i < Lay.catN nB B nO O W G L, decide (nB ≤ i) = decide (nB ≤ i)) :: (b.N 0 = b.N 0) :: (∀ i < b.N 0, b.X 0 i = b.X 0 i) :: (∀ i < b.N 0, b.Y 0 i = b.Y 0 i) :: (∀ i < b.N 0, b.X 0 (ix (b.N 0) ((i:Int) + (1:Int))) = b.X 0
     (ix (b.N 0) ((i:Int) + (1:Int)))) :: (∀ i < b.N 0, b.Y 0 (ix (b.N 0) ((i:Int) + (1:Int))) = b.Y 0 (ix (b.N 0) ((i:Int) + (1:Int)))) :: (∀ i < b.N 0, lenW (b.N 0) (b.X 0) (b.Y 0) (i:Int) = lenW (b.N 0) (b.X 0) (b.Y 0) (i:Int)) :: (∀ i < b.N 0, dD (b.N 0) (b.X 0) (b.Y 0) (i:Int) = dD (b.N 0) (b.X 0) (b.Y 0) (i:Int)) :: (b.N 0 = b.N 0) :: (∀ i < b.N 0, cor (b.N 0) (b.X 0) (b.Y 0) i = cor (b.N 0) (b.X 0) (b.Y 0) i) :: r
abbrev laidC_cr1 (b : Bld) (nB : Nat) (B : Nat → Int) (nO : Nat) (O : Nat → Int) (W : Int) (G : Int) (L : Int) (l : Lyt) (r : List Prop) : List Prop := ((↑(b.N 0) : Int) = (↑(b.N 0) : Int)) :: (l.nR = l.nR) :: (∀ i < l.nR, l.F i = l.F i) :: (∀ i < l.nR, l.SX i = l.SX i) :: (∀ i < l.nR, l.SY i = l.SY i) :: (∀ i < l.nR, l.Ln i = l.Ln i) :: (∀ i < l.nR, l.nP i = l.nP i ∧ ∀ i_1 < l.nP i, l.P i i_1 = l.P i i_1) :: (∀ i < l.nR, l.nQ i = l.nQ i ∧ ∀ i_1 < l.nQ i, l.Q i i_1 = l.Q i i_1) :: ((l.nR:Int) = (l.nR:Int)) :: (b.name = b.name) :: (b.nS = b.nS) :: (∀ i < b.nS, b.fl i = b.fl i) :: (∀ i < b.nS, b.N i = b.N i ∧ (∀ i_1 < b.N i, b.X i i_1 = b.X i i_1) ∧ ∀ i_1 < b.N i, b.Y i i_1 = b.Y i i_1) :: (b.roof = b.roof) :: (b.nO = b.nO) :: (∀ i < b.nO, b.O i (0:Nat) = b.O i (0:Nat)) :: (∀ i < b.nO, b.O i (1:Nat) = b.O i (1:Nat)) :: (∀ i < b.nO, b.O i (2:Nat) = b.O i (2:Nat)) :: (∀ i < b.nO, b.O i (3:Nat) = b.O i (3:Nat)) :: (∀ i < b.nO, b.O i (4:Nat) = b.O i (4:Nat)) :: (∀ i < b.nO, b.O i (5:Nat) = b.O i (5:Nat)) :: (b.nB = b.nB) :: (∀ i < b.nB, b.B i (0:Nat) = b.B i (0:Nat)) :: (∀ i < b.nB, b.B i (1:Nat) = b.B i (1:Nat)) :: (∀ i < b.nB, b.B i (2:Nat) = b.B i (2:Nat)) :: (∀ i < b.nB, b.B i (3:Nat) = b.B i (3:Nat)) :: (∀ i < b.nB, b.B i (4:Nat) = b.B i (4:Nat)) :: (∀ i < b.nB, b.B i (5:Nat) = b.B i (5:Nat)) :: (nB = nB) :: (∀ i < nB, B i = B i) :: (nO = nO) :: (∀ i < nO, O i = O i) :: (W = W) :: (G = G) :: (L = L) :: (l.nC = l.nC) :: (∀ i < l.nC, l.C i = l.C i) :: (l.nR = l.nR) :: (∀ i < l.nR, l.F i = l.F i) :: (∀ i < l.nR, l.SX i = l.SX i) :: (∀ (i : Nat), i <
     l.nR → l.SY i = l.SY i) :: (∀ i < l.nR, l.Ln i = l.Ln i) :: (∀ i < l.nR, l.nP i = l.nP i ∧ ∀ i_1 < l.nP i, l.P i i_1 = l.P i i_1) :: (∀ i < l.nR, l.nQ i = l.nQ i ∧ ∀ i_1 < l.nQ i, l.Q i i_1 = l.Q i i_1) :: r
theorem laidC_c (b : Bld) (nB : Nat) (B : Nat → Int) (nO : Nat) (O : Nat → Int) (W G L : Int) (l : Lyt) (hN : ∀ i, i < b.nS → b.N i ≤ 1000) (h0 : arE b nB B nO O W G L = 0) (hl : lyE b nB B nO O W G l = 0) (ht : tidOk l) : FnC prog 41 [bld b, Lay.sys nB B nO O W G L, lyt l] (.tup [ringD b nB B nO O W G L, dI 0]) := by
  refine FnC_owed hmix (A61_laidC_c b nB B nO O W G L l) (V := .need [FnC prog 49 [(bld b), .agg [.lst nB [fun i => (dI (B i))], .lst nO [fun i => (dI (O i))], (dI W), (dI G), (dI L)]] (.tup [(laidC_cd0 b nB B nO O W G L), (dI (0:Int))])] (.ite ((0:Int) != (0:Int)) (.done [False, (0:Int) = (0:Int)]) (.need [FnC prog 42 [(laidC_cd0 b nB B nO O W G L)] ((dI (↑(b.N 0) : Int)))] (.need [(q_laidC_c_0 l b) = true → (q_laidC_c_0 l b) = true, (q_laidC_c_0 l b) = true → (q_laidC_c_0 l b) = true, (q_laidC_c_0 l b) = true → (q_laidC_c_0 l b) = true, (q_laidC_c_0 l b) = true → (q_laidC_c_0 l b) = true, ((l.nC:Int) != (↑(b.N 0) : Int)) = false → (q_laidC_c_0 l b) = true] (.ite (if ((l.nC:Int) != (↑(b.N 0) : Int)) = true then true else (l.nR:Int) != (↑(b.N 0) : Int)) (.done [False, (11:Int) = (0:Int)]) (.need [FnC prog 73 [.lst l.nC [fun i => (dI (l.C i))], .val (Value.func (Fn.func (74:Nat)) (Array.mk []) (Array.mk []))] ((dB (Lay.anyN (fun k => bad01 (l.C k)) l.nC)))] (.ite (Lay.anyN (fun k => bad01 (l.C k)) l.nC) (.done [False, (2:Int) = (0:Int)]) (.loop Nat (fun a => a ≤ b.N 0) (0:Int).toNat (((0:Int) = (↑(0:Int).toNat : Int)) :: (laidC_cr0 b nB B nO O W G L (laidC_cr1 b nB B nO O W G L l []))) fun i => .ite (decide ((i:Int) < (l.nR:Int))) (.need [(0:Int) ≤ (i:Int) ∧ (i:Int) < (l.nR:Int)] (.need [(0:Int) ≤ (i:Int) ∧ (i:Int) < (l.nC:Int), i64In ((i:Int) + (1:Int)), (0:Int) ≤ (i:Int) + (1:Int) ∧ (0:Int) < (↑(b.N 0) : Int), (0:Int) ≤ ((i:Int) + (1:Int)) % (↑(b.N 0) : Int) ∧ ((i:Int) + (1:Int)) % (↑(b.N 0) : Int) < (l.nC:Int)] (.ite (l.F (i:Int).toNat != (i:Int)) (.done [False, (10:Int) = (0:Int)]) (.need [FnC prog 53 [(laidC_cd0 b nB B nO O W G L), (dI (i:Int)), (dI (l.C (i:Int).toNat))] ((dI (befF (b.N 0) (b.X 0) (b.Y 0) G W (i:Int) (l.C (i:Int).toNat)))), FnC prog 52
     [(laidC_cd0 b nB B nO O W G L), (dI (i:Int)), (dI (befF (b.N 0) (b.X 0) (b.Y 0) G W (i:Int) (l.C (i:Int).toNat))), (dI G)] (.val (.agg (Array.mk [.int .i64 (atX (b.N 0) (b.X 0) (b.Y 0) (i:Int) (befF (b.N 0) (b.X 0) (b.Y 0) G W (i:Int) (l.C (i:Int).toNat)) G), .int .i64 (atY (b.N 0) (b.X 0) (b.Y 0) (i:Int) (befF (b.N 0) (b.X 0) (b.Y 0) G W (i:Int) (l.C (i:Int).toNat)) G)]))), (q_laidC_c_1 l i b G W) = true → (q_laidC_c_1 l i b G W) = true, (q_laidC_c_1 l i b G W) = true → (q_laidC_c_1 l i b G W) = true, (q_laidC_c_1 l i b G W) = true → (q_laidC_c_1 l i b G W) = true, (q_laidC_c_1 l i b G W) = true → (q_laidC_c_1 l i b G W) = true, (q_laidC_c_1 l i b G W) = true → (q_laidC_c_1 l i b G W) = true, (q_laidC_c_1 l i b G W) = true → FnC prog 54 [(laidC_cd0 b nB B nO O W G L), (dI (i:Int)), (dI (l.C (i:Int).toNat)), (dI (l.C (((i:Int) + (1:Int)) % (↑(b.N 0) : Int)).toNat))] ((dI (ruL (b.N 0) (b.X 0) (b.Y 0) G W (i:Int) (l.C (i:Int).toNat) (l.C (((i:Int) + (1:Int)) % (↑(b.N 0) : Int)).toNat)))), (q_laidC_c_1 l i b G W) = true → (q_laidC_c_1 l i b G W) = true, (q_laidC_c_1 l i b G W) = true → (q_laidC_c_1 l i b G W) = true, (!(l.SX (i:Int).toNat == atX (b.N 0) (b.X 0) (b.Y 0) (i:Int) (befF (b.N 0) (b.X 0) (b.Y 0) G W (i:Int) (l.C (i:Int).toNat)) G && (l.SY (i:Int).toNat == atY (b.N 0) (b.X 0) (b.Y 0) (i:Int) (befF (b.N 0) (b.X 0) (b.Y 0) G W (i:Int) (l.C (i:Int).toNat)) G && true))) = false → (q_laidC_c_1 l i b G W) = true] (.ite (if (!(l.SX (i:Int).toNat == atX (b.N 0) (b.X 0) (b.Y 0) (i:Int) (befF (b.N 0) (b.X 0) (b.Y (0 :
     Nat)) G W (i:Int) (l.C (i:Int).toNat)) G && (l.SY (i:Int).toNat == atY (b.N 0) (b.X 0) (b.Y 0) (i:Int) (befF (b.N 0) (b.X 0) (b.Y 0) G W (i:Int) (l.C (i:Int).toNat)) G && true))) = true then true else l.Ln (i:Int).toNat != ruL (b.N 0) (b.X 0) (b.Y 0) G W (i:Int) (l.C (i:Int).toNat) (l.C (((i:Int) + (1:Int)) % (↑(b.N 0) : Int)).toNat)) (.done [False, (3:Int) = (0:Int)]) (.need [FnC prog 76 [.agg [.lst nB [fun i => (dI (B i))], .lst nO [fun i => (dI (O i))], (dI W), (dI G), (dI L)], (dI (l.Ln (i:Int).toNat)), .agg [.lst (l.nP (i:Int).toNat) [fun i_1 => (dI (l.P (i:Int).toNat i_1))], .lst (l.nQ (i:Int).toNat) [fun i_1 => (dI (l.Q (i:Int).toNat i_1))]]] ((dI (Lay.closesE nB B nO O (l.nP (i:Int).toNat) (l.P (i:Int).toNat) (l.nQ (i:Int).toNat) (l.Q (i:Int).toNat) (l.Ln (i:Int).toNat))))] (.ite (Lay.closesE nB B nO O (l.nP (i:Int).toNat) (l.P (i:Int).toNat) (l.nQ (i:Int).toNat) (l.Q (i:Int).toNat) (l.Ln (i:Int).toNat) != (0:Int)) (.done [False, Lay.closesE nB B nO O (l.nP (i:Int).toNat) (l.P (i:Int).toNat) (l.nQ (i:Int).toNat) (l.Q (i:Int).toNat) (l.Ln (i:Int).toNat) = (0:Int)]) (.need [i64In ((i:Int) + (1:Int))] (.done (((i:Int) + (1:Int) = (↑((i:Int) + (1:Int)).toNat : Int)) :: (laidC_cr0 b nB B nO O W G L (laidC_cr1 b nB B nO O W G L l [Int.toNat ((i:Int) + (1:Int)) ≤ b.N 0, b.N 0 - ((i:Int) + (1:Int)).toNat < b.N 0 - i])))))))))))) (.done (laidC_cr0 b nB B nO O W G L [(0:Int) = (0:Int)])))))))))) (by kernel_rfl) ?_
  simp only [q_laidC_c_0, q_laidC_c_1, VT.holds, AllT, Sq]
  obtain ⟨hc, hs, _, _, _, _, _⟩ := ar_zero h0
  obtain ⟨b1, b2, b3, b4, b5⟩ := b0_ok hc
  have hn := chk_n b2
  obtain ⟨hX, hY⟩ := chk_inB b2
  have g1 := (sys_wgl hs).1
  have g2 := g1
  unfold gwOk at g2
  obtain ⟨t1, t2, t3⟩ := ht
  obtain ⟨hN2, hch, hru⟩ := ly_ok h0 hl
  have hany : Lay.anyN (fun k => bad01 (l.C k)) l.nC = false := anyN_no.2 fun k hk => bad01_sp.2 (hch k (by omega))
  refine ⟨aroundO_c b nB B nO O W G L hN h0, fun h => absurd trivial h, fun _ => ⟨n_c _ _ _ _ _ _ _ _ _ _ _ _ _ _ _, fun h => absurd h (by omega), fun h => ?_⟩⟩
  refine ⟨choicesL_c l.nC l.C (by omega), fun h2 => absurd h2 (by rw [hany]; simp), fun h2 => ⟨rfl, Nat.zero_le _, fun i hi hlt => ?_⟩⟩
  have q1 := Int.emod_nonneg ((i : Int) + 1) (show (b.N 0 : Int) ≠ 0 by omega)
  have q2 := Int.emod_lt_of_pos ((i : Int) + 1) (show (0:Int) < b.N 0 by omega)
  have ha := hch i (by omega)
  have hb2 := hch (((i : Int) + 1) % (b.N 0 : Int)).toNat (by omega)
  have bb := bef_bd (n := b.N 0) (X := b.X 0) (Y := b.Y 0) (i : Int) g1 ha
  have t4 := t3 i (by omega)
  have hri := (hru i (by omega)).1
  refine ⟨by omega, ⟨by omega, by unfold i64In; omega, by omega, q1, by omega⟩, fun h3 => absurd hri (by rw [ru_1 h3]; decide), fun h3 => ⟨⟨before_c _ _ _ _ _ _ _ _ _ _ _ _ _ _ _ _ _ (by omega) g1 ha, ringAt_c _ _ _ _ _ _ _ _ _ _ _ _ _ _ _ _ _ _ (by omega) hX hY (by omega) (by omega), fun _ => runLen_c _ _ _ _ _ _ _ _ _ _ _ _ _ _ _ _ _ _ (by omega) (by omega) hX hY g1 ha hb2⟩, fun h4 => absurd hri (fun hr0 => absurd ((ru_2 h3 fun hx => ?_).symm.trans hr0) (by decide)), fun h4 => ?_⟩⟩
  · rcases h4 with h4 | h4
    · exact absurd (h4 hx.1 hx.2.1) (by simp)
    · exact h4 hx.2.2
  · have h5 : l.SX i = ruX b G W i (l.C i) ∧ l.SY i = ruY b G W i (l.C i) ∧ l.Ln i = ruL (b.N 0) (b.X 0) (b.Y 0) G W i (l.C i) (nxC b l i) := by
      by_cases e1 : l.SX i = ruX b G W i (l.C i)
      · by_cases e2 : l.SY i = ruY b G W i (l.C i)
        · exact ⟨e1, e2, h4.2⟩
        · exact absurd (fun _ hx => absurd hx e2) h4.1
      · exact absurd (fun hx => absurd hx e1) h4.1
    rw [ru_3 h3 h5] at hri
    refine ⟨Lay.closes_c nB B nO O W G L _ _ _ _ _ hs (by omega) (by omega), fun h6 => absurd hri h6, fun h6 => ⟨by unfold i64In; omega, rfl, by omega, by omega⟩⟩
end Go.Abs
