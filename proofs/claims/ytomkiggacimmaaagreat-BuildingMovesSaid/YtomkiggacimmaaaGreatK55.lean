/- Contracts. -/
import Derived.Test.YtomkiggacimmaaaGreatK54
set_option linter.unusedVariables false
set_option linter.unusedSimpArgs false
set_option maxRecDepth 100000
namespace Go.Abs
open Go
theorem FnC_arg2 {P : Program} {f : FuncId} {x y y' d : DV} (hy : ∀ rd v, RelC rd y' v → RelC rd y v) (h : FnC P f [x, y] d) : FnC P f [x, y'] d :=
  ⟨h.1, fun S w vs h1 h2 h3 => h.2 S w vs h1 (fun j e v hd hv => by
    match j, hd with
    | 0, hd => exact h2 0 _ _ hd hv
    | 1, hd => cases hd; exact hy _ _ (h2 1 _ _ rfl hv)) h3⟩
theorem lst_nil {rd : Rd} (cols : List (Nat → DV)) : RelC rd (.lst 0 cols) (.slice none 0 0) :=
  .lst (fun _ _ => undef) (Nat.le_refl _) (fun i j f hi => absurd hi (Nat.not_lt_zero i)) (fun h => absurd h (Nat.lt_irrefl 0)) (fun i j f hi => absurd hi (Nat.not_lt_zero i)) fun i j f hi => absurd hi (Nat.not_lt_zero i)
theorem zero_rel (rd : Rd) (v : Value) (h : RelC rd (.val (.agg #[.string ⟨#[]⟩, .slice none 0 0, .int .i64 0, .slice none 0 0, .slice none 0 0])) v) : RelC rd (bld zB) v := by
  cases h
  refine .agg rfl fun j d u hd hu => ?_
  match j, hd, hu with
  | 0, hd, hu => cases hd; cases hu; exact .val _
  | 1, hd, hu => cases hd; cases hu; exact lst_nil _
  | 2, hd, hu => cases hd; cases hu; exact .val _
  | 3, hd, hu => cases hd; cases hu; exact lst_nil _
  | 4, hd, hu => cases hd; cases hu; exact lst_nil _
noncomputable def A13_turnR_c (b : Bld) : Ann := { orc := [(1, [(1, .res fun _ => bldT b)])], loops := [], cuts := [] }
theorem turnR_c (b : Bld) (h : chkB b = 0) (hN : ∀ i, i < b.nS → b.N i ≤ 1000) : FnC prog 13 [bld b] (bldT b) := by
  refine FnC_owed hmix (A13_turnR_c b) (V := .need [FnC prog 36 [(bld b), (dB true), (dI (0:Int)), (dI (0:Int))] (.agg [.val (.string b.name), .lst b.nS [fun i => (dI (b.fl i)), fun i => .lst (b.N i) [fun i_1 => (dI (-b.Y i i_1)), fun i_1 => (dI (b.X i i_1))]], (dI b.roof), .lst b.nO [fun i => (dI (b.O i 0)), fun i => (dI (b.O i 1)), fun i => (dI (b.O i 2)), fun i => (dI (b.O i 3)), fun i => (dI (b.O i 4)), fun i => (dI (b.O i 5))], .lst b.nB [fun i => (dI (-b.B i 4)), fun i => (dI (b.B i 0)), fun i => (dI (b.B i 2)), fun i => (dI (-b.B i 1)), fun i => (dI (b.B i 3)), fun i => (dI (b.B i 5))]])] (.done [b.name = b.name, b.nS = b.nS, ∀ i < b.nS, b.fl i = b.fl i, ∀ i < b.nS, b.N i = b.N i ∧ (∀ i_1 < b.N i, -b.Y i i_1 = -b.Y i i_1) ∧ ∀ i_1 < b.N i, b.X i i_1 = b.X i i_1, b.roof = b.roof, b.nO = b.nO, ∀ i < b.nO, b.O i 0 = b.O i 0, ∀ i < b.nO, b.O i 1 = b.O i 1, ∀ i < b.nO, b.O i 2 = b.O i 2, ∀ i < b.nO, b.O i 3 = b.O i 3, ∀ i < b.nO, b.O i 4 = b.O i 4, ∀ i < b.nO, b.O i 5 = b.O i 5, b.nB = b.nB, ∀ i < b.nB, -b.B i 4 = -b.B i 4, ∀ i < b.nB, b.B i 0 = b.B i 0, ∀ i < b.nB, b.B i 2 = b.B i 2, ∀ i < b.nB, -b.B i 1 = -b.B i 1, ∀ i < b.nB, b.B i 3 = b.B i 3, ∀ i < b.nB, b.B i 5 = b.B i 5])) (by kernel_rfl) ?_
  simp only [VT.holds, AllT, Sq]
  obtain ⟨k1, k2, k3⟩ := chk_bds h
  exact movedT_c b (by omega) (by omega) (by omega) hN (fun i hi => (k2 i hi).2) (fun i hi => (k2 i hi).1) k3
noncomputable def A11_moveR_c (b : Bld) (dx dy : Int) : Ann := { orc := [(1, [(1, .res fun l => dB (decide (aI l 1 ≤ aI l 0 ∧ aI l 0 ≤ aI l 2))), (5, .res fun l => dB (decide (aI l 1 ≤ aI l 0 ∧ aI l 0 ≤ aI l 2)))]), (3, [(3, .res fun _ => bldV b dx dy)]), (10, [(9, rPointErr)]), (15, [(5, .res fun l => dI (ckB (fI 0 (arg l 0)) (fI 1 (arg l 0)) (fI 2 (arg l 0)) (fI 3 (arg l 0)) (fI 4 (arg l 0)) (fI 5 (arg l 0))))])], loops := [(0, { ι := Nat, keep := [3, 6, 8], boxes := [3, 6, 8], ts := fun _ i => [(9, dI (i : Int))], inv := fun _ i => i ≤ b.nS ∧ gS b dx dy i = true, mu := fun _ i => b.nS - i, rd := fun _ σ => (iOf (σ.get 9)).toNat }), (2, { ι := Nat, keep := [3, 6, 8, 9], boxes := [3, 6, 8], ts := fun _ k => [(10, dI (k : Int))], inv := fun σ k => k ≤ b.N (iOf (σ.get 9)).toNat ∧ gP b dx dy (iOf (σ.get 9)).toNat k = true, mu := fun σ k => b.N (iOf (σ.get 9)).toNat - k, rd := fun _ σ => (iOf (σ.get 10)).toNat }), (4, { ι := Nat, keep := [3, 6, 8], boxes := [3, 6, 8], ts := fun _ i => [(11, dI (i : Int))], inv := fun _ i => i ≤ b.nB ∧ gB b dx dy i = true, mu := fun _ i => b.nB - i, rd := fun _ σ => (iOf (σ.get 11)).toNat })], cuts := [] }
noncomputable abbrev q_moveR_c_0 (dx : Int) : Bool := decide ((-2000000:Int) ≤ dx ∧ dx ≤ (2000000:Int))
noncomputable abbrev moveR_cr0 (b : Bld) (r : List Prop) : List Prop := (b.roof = b.roof) :: (b.nO = b.nO) :: (∀ (i : Nat), i < b.nO → b.O i (0:Nat) = b.O i (0:Nat)) :: (∀ (i : Nat), i < b.nO → b.O i (1:Nat) = b.O i (1:Nat)) :: (∀ (i : Nat), i < b.nO → b.O i (2:Nat) = b.O i (2:Nat)) :: (∀ (i : Nat), i < b.nO → b.O i (3:Nat) = b.O i (3:Nat)) :: (∀ (i : Nat), i < b.nO → b.O i (4:Nat) = b.O i (4:Nat)) :: (∀ (i : Nat), i < b.nO → b.O i (5:Nat) = b.O i (5:Nat)) :: (b.nB = b.nB) :: (∀ (i : Nat), i < b.nB → b.B i (0:Nat) = b.B i (0:Nat)) :: (∀ (i : Nat), i < b.nB → b.B i (1:Nat) = b.B i (1:Nat)) :: (∀ (i : Nat), i < b.nB → b.B i (2:Nat) = b.B i (2:Nat)) :: (∀ (i : Nat), i < b.nB → b.B i (3:Nat) = b.B i (3:Nat)) :: (∀ (i : Nat), i < b.nB → b.B i (4:Nat) = b.B i (4:Nat)) :: (∀ (i : Nat), i < b.nB → b.B i (5:Nat) = b.B i (5:Nat)) :: (ByteArray.mk #[] = ByteArray.mk #[]) :: (Value.slice none (0:Nat) (0:Nat) = Value.slice none (0:Nat) (0:Nat)) :: ((0:Int) = (0:Int)) :: (Value.slice none (0:Nat) (0:Nat) = Value.slice none (0:Nat) (0:Nat)) :: (Value.slice none (0:Nat) (0:Nat) = Value.slice none (0:Nat) (0:Nat)) :: (b.name = b.name) :: (b.nS = b.nS) :: (∀ (i : Nat), i < b.nS → b.fl i = b.fl i) :: r
noncomputable abbrev moveR_cr1 (b : Bld) (dx : Int) (dy : Int) (r : List Prop) : List Prop := (b.roof = b.roof) :: (b.nO = b.nO) :: (∀ (i : Nat), i < b.nO → b.O i (0:Nat) = b.O i (0:Nat)) :: (∀ (i : Nat), i < b.nO → b.O i (1:Nat) = b.O i (1:Nat)) :: (∀ (i : Nat), i < b.nO → b.O i (2:Nat) = b.O i (2:Nat)) :: (∀ (i : Nat), i < b.nO → b.O i (3:Nat) = b.O i (3:Nat)) :: (∀ (i : Nat), i < b.nO → b.O i (4:Nat) = b.O i (4:Nat)) :: (∀ (i : Nat), i < b.nO → b.O i (5:Nat) = b.O i (5:Nat)) :: (b.nB = b.nB) :: (∀ (i : Nat), i < b.nB → b.B i (0:Nat) + dx = b.B i (0:Nat) + dx) :: (∀ (i : Nat), i < b.nB → b.B i (1:Nat) + dy = b.B i (1:Nat) + dy) :: (∀ (i : Nat), i < b.nB → b.B i (2:Nat) = b.B i (2:Nat)) :: (∀ (i : Nat), i < b.nB → b.B i (3:Nat) + dx = b.B i (3:Nat) + dx) :: (∀ (i : Nat), i < b.nB → b.B i (4:Nat) + dy = b.B i (4:Nat) + dy) :: (∀ (i : Nat), i < b.nB → b.B i (5:Nat) = b.B i (5:Nat)) :: r
theorem moveR_c (b : Bld) (dx dy : Int) (h : chkB b = 0) (hN : ∀ i, i < b.nS → b.N i ≤ 1000) : FnC prog 11 [bld b, dI dx, dI dy] (.tup [bld (mvS b dx dy), dI (mvE b dx dy)]) := by
  refine FnC_owed hmix (A11_moveR_c b dx dy) (V := .need [FnC prog 30 [(dI dx), (dI (-2000000:Int)), (dI (2000000:Int))] ((dB ((q_moveR_c_0 dx)))), ri ((!!(q_moveR_c_0 dx)) = true), (!!(q_moveR_c_0 dx)) = true → FnC prog 30 [(dI dy), (dI (-2000000:Int)), (dI (2000000:Int))] ((dB (decide ((-2000000:Int) ≤ dy ∧ dy ≤ 2000000)))), ri ((!!(q_moveR_c_0 dx)) = true), (!(q_moveR_c_0 dx)) = false → (!!(q_moveR_c_0 dx)) = true] (.ite (if (!(q_moveR_c_0 dx)) = true then true else !decide ((-2000000:Int) ≤ dy ∧ dy ≤ 2000000)) (.done [ByteArray.mk #[] = (mvS b dx dy).name, (mvS b dx dy).nS = 0, (0:Int) = (mvS b dx dy).roof, (mvS b dx dy).nO = 0, (mvS b dx dy).nB = 0, (2:Int) = mvE b dx dy]) (.need [FnC prog 36 [(bld b), (dB false), (dI dx), (dI dy)] (.agg [.val (.string b.name), .lst b.nS [fun i => (dI (b.fl i)), fun i => .lst (b.N i) [fun i_1 => (dI (b.X i i_1 + dx)), fun i_1 => (dI (b.Y i i_1 + dy))]], (dI b.roof), .lst b.nO [fun i => (dI (b.O i 0)), fun i => (dI (b.O i 1)), fun i => (dI (b.O i 2)), fun i => (dI (b.O i 3)), fun i => (dI (b.O i 4)), fun i => (dI (b.O i 5))], .lst b.nB [fun i => (dI (b.B i 0 + dx)), fun i => (dI (b.B i 1 + dy)), fun i => (dI (b.B i 2)), fun i => (dI (b.B i 3 + dx)), fun i => (dI (b.B i 4 + dy)), fun i => (dI (b.B i 5))]])] (.loop Nat (fun a => a ≤ b.nS ∧ gS b dx dy a = true) (0:Int).toNat (((0:Int) = (↑(0:Int).toNat : Int)) :: ((b.name = b.name) :: ((b.nS = b.nS) :: ((∀ i < b.nS, b.fl i = b.fl i) :: ((∀ i < b.nS, b.N i = b.N i ∧ (∀ i_1 < b.N i, b.X i i_1 = b.X i i_1) ∧ ∀ i_1 < b.N i, b.Y i i_1 = b.Y i i_1) :: (moveR_cr0 b ((∀ i < b.nS, b.N i = b.N i ∧ (∀ i_1 < b.N i, b.X i i_1 + dx = b.X i i_1 + dx) ∧ ∀ i_1 < b.N i, b.Y i i_1 + dy = b.Y i i_1 + dy) :: (moveR_cr1 b dx
     dy [])))))))) fun i => .ite (decide ((i:Int) < (b.nS:Int))) (.loop Nat (fun a => a ≤ b.N (i:Int).toNat ∧ gP b dx dy (i:Int).toNat a = true) (0:Int).toNat (((0:Int) = (↑(0:Int).toNat : Int)) :: (((i:Int) = (i:Int)) :: ((b.name = b.name) :: ((b.nS = b.nS) :: ((∀ i < b.nS, b.fl i = b.fl i) :: ((∀ i < b.nS, b.N i = b.N i ∧ (∀ i_1 < b.N i, b.X i i_1 = b.X i i_1) ∧ ∀ i_1 < b.N i, b.Y i i_1 = b.Y i i_1) :: (moveR_cr0 b ((∀ i < b.nS, b.N i = b.N i ∧ (∀ i_1 < b.N i, b.X i i_1 + dx = b.X i i_1 + dx) ∧ ∀ i_1 < b.N i, b.Y i i_1 + dy = b.Y i i_1 + dy) :: (moveR_cr1 b dx dy []))))))))) fun i_1 => .need [(0:Int) ≤ (i:Int) ∧ (i:Int) < (b.nS:Int)] (.ite (decide ((i_1:Int) < (↑(b.N (i:Int).toNat) : Int))) (.need [(0:Int) ≤ (i:Int) ∧ (i:Int) < (b.nS:Int), (0:Int) ≤ (i_1:Int) ∧ (i_1:Int) < (↑(b.N (i:Int).toNat) : Int), FnC prog 37 [.val (.agg (Array.mk [.int .i64 (b.X (i:Int).toNat (i_1:Int).toNat + dx), .int .i64 (b.Y (i:Int).toNat (i_1:Int).toNat + dy)]))] ((dI (if inF (b.X (i:Int).toNat (i_1:Int).toNat + dx) = true ∧ inF (b.Y (i:Int).toNat (i_1:Int).toNat + dy) = true then (0:Int) else (2:Int))))] (.ite ((if inF (b.X (i:Int).toNat (i_1:Int).toNat + dx) = true ∧ inF (b.Y (i:Int).toNat (i_1:Int).toNat + dy) = true then (0:Int) else (2:Int)) != 0) (.done [ByteArray.mk #[] = (mvS b dx dy).name, (mvS b dx dy).nS = 0, (0:Int) = (mvS b dx dy).roof, (mvS b dx dy).nO = 0, (mvS b dx dy).nB = 0, (2:Int) = mvE b dx dy]) (.need [i64In ((i_1:Int) + 1)] (.done (((i_1:Int) + 1 = (↑((i_1:Int) + 1).toNat : Int)) :: (((i:Int) = (i:Int)) :: ((b.name = b.name) :: ((b.nS = b.nS) :: ((∀ i < b.nS, b.fl i
     = b.fl i) :: ((∀ i < b.nS, b.N i = b.N i ∧ (∀ i_2 < b.N i, b.X i i_2 = b.X i i_2) ∧ ∀ i_2 < b.N i, b.Y i i_2 = b.Y i i_2) :: (moveR_cr0 b ((∀ i < b.nS, b.N i = b.N i ∧ (∀ i_2 < b.N i, b.X i i_2 + dx = b.X i i_2 + dx) ∧ ∀ i_2 < b.N i, b.Y i i_2 + dy = b.Y i i_2 + dy) :: (moveR_cr1 b dx dy [Int.toNat ((i_1:Int) + 1) ≤ b.N (i:Int).toNat ∧ gP b dx dy (i:Int).toNat ((i_1:Int) + 1).toNat = true, b.N (i:Int).toNat - ((i_1:Int) + 1).toNat < b.N (i:Int).toNat - i_1]))))))))))))) (.need [i64In ((i:Int) + 1)] (.done (((i:Int) + 1 = (↑((i:Int) + 1).toNat : Int)) :: ((b.name = b.name) :: ((b.nS = b.nS) :: ((∀ i < b.nS, b.fl i = b.fl i) :: ((∀ i < b.nS, b.N i = b.N i ∧ (∀ i_2 < b.N i, b.X i i_2 = b.X i i_2) ∧ ∀ i_2 < b.N i, b.Y i i_2 = b.Y i i_2) :: (moveR_cr0 b ((∀ i < b.nS, b.N i = b.N i ∧ (∀ i_2 < b.N i, b.X i i_2 + dx = b.X i i_2 + dx) ∧ ∀ i_2 < b.N i, b.Y i i_2 + dy = b.Y i i_2 + dy) :: (moveR_cr1 b dx dy [Int.toNat ((i:Int) + 1) ≤ b.nS ∧ gS b dx dy ((i:Int) + 1).toNat = true, b.nS - ((i:Int) + 1).toNat < b.nS - i])))))))))))) (.loop Nat (fun a => a ≤ b.nB ∧ gB b dx dy a = true) (0:Int).toNat (((0:Int) = (↑(0:Int).toNat : Int)) :: ((b.name = b.name) :: ((b.nS = b.nS) :: ((∀ i < b.nS, b.fl i = b.fl i) :: ((∀ i < b.nS, b.N i = b.N i ∧ (∀ i_1 < b.N i, b.X i i_1 = b.X i i_1) ∧ ∀ i_1 < b.N i, b.Y i i_1 = b.Y i i_1) :: (moveR_cr0 b ((∀ i < b.nS, b.N i = b.N i ∧ (∀ i_1 < b.N i, b.X i i_1 + dx = b.X i i_1 + dx) ∧ ∀ i_1 < b.N i, b.Y i i_1 + dy = b.Y i i_1 + dy) :: (moveR_cr1 b dx dy [])))))))) fun i => .ite (decide ((i:Int) < (b.nB:Int)))
     (.need [(0:Int) ≤ (i:Int) ∧ (i:Int) < (b.nB:Int), FnC prog 34 [.val (.agg (Array.mk [.int .i64 (b.B (i:Int).toNat (0:Nat) + dx), .int .i64 (b.B (i:Int).toNat (1:Nat) + dy), .int .i64 (b.B (i:Int).toNat (2:Nat)), .int .i64 (b.B (i:Int).toNat (3:Nat) + dx), .int .i64 (b.B (i:Int).toNat (4:Nat) + dy), .int .i64 (b.B (i:Int).toNat (5:Nat))]))] ((dI (ckB (b.B (i:Int).toNat (0:Nat) + dx) (b.B (i:Int).toNat (1:Nat) + dy) (b.B (i:Int).toNat (2:Nat)) (b.B (i:Int).toNat (3:Nat) + dx) (b.B (i:Int).toNat (4:Nat) + dy) (b.B (i:Int).toNat (5:Nat)))))] (.ite (ckB (b.B (i:Int).toNat (0:Nat) + dx) (b.B (i:Int).toNat (1:Nat) + dy) (b.B (i:Int).toNat (2:Nat)) (b.B (i:Int).toNat (3:Nat) + dx) (b.B (i:Int).toNat (4:Nat) + dy) (b.B (i:Int).toNat (5:Nat)) != 0) (.done [ByteArray.mk #[] = (mvS b dx dy).name, (mvS b dx dy).nS = 0, (0:Int) = (mvS b dx dy).roof, (mvS b dx dy).nO = 0, (mvS b dx dy).nB = 0, (2:Int) = mvE b dx dy]) (.need [i64In ((i:Int) + 1)] (.done (((i:Int) + 1 = (↑((i:Int) + 1).toNat : Int)) :: ((b.name = b.name) :: ((b.nS = b.nS) :: ((∀ i < b.nS, b.fl i = b.fl i) :: ((∀ i < b.nS, b.N i = b.N i ∧ (∀ i_1 < b.N i, b.X i i_1 = b.X i i_1) ∧ ∀ i_1 < b.N i, b.Y i i_1 = b.Y i i_1) :: (moveR_cr0 b ((∀ i < b.nS, b.N i = b.N i ∧ (∀ i_1 < b.N i, b.X i i_1 + dx = b.X i i_1 + dx) ∧ ∀ i_1 < b.N i, b.Y i i_1 + dy = b.Y i i_1 + dy) :: (moveR_cr1 b dx dy [Int.toNat ((i:Int) + 1) ≤ b.nB ∧ gB b dx dy ((i:Int) + 1).toNat = true, b.nB - ((i:Int) + 1).toNat < b.nB - i])))))))))))) (.done [b.name = (mvS b dx dy).name, b.nS = (mvS b dx dy).nS, ∀ (i : Nat), i < (mvS b dx dy).nS →
     b.fl i = (mvS b dx dy).fl i, ∀ i < (mvS b dx dy).nS, b.N i = (mvS b dx dy).N i ∧ (∀ i_1 < (mvS b dx dy).N i, b.X i i_1 + dx = (mvS b dx dy).X i i_1) ∧ ∀ i_1 < (mvS b dx dy).N i, b.Y i i_1 + dy = (mvS b dx dy).Y i i_1, b.roof = (mvS b dx dy).roof, b.nO = (mvS b dx dy).nO, ∀ i < (mvS b dx dy).nO, b.O i 0 = (mvS b dx dy).O i 0, ∀ i < (mvS b dx dy).nO, b.O i 1 = (mvS b dx dy).O i 1, ∀ i < (mvS b dx dy).nO, b.O i 2 = (mvS b dx dy).O i 2, ∀ i < (mvS b dx dy).nO, b.O i 3 = (mvS b dx dy).O i 3, ∀ i < (mvS b dx dy).nO, b.O i 4 = (mvS b dx dy).O i 4, ∀ i < (mvS b dx dy).nO, b.O i 5 = (mvS b dx dy).O i 5, b.nB = (mvS b dx dy).nB, ∀ i < (mvS b dx dy).nB, b.B i 0 + dx = (mvS b dx dy).B i 0, ∀ i < (mvS b dx dy).nB, b.B i 1 + dy = (mvS b dx dy).B i 1, ∀ i < (mvS b dx dy).nB, b.B i 2 = (mvS b dx dy).B i 2, ∀ i < (mvS b dx dy).nB, b.B i 3 + dx = (mvS b dx dy).B i 3, ∀ i < (mvS b dx dy).nB, b.B i 4 + dy = (mvS b dx dy).B i 4, ∀ i < (mvS b dx dy).nB, b.B i 5 = (mvS b dx dy).B i 5, (0:Int) = mvE b dx dy])))))) (by kernel_rfl) ?_
  simp only [q_moveR_c_0, VT.holds, AllT, Sq]
  refine ⟨⟨within_c _ _ _, fun _ => within_c _ _ _⟩, fun ho => ?_, fun ho => ?_⟩
  · obtain ⟨e1, e2⟩ := mv_rng (dx := dx) (dy := dy) h (fun hr => by
      obtain ⟨hx, hy⟩ := mvR_iff.1 hr
      rcases ho with ho | ho
      · exact ho hx
      · exact ho hy)
    rw [e1, e2]; exact ⟨rfl, rfl, rfl, rfl, rfl, rfl⟩
  · have hx : -2000000 ≤ dx ∧ dx ≤ 2000000 := Decidable.not_not.1 ho.1
    have hy := ho.2
    have hr := mvR_iff.2 ⟨hx, hy⟩
    obtain ⟨k1, k2, k3⟩ := chk_bds h
    have bad : mvG b dx dy = false → { data := #[] } = (mvS b dx dy).name ∧ (mvS b dx dy).nS = 0 ∧ 0 = (mvS b dx dy).roof ∧ (mvS b dx dy).nO = 0 ∧ (mvS b dx dy).nB = 0 ∧ 2 = mvE b dx dy := fun hg => by
      obtain ⟨e1, e2⟩ := mv_bad h hr hg
      rw [e1, e2]; exact ⟨rfl, rfl, rfl, rfl, rfl, rfl⟩
    refine ⟨movedF_c b dx dy (by omega) (by omega) (by omega) hN (fun i hi => (k2 i hi).2) (fun i hi => (k2 i hi).1) k3 hx hy, rfl, ⟨Nat.zero_le _, rfl⟩, fun i hi => ⟨fun hlt => ⟨rfl, ⟨Nat.zero_le _, rfl⟩, fun k hk => ⟨⟨by omega, by omega⟩, fun hk2 => ⟨⟨⟨by omega, by omega⟩, ⟨by omega, by omega⟩, pointErr_c _ _⟩, fun he => ?_, fun he => ?_⟩, fun hk2 => ?_⟩⟩, fun hge => ⟨rfl, ⟨Nat.zero_le _, rfl⟩, fun j hj => ⟨fun hj2 => ⟨⟨⟨by omega, by omega⟩, checkBoxR_c _ _ _ _ _ _⟩, fun he => ?_, fun he => ?_⟩, fun hj2 => ?_⟩⟩⟩⟩
    · refine bad ?_
      have hp : gP b dx dy i (b.N i) = false := gP_no (k := k) (by omega) (fun hq => he (if_pos (inP_iff.1 hq)))
      rw [mvG, gS_no (k := i) (by omega) hp, Bool.false_and]
    · have hp : inP (b.X i k + dx) (b.Y i k + dy) = true := inP_iff.2 (by
        by_cases h9 : inF (b.X i k + dx) = true ∧ inF (b.Y i k + dy) = true
        · exact h9
        · rw [if_neg h9] at he; cases he)
      have hNi := hN i (by omega)
      exact ⟨by unfold i64In; omega, by omega, ⟨by omega, by rw [gP, hk.2, hp]; rfl⟩, by omega⟩
    · have e : k = b.N i := by omega
      have hg := hk.2
      rw [e] at hg
      exact ⟨by unfold i64In; omega, by omega, ⟨by omega, by rw [gS, hi.2, hg]; rfl⟩, by omega⟩
    · refine bad ?_
      rw [mvG, gB_no (k := j) (by omega) (fun hq => he (of_decide_eq_true hq)), Bool.and_false]
    · exact ⟨by unfold i64In; omega, by omega, ⟨by omega, by rw [gB, hj.2]; exact decide_eq_true he⟩, by omega⟩
    · have e : i = b.nS := by omega
      have e' : j = b.nB := by omega
      have hg : mvG b dx dy = true := by
        rw [mvG, ← e, ← e', hi.2, hj.2]; rfl
      obtain ⟨e1, e2⟩ := mv_ok h hr hg
      rw [e1, e2]
      exact ⟨rfl, rfl, fun _ _ => rfl, fun _ _ => ⟨rfl, fun _ _ => rfl, fun _ _ => rfl⟩, rfl, rfl, fun _ _ => rfl, fun _ _ => rfl, fun _ _ => rfl, fun _ _ => rfl, fun _ _ => rfl, fun _ _ => rfl, rfl, fun _ _ => rfl, fun _ _ => rfl, fun _ _ => rfl, fun _ _ => rfl, fun _ _ => rfl, fun _ _ => rfl, rfl⟩
noncomputable def A10_none_c  : Ann := { orc := [(1, [(2, .res fun _ => dB true)])], loops := [], cuts := [] }
theorem none_c   : FnC prog 10 [bld zB] (dB true) := by
  refine FnC_owed hmix (A10_none_c ) (V := .need [FnC prog 12 [.agg [.val (.string zB.1), .lst zB.2 [fun i => (dI (zB.3 i)), fun i => .lst (zB.4 i) [fun i_1 => (dI (zB.5 i i_1)), fun i_1 => (dI (zB.6 i i_1))]], (dI zB.7), .lst zB.8 [fun i => (dI (zB.9 i 0)), fun i => (dI (zB.9 i 1)), fun i => (dI (zB.9 i 2)), fun i => (dI (zB.9 i 3)), fun i => (dI (zB.9 i 4)), fun i => (dI (zB.9 i 5))], .lst zB.10 [fun i => (dI (zB.11 i 0)), fun i => (dI (zB.11 i 1)), fun i => (dI (zB.11 i 2)), fun i => (dI (zB.11 i 3)), fun i => (dI (zB.11 i 4)), fun i => (dI (zB.11 i 5))]], .val (.agg (Array.mk [.string (ByteArray.mk #[]), Value.slice none 0 (0:Nat), .int .i64 (0:Int), Value.slice none 0 (0:Nat), Value.slice none 0 (0:Nat)]))] ((dB true))] (.done [true = true])) (by kernel_rfl) ?_
  simp only [VT.holds, AllT, Sq]
  exact FnC_arg2 zero_rel (same_c zB (Nat.zero_le _) (Nat.zero_le _) (Nat.zero_le _) fun i hi => absurd hi (Nat.not_lt_zero i))
noncomputable def A3_moves_c (b : Bld) (dx dy : Int) : Ann := { orc := [(1, [(0, .res fun _ => dB true)]), (3, [(1, .res fun _ => dB (smallF b))]), (5, [(1, .res fun _ => bld b), (4, .res fun _ => .tup [bld (mvS b dx dy), dI (mvE b dx dy)])]), (6, [(1, .res fun _ => bld b), (2, .res fun _ => .tup [bld (tnS b), dI (chkB b)])]), (7, [(1, rChkB b)]), (9, [(10, .res fun _ => dB true), (14, .res fun _ => dB true)]), (10, [(3, .res fun _ => .tup [bld (mvS b dx dy), dI (mvE b dx dy)])]), (11, [(6, .res fun _ => dB true), (15, .res fun _ => bldT b), (16, .res fun _ => dB true)])], loops := [], cuts := [] }
noncomputable abbrev q_moves_c_0 (b : Bld) (dx : Int) (dy : Int) : Bool := if (mvE b dx dy == mvE b dx dy) = true then true else false
noncomputable abbrev q_moves_c_1 (b : Bld) (dx : Int) (dy : Int) : Bool := if (mvE b dx dy == chkB b) = true then chkB b == chkB b else false
noncomputable abbrev q_moves_c_2 (b : Bld) (dx : Int) (dy : Int) : Bool := if (q_moves_c_1 b dx dy) = true then true else false
noncomputable abbrev q_moves_c_3 (b : Bld) (dx : Int) (dy : Int) : Bool := if (q_moves_c_0 b dx dy) = true then chkB b == (0:Int) else false
noncomputable abbrev moves_cd0 (b : Bld) (dx : Int) (dy : Int) : DV := .agg [.val (.string (mvS b dx dy).name), .lst (mvS b dx dy).nS [fun i => (dI ((mvS b dx dy).fl i)), fun i => .lst ((mvS b dx dy).N i) [fun i_1 => (dI ((mvS b dx dy).X i i_1)), fun i_1 => (dI ((mvS b dx dy).Y i i_1))]], (dI (mvS b dx dy).roof), .lst (mvS b dx dy).nO [fun i => (dI ((mvS b dx dy).O i (0:Nat))), fun i => (dI ((mvS b dx dy).O i (1:Nat))), fun i => (dI ((mvS b dx dy).O i (2:Nat))), fun i => (dI ((mvS b dx dy).O i (3:Nat))), fun i => (dI ((mvS b dx dy).O i (4:Nat))), fun i => (dI ((mvS b dx dy).O i (5:Nat)))], .lst (mvS b dx dy).nB [fun i => (dI ((mvS b dx dy).B i (0:Nat))), fun i => (dI ((mvS b dx dy).B i (1:Nat))), fun i => (dI ((mvS b dx dy).B i (2:Nat))), fun i => (dI ((mvS b dx dy).B i (3:Nat))), fun i => (dI ((mvS b dx dy).B i (4:Nat))), fun i => (dI ((mvS b dx dy).B i (5:Nat)))]]
noncomputable abbrev moves_cd1 (b : Bld) : DV := .agg [.val (.string (tnS b).name), .lst (tnS b).nS [fun i => (dI ((tnS b).fl i)), fun i => .lst ((tnS b).N i) [fun i_1 => (dI ((tnS b).X i i_1)), fun i_1 => (dI ((tnS b).Y i i_1))]], (dI (tnS b).roof), .lst (tnS b).nO [fun i => (dI ((tnS b).O i (0:Nat))), fun i => (dI ((tnS b).O i (1:Nat))), fun i => (dI ((tnS b).O i (2:Nat))), fun i => (dI ((tnS b).O i (3:Nat))), fun i => (dI ((tnS b).O i (4:Nat))), fun i => (dI ((tnS b).O i (5:Nat)))], .lst (tnS b).nB [fun i => (dI ((tnS b).B i (0:Nat))), fun i => (dI ((tnS b).B i (1:Nat))), fun i => (dI ((tnS b).B i (2:Nat))), fun i => (dI ((tnS b).B i (3:Nat))), fun i => (dI ((tnS b).B i (4:Nat))), fun i => (dI ((tnS b).B i (5:Nat)))]]
noncomputable abbrev moves_cd2 (b : Bld) : DV := .agg [.val (.string b.name), .lst b.nS [fun i => (dI (b.fl i)), fun i => .lst (b.N i) [fun i_1 => (dI (-b.Y i i_1)), fun i_1 => (dI (b.X i i_1))]], (dI b.roof), .lst b.nO [fun i => (dI (b.O i (0:Nat))), fun i => (dI (b.O i (1:Nat))), fun i => (dI (b.O i (2:Nat))), fun i => (dI (b.O i (3:Nat))), fun i => (dI (b.O i (4:Nat))), fun i => (dI (b.O i (5:Nat)))], .lst b.nB [fun i => (dI (-b.B i (4:Nat))), fun i => (dI (b.B i (0:Nat))), fun i => (dI (b.B i (2:Nat))), fun i => (dI (-b.B i (1:Nat))), fun i => (dI (b.B i (3:Nat))), fun i => (dI (b.B i (5:Nat)))]]
theorem moves_c (b : Bld) (dx dy : Int)  : FnC prog 3 [bld b, dI dx, dI dy] (dB true) := by
  refine FnC_owed hmix (A3_moves_c b dx dy) (V := .need [FnC prog 4 [] ((dB true))] (.ite (!true) (.done [false = true]) (.need [FnC prog 5 [(bld b)] ((dB (smallF b)))] (.ite (!smallF b) (.done [true = true]) (.need [FnC prog 7 [(bld b)] ((bld b)), FnC prog 6 [(bld b), (dI dx), (dI dy)] (.tup [(moves_cd0 b dx dy), (dI (mvE b dx dy))])] (.need [FnC prog 7 [(bld b)] ((bld b)), FnC prog 8 [(bld b)] (.tup [(moves_cd1 b), (dI (chkB b))])] (.need [FnC prog 9 [(bld b)] ((dI (chkB b)))] (.ite (chkB b != 0) (.need [ri ((mvE b dx dy == chkB b) = true), ri ((mvE b dx dy == chkB b) = true), ri ((mvE b dx dy == chkB b) = true), ri ((q_moves_c_1 b dx dy) = true), (q_moves_c_1 b dx dy) = true → FnC prog 10 [(moves_cd0 b dx dy)] ((dB true)), ri ((q_moves_c_1 b dx dy) = true), ri ((q_moves_c_2 b dx dy) = true), (q_moves_c_2 b dx dy) = true → FnC prog 10 [(moves_cd1 b)] ((dB true)), ri ((q_moves_c_2 b dx dy) = true)] (.done [(if (q_moves_c_2 b dx dy) = true then true else false) = true])) (.need [FnC prog 11 [(bld b), (dI dx), (dI dy)] (.tup [(moves_cd0 b dx dy), (dI (mvE b dx dy))])] (.need [ri ((mvE b dx dy == mvE b dx dy) = true), ri ((mvE b dx dy == mvE b dx dy) = true), (mvE b dx dy == mvE b dx dy) = true → FnC prog 12 [(moves_cd0 b dx dy), (moves_cd0 b dx dy)] ((dB true)), ri ((mvE b dx dy == mvE b dx dy) = true), ri ((q_moves_c_0 b dx dy) = true), ri ((q_moves_c_0 b dx dy) = true), ri ((q_moves_c_3 b dx dy) = true), (q_moves_c_3 b dx dy) = true → FnC prog 13 [(bld b)] ((moves_cd2 b)), ri ((q_moves_c_3 b dx dy) = true), ri ((q_moves_c_3 b dx dy) = true), (q_moves_c_3 b dx dy) = true → FnC prog 12 [(moves_cd1 b), (moves_cd2 b)] ((dB true)), ri ((q_moves_c_3 b dx dy) = true)] (.done [(if (q_moves_c_3 b dx dy) = true then true else false) = true]))))))))))) (by kernel_rfl) ?_
  simp only [q_moves_c_0, q_moves_c_1, q_moves_c_2, q_moves_c_3, VT.holds, AllT, Sq]
  refine ⟨awake_c, fun h => h.symm, fun _ => ⟨small_c b, fun hs => ?_⟩⟩
  obtain ⟨s1, s2⟩ := of_decide_eq_true hs
  have hS : b.nS ≤ 1000 := by omega
  have hO : b.nO ≤ 1000 := by omega
  have hB : b.nB ≤ 1000 := by omega
  have hN : ∀ i, i < b.nS → b.N i ≤ 1000 := fun i hi => by
    have := of_decide_eq_false (s2 i hi)
    omega
  have cp := copied_c b hS hO hB hN
  have hM := Move_c b dx dy hN
  refine ⟨⟨cp, hM⟩, ⟨cp, turnS_c b hN⟩, checkR_b b hN, fun hc => ?_, fun hc => ?_⟩
  · obtain ⟨e1, e2⟩ := mv_chk (dx := dx) (dy := dy) hc
    have e3 : tnS b = zB := if_neg hc
    have n1 : FnC prog 10 [bld (mvS b dx dy)] (dB true) := by rw [e2]; exact none_c
    have n2 : FnC prog 10 [bld (tnS b)] (dB true) := by rw [e3]; exact none_c
    exact ⟨⟨fun _ => n1, fun _ => n2⟩, e1⟩
  · have e3 : tnS b = tB b := if_pos hc
    have m : FnC prog 12 [bld (mvS b dx dy), bld (mvS b dx dy)] (dB true) := by
      by_cases h9 : mvE b dx dy = 0
      · have e4 : mvS b dx dy = mvB b dx dy := if_pos h9
        rw [e4]
        exact same_c (mvB b dx dy) hS hO hB hN
      · have e4 : mvS b dx dy = zB := if_neg h9
        rw [e4]
        exact same_c zB (Nat.zero_le _) (Nat.zero_le _) (Nat.zero_le _) fun i hi => absurd hi (Nat.not_lt_zero i)
    have t : FnC prog 12 [bld (tnS b), bldT b] (dB true) := by
      rw [e3]
      exact same_c (tB b) hS hO hB hN
    exact ⟨moveR_c b dx dy hc hN, ⟨fun _ => m, fun _ => turnR_c b hc hN, fun _ => t⟩, hc⟩
end Go.Abs
