/- Contracts. -/
import Derived.Test.YtcgfcahljfmipaaDoorG10
set_option linter.unusedVariables false
set_option linter.unusedSimpArgs false
set_option maxRecDepth 100000
namespace Go.Abs
open Go
abbrev sm2 (q : List DV) : Bool := match arg q 1 with
  | .lst m _ => sameP (aN q) (aX q) (aY q) m (colI 0 (arg q 1)) (colI 1 (arg q 1))
  | _ => sameP (aN q) (aX q) (aY q) 0 (fun _ => 0) (fun _ => 0)
def rSame : Orc := .res fun q => dB (sm2 q)
def rOff (n : Nat) (X Y : Nat → Int) (d : Int) : Orc := .res fun _ => .tup [.lst (ofM n X Y d) (ofC n X Y d), dI (ofG n X Y d)]
def lnF (n : Nat) (X Y : Nat → Int) (i : Nat) : Int := Geo.sm (fun i => lenW n X Y (i : Nat)) i
noncomputable def A11_samePoints0_c (n : Nat) (X Y : Nat → Int) : Ann := { orc := [], loops := [(0, { ι := Nat, keep := [0, 1], boxes := [], ts := fun _ i => [(5, dI (i : Int))], inv := fun _ i => i ≤ n, mu := fun _ i => n - i, rd := fun _ σ => (iOf (σ.get 5)).toNat })], cuts := [] }
theorem samePoints0_c (n : Nat) (X Y : Nat → Int)  : FnC prog 11 [pts n X Y, .val (.slice none 0 0)] (dB (sameP n X Y 0 (fun _ => 0) (fun _ => 0))) := by
  refine FnC_owed hmix (A11_samePoints0_c n X Y) (V := .ite ((n:Int) != (↑(0:Nat) : Int)) (.done [false = sameP n X Y 0 (fun x => (0:Int)) fun x => (0:Int)]) (.loop Nat (fun a => a ≤ n) (0:Int).toNat [(0:Int) = (↑(0:Int).toNat : Int), n = n, ∀ i < n, X i = X i, ∀ i < n, Y i = Y i, Value.slice none 0 (0:Nat) = Value.slice none 0 (0:Nat)] fun i => .ite (decide ((i:Int) < (n:Int))) (.need [(0:Int) ≤ (i:Int) ∧ (i:Int) < (n:Int), False, False, False] (.done [False])) (.done [true = sameP n X Y 0 (fun x => (0:Int)) fun x => (0:Int)]))) (by kernel_rfl) ?_
  simp only [VT.holds, AllT, Sq]
  refine ⟨fun h => ?_, fun h => ⟨rfl, Nat.zero_le _, fun i hi => ⟨fun hlt => by omega, fun hge => ?_⟩⟩⟩
  · rw [sameP, decide_eq_false (fun h' => h (by omega))]
  · rw [sameP, decide_eq_true ⟨by omega, fun j hj => by omega⟩]
noncomputable def A3_offsets_c (n : Nat) (X Y : Nat → Int) (d : Int) : Ann := { orc := [(1, [(0, .res fun _ => dB true)]), (3, [(1, rFew)]), (5, [(1, rPts), (3, rOff n X Y d)]), (6, [(1, rChk)]), (9, [(2, rOff n X Y d)]), (10, [(6, rSame)]), (15, [(1, rWallsR)]), (20, [(1, rAreaR), (3, rAreaR), (17, rCov)])], loops := [(0, { ι := Nat, keep := [0, 1, 5, 10], boxes := [], ts := fun _ i => [(11, dI (i : Int)), (9, dI (lnF n X Y i))], inv := fun _ i => i ≤ n, mu := fun _ i => n - i, rd := fun _ σ => (iOf (σ.get 11)).toNat })], cuts := [] }
noncomputable abbrev q_offsets_c_0 (n : Nat) : Bool := !!decide ((n:Int) ≤ (45:Int))
noncomputable abbrev q_offsets_c_1 (n : Nat) : Bool := !!decide ((n:Int) ≤ (45:Int)) && decide ((n:Int) > (14:Int))
noncomputable abbrev offsets_cd0 (n : Nat) (X : Nat → Int) (Y : Nat → Int) (d : Int) : DV := .lst (ofM n X Y d) [fun k => (dI (ofX n X Y d k)), fun k => (dI (ofY n X Y d k))]
noncomputable abbrev offsets_cr0 (n : Nat) (X : Nat → Int) (Y : Nat → Int) (d : Int) (r : List Prop) : List Prop := (n = n) :: (∀ (i : Nat), i < n → X i = X i) :: (∀ (i : Nat), i < n → Y i = Y i) :: (d = d) :: (ofM n X Y d = ofM n X Y d) :: (∀ (i : Nat), i < ofM n X Y d → ofX n X Y d i = ofX n X Y d i) :: (∀ (i : Nat), i < ofM n X Y d → ofY n X Y d i = ofY n X Y d i) :: (n = n) :: (∀ (i : Nat), i < n → X i = X i) :: (∀ (i : Nat), i < n → Y i = Y i) :: (∀ (i : Nat), i < n → X (ix n ((i:Int) + (1:Int))) = X (ix n ((i:Int) + (1:Int)))) :: (∀ (i : Nat), i < n → Y (ix n ((i:Int) + (1:Int))) = Y (ix n ((i:Int) + (1:Int)))) :: (∀ (i : Nat), i < n → lenW n X Y (i:Int) = lenW n X Y (i:Int)) :: (∀ (i : Nat), i < n → dD n X Y (i:Int) = dD n X Y (i:Int)) :: r
theorem offsets_c (n : Nat) (X Y : Nat → Int) (d : Int)  : FnC prog 3 [pts n X Y, dI d] (dB true) := by
  refine FnC_owed hmix (A3_offsets_c n X Y d) (V := .need [FnC prog 5 [] ((dB true))] (.ite (!true) (.done [false = true]) (.need [FnC prog 6 [.lst n [fun i => (dI (X i)), fun i => (dI (Y i))]] ((dB (decide ((n:Int) ≤ 45)))), ri ((q_offsets_c_0 n) = true), ri ((q_offsets_c_0 n) = true), ri ((q_offsets_c_0 n) = true), ri ((q_offsets_c_1 n) = true), ri ((q_offsets_c_1 n) = true), ri ((q_offsets_c_0 n) = true), (q_offsets_c_0 n) = true → decide ((n:Int) > 14) = true → (q_offsets_c_1 n) = true, (!decide ((n:Int) ≤ 45)) = false → (q_offsets_c_0 n) = true] (.ite (if (!decide ((n:Int) ≤ 45)) = true then true else if decide ((n:Int) > 14) = true then decide ((n:Int) ≤ 40) else false) (.done [true = true]) (.need [FnC prog 8 [.lst n [fun i => (dI (X i)), fun i => (dI (Y i))]] (.lst n [fun i => (dI (X i)), fun i => (dI (Y i))]), FnC prog 7 [.lst n [fun i => (dI (X i)), fun i => (dI (Y i))], (dI d)] (.tup [(offsets_cd0 n X Y d), (dI (ofG n X Y d))])] (.need [FnC prog 9 [.lst n [fun i => (dI (X i)), fun i => (dI (Y i))]] ((dI (chk n X Y)))] (.ite (chk n X Y == 0) (.need [FnC prog 10 [.lst n [fun i => (dI (X i)), fun i => (dI (Y i))], (dI d)] (.tup [(offsets_cd0 n X Y d), (dI (ofG n X Y d))])] (.need [ri ((!ofG n X Y d != ofG n X Y d) = true), ri ((!ofG n X Y d != ofG n X Y d) = true), (!ofG n X Y d != ofG n X Y d) = true → FnC prog 11 [(offsets_cd0 n X Y d), (offsets_cd0 n X Y d)] ((dB (sameP (ofM n X Y d) (ofX n X Y d) (ofY n X Y d) (ofM n X Y d) (ofX n X Y d) (ofY n X Y d)))), ri ((!ofG n X Y d != ofG n X Y d) = true), (ofG n X Y d != ofG n X Y d) = false → (!ofG n X Y d != ofG n X Y d) = true] (.ite (if (ofG n X Y d != ofG n X Y d) = true then true else !sameP (ofM n X
     Y d) (ofX n X Y d) (ofY n X Y d) (ofM n X Y d) (ofX n X Y d) (ofY n X Y d)) (.done [false = true]) (.ite (ofG n X Y d != 0) (.done [true = true]) (.need [FnC prog 12 [.lst n [fun i => (dI (X i)), fun i => (dI (Y i))]] (.lst n [fun i => (dI (X i)), fun i => (dI (Y i)), fun i => (dI (X (ix n ((i:Int) + 1)))), fun i => (dI (Y (ix n ((i:Int) + 1)))), fun i => (dI (lenW n X Y (i:Int))), fun i => (dI (dD n X Y (i:Int)))])] (.loop Nat (fun a => a ≤ n) (0:Int).toNat (((0:Int) = (↑(0:Int).toNat : Int)) :: (((0:Int) = lnF n X Y (0:Int).toNat) :: (offsets_cr0 n X Y d []))) fun i => .ite (decide ((i:Int) < (n:Int))) (.need [(0:Int) ≤ (i:Int) ∧ (i:Int) < (n:Int), i64In (lnF n X Y i + lenW n X Y (↑(i:Int).toNat : Int))] (.need [i64In ((i:Int) + 1)] (.done (((i:Int) + 1 = (↑((i:Int) + 1).toNat : Int)) :: ((lnF n X Y i + lenW n X Y (↑(i:Int).toNat : Int) = lnF n X Y ((i:Int) + 1).toNat) :: (offsets_cr0 n X Y d [Int.toNat ((i:Int) + 1) ≤ n, n - ((i:Int) + 1).toNat < n - i])))))) (.need [FnC prog 13 [(offsets_cd0 n X Y d)] ((dI (twS (ofM n X Y d) (ofX n X Y d) (ofY n X Y d) (ofM n X Y d) / (2:Int)))), FnC prog 13 [.lst n [fun i => (dI (X i)), fun i => (dI (Y i))]] ((dI (twS n X Y n / (2:Int)))), i64In (d * lnF n X Y i), i64In (twS n X Y n / (2:Int) + d * lnF n X Y i), i64In ((4:Int) * d), i64In ((4:Int) * d * d), i64In (twS n X Y n / (2:Int) + d * lnF n X Y i + 4 * d * d), ri ((twS (ofM n X Y d) (ofX n X Y d) (ofY n X Y d) (ofM n X Y d) / (2:Int) == twS n X Y n / (2:Int) + d * lnF n X Y i + 4 * d * d) = true), ri ((twS (ofM n X Y d) (ofX n X Y d) (ofY n X Y d) (ofM n X Y d) / (2:Int) == twS n X Y n / (2:Int) + d * lnF n X Y i + 4 * d * d) = true), (twS (ofM n X Y d) (ofX n X Y d) (ofY n X Y d) (ofM n X Y d) / (2:Int) == twS n X Y n / (2:Int) + d * lnF n X Y i + 4 * d * d) = true → FnC prog 14 [(offsets_cd0 n X Y d), .lst n [fun i => (dI (X i)), fun i => (dI (Y i))]] ((dB (covF (ofM n X Y d) (ofX n X Y d) (ofY n X Y d) n X Y))), ri ((twS (ofM n X Y d) (ofX n X Y d) (ofY n X Y d) (ofM n X Y d) / (2:Int) == twS n X Y n / (2:Int) + d * lnF n X Y i + 4 * d * d) = true)] (.done [(if (twS (ofM n X Y d) (ofX n X Y d) (ofY n X Y d) (ofM n X Y d) / (2:Int) == twS n X Y n / (2:Int) + d * lnF n X Y i + 4 * d * d) = true then covF (ofM n X Y d) (ofX n X Y d) (ofY n X Y d) n X Y else false) = true])))))))) (.need [ri ((!ofG n X Y d != chk n X Y) = true), ri ((!ofG n X Y d != chk n X Y) = true), (!ofG n X Y d != chk n X Y) = true → FnC prog 11 [(offsets_cd0 n X Y d), .val (Value.slice none 0 (0:Nat))] ((dB (sameP (ofM n X Y d) (ofX n X Y d) (ofY n X Y d) (0:Nat) (fun x => (0:Int)) fun x => (0:Int)))), ri ((!ofG n X Y d != chk n X Y) = true), (ofG n X Y d != chk n X Y) = false → (!ofG n X Y d != chk n X Y) = true] (.ite (if (ofG n X Y d != chk n X Y) = true then true else !sameP (ofM n X Y d) (ofX n X Y d) (ofY n X Y d) (0:Nat) (fun x => (0:Int)) fun x => (0:Int)) (.done [false = true]) (.ite (chk n X Y != 0) (.done [true = true]) (.need [FnC prog 12 [.lst n [fun i => (dI (X i)), fun i => (dI (Y i))]] (.lst n [fun i => (dI (X i)), fun i => (dI (Y i)), fun i => (dI (X (ix n ((i:Int) + 1)))), fun i =>
     (dI (Y (ix n ((i:Int) + 1)))), fun i => (dI (lenW n X Y (i:Int))), fun i => (dI (dD n X Y (i:Int)))])] (.loop Nat (fun a => a ≤ n) (0:Int).toNat (((0:Int) = (↑(0:Int).toNat : Int)) :: (((0:Int) = lnF n X Y (0:Int).toNat) :: (offsets_cr0 n X Y d []))) fun i => .ite (decide ((i:Int) < (n:Int))) (.need [(0:Int) ≤ (i:Int) ∧ (i:Int) < (n:Int), i64In (lnF n X Y i + lenW n X Y (↑(i:Int).toNat : Int))] (.need [i64In ((i:Int) + 1)] (.done (((i:Int) + 1 = (↑((i:Int) + 1).toNat : Int)) :: ((lnF n X Y i + lenW n X Y (↑(i:Int).toNat : Int) = lnF n X Y ((i:Int) + 1).toNat) :: (offsets_cr0 n X Y d [Int.toNat ((i:Int) + 1) ≤ n, n - ((i:Int) + 1).toNat < n - i])))))) (.need [FnC prog 13 [(offsets_cd0 n X Y d)] ((dI (twS (ofM n X Y d) (ofX n X Y d) (ofY n X Y d) (ofM n X Y d) / (2:Int)))), FnC prog 13 [.lst n [fun i => (dI (X i)), fun i => (dI (Y i))]] ((dI (twS n X Y n / (2:Int)))), i64In (d * lnF n X Y i), i64In (twS n X Y n / (2:Int) + d * lnF n X Y i), i64In ((4:Int) * d), i64In ((4:Int) * d * d), i64In (twS n X Y n / (2:Int) + d * lnF n X Y i + 4 * d * d), ri ((twS (ofM n X Y d) (ofX n X Y d) (ofY n X Y d) (ofM n X Y d) / (2:Int) == twS n X Y n / (2:Int) + d * lnF n X Y i + 4 * d * d) = true), ri ((twS (ofM n X Y d) (ofX n X Y d) (ofY n X Y d) (ofM n X Y d) / (2:Int) == twS n X Y n / (2:Int) + d * lnF n X Y i + 4 * d * d) = true), (twS (ofM n X Y d) (ofX n X Y d) (ofY n X Y d) (ofM n X Y d) / (2:Int) == twS n X Y n / (2:Int) + d * lnF n X Y i + 4 * d * d) = true → FnC
     prog 14 [(offsets_cd0 n X Y d), .lst n [fun i => (dI (X i)), fun i => (dI (Y i))]] ((dB (covF (ofM n X Y d) (ofX n X Y d) (ofY n X Y d) n X Y))), ri ((twS (ofM n X Y d) (ofX n X Y d) (ofY n X Y d) (ofM n X Y d) / (2:Int) == twS n X Y n / (2:Int) + d * lnF n X Y i + 4 * d * d) = true)] (.done [(if (twS (ofM n X Y d) (ofX n X Y d) (ofY n X Y d) (ofM n X Y d) / (2:Int) == twS n X Y n / (2:Int) + d * lnF n X Y i + 4 * d * d) = true then covF (ofM n X Y d) (ofX n X Y d) (ofY n X Y d) n X Y else false) = true])))))))))))))) (by kernel_rfl) ?_
  simp only [q_offsets_c_0, q_offsets_c_1, VT.holds, AllT, Sq]
  refine ⟨awake_c, fun h => (by cases h), fun _ => ⟨⟨few_c n X Y, fun h1 h2 => ⟨h1, h2⟩⟩, fun hg => ?_⟩⟩
  have hn : n ≤ 45 := by omega
  refine ⟨⟨points_c n X Y (by omega), offset_c n X Y d (by omega)⟩, checkR_c n X Y (by omega), fun h => ?_, fun h => ?_⟩
  · refine ⟨offsetR_c n X Y d h, fun _ => samePoints_c _ _ _ _ _ _ (by unfold ofM; split <;> omega), fun h1 => ?_, fun _ h0 => ?_⟩
    · rcases h1 with h1 | h1
      · exact absurd trivial h1
      · rw [sameP, decide_eq_false_iff_not] at h1
        exact absurd ⟨rfl, fun _ _ => ⟨rfl, rfl⟩⟩ h1
    · have hM : ofM n X Y d = n := by rw [ofM, if_pos h0]
      have hd : 0 ≤ d ∧ d ≤ 1000000 := Classical.byContradiction fun h' => by
        rw [ofG, if_neg (fun h' => h' h), if_pos h'] at h0
        cases h0
      have hE : ofE n X Y d = 0 := by rw [← ofG_in h hd]; exact h0
      obtain ⟨hS, hO⟩ := of_zero hE
      obtain ⟨hX, hY⟩ := chk_inB h
      have hn4 := chk_n h
      have lb : ∀ i : Nat, 0 ≤ lenW n X Y i ∧ lenW n X Y i ≤ 4000000 := fun i => lenW_bd (by omega) hX hY i
      have sb : ∀ i : Nat, 0 ≤ lnF n X Y i ∧ lnF n X Y i ≤ 4000000 * i := fun i => by
        induction i with
        | zero => exact ⟨Int.le_refl _, Int.le_refl _⟩
        | succ i ih =>
          have := lb i
          have e : lnF n X Y (i + 1) = lnF n X Y i + lenW n X Y i := rfl
          omega
      have hA := Geo.area_off h hE
      have hC := Geo.cover_off h hd.1 hE
      have tb := twS_bd (by omega) hX hY n
      rw [hM]
      refine ⟨wallsR_c n X Y h, ⟨rfl, rfl⟩, Nat.zero_le _, fun i hi => ⟨fun hlt => ?_, fun hge => ?_⟩⟩
      · have := lb i
        have := sb i
        exact ⟨⟨by omega, by unfold i64In; omega⟩, by unfold i64In; omega, by omega, rfl, by omega, by omega⟩
      · obtain rfl : i = n := by omega
        have sb := sb i
        have d1 : 0 ≤ d * lnF i X Y i ∧ d * lnF i X Y i ≤ 1000000 * (4000000 * 45) := ⟨Int.mul_nonneg hd.1 sb.1, Int.mul_le_mul hd.2 (by omega) sb.1 (by decide)⟩
        have d2 : 0 ≤ 4 * d * d ∧ 4 * d * d ≤ (4 * 1000000) * 1000000 := ⟨Int.mul_nonneg (by omega) hd.1, Int.mul_le_mul (by omega) hd.2 hd.1 (by decide)⟩
        have e1 : offsets_cd0 i X Y d = pts i (ofX i X Y d) (ofY i X Y d) := by
          show DV.lst (ofM i X Y d) _ = _
          rw [hM]
        rw [e1]
        exact ⟨⟨areaR_c _ _ _ hO, areaR_c _ _ _ h, by unfold i64In; omega, by unfold i64In; omega, by unfold i64In; omega, by unfold i64In; omega, by unfold i64In; omega, fun _ => coversR_c _ _ _ _ _ _ hO h⟩, hA, hC⟩
  · have hG : ofG n X Y d = chk n X Y := if_pos h
    have hM : ofM n X Y d = 0 := (of_bad hG h).1
    refine ⟨fun _ => samePoints0_c _ _ _, fun h1 => ?_, fun _ h' => absurd h' h⟩
    rcases h1 with h1 | h1
    · exact absurd hG h1
    · rw [sameP, decide_eq_false_iff_not] at h1
      exact absurd ⟨hM, fun j hj => by omega⟩ h1
end Go.Abs
