/- Contracts. -/
import Derived.Test.YtcgfcahljfmipaaDoorK31
set_option linter.unusedVariables false
set_option linter.unusedSimpArgs false
set_option maxRecDepth 100000
namespace Go.Abs
open Go
/-- The sign of a corner; the parallel outline: its sides' lengths, its corners, its error. -/
def corI (n : Nat) (X Y : Nat → Int) (i : Int) : Int := if dD n X Y i = (dD n X Y (i - 1) + 1) % 4 then 1 else -1
def ofL (n : Nat) (X Y : Nat → Int) (d i : Int) : Int := lenW n X Y i + d * corI n X Y i + d * corI n X Y (i + 1)
def ofX (n : Nat) (X Y : Nat → Int) (d : Int) (i : Nat) : Int := X i + d * stX ((dD n X Y i + 3) % 4) + d * stX ((dD n X Y ((i : Int) - 1) + 3) % 4)
def ofY (n : Nat) (X Y : Nat → Int) (d : Int) (i : Nat) : Int := Y i + d * stY ((dD n X Y i + 3) % 4) + d * stY ((dD n X Y ((i : Int) - 1) + 3) % 4)
def ofS (n : Nat) (X Y : Nat → Int) (d : Int) (k : Nat) : Bool := decide (∀ i, i < k → 0 < ofL n X Y d (i : Nat))
def ofE (n : Nat) (X Y : Nat → Int) (d : Int) : Int := if ofS n X Y d n = false then 12 else if chk n (ofX n X Y d) (ofY n X Y d) = 0 then 0 else if chk n (ofX n X Y d) (ofY n X Y d) = 2 then 2 else 12
section
variable {n : Nat} {X Y : Nat → Int} {d : Int}
theorem corI_val (i : Int) : corI n X Y i = 1 ∨ corI n X Y i = -1 := by
  unfold corI
  split
  · exact .inl rfl
  · exact .inr rfl
theorem of_zero (h : ofE n X Y d = 0) : (∀ i, i < n → 0 < ofL n X Y d (i : Nat)) ∧ chk n (ofX n X Y d) (ofY n X Y d) = 0 := by
  unfold ofE at h
  split at h
  · cases h
  · rename_i h1
    split at h
    · rename_i h2
      refine ⟨?_, h2⟩
      unfold ofS at h1
      simpa using h1
    · split at h <;> cases h
end
section
variable {n : Nat} {X Y : Nat → Int} {g w : Int}
end
def ofP (n : Nat) (X Y : Nat → Int) (d : Int) (i j : Nat) : Int := if j = 0 then lenW n X Y i else if j = 1 then lenW n X Y i + d * corI n X Y i else ofL n X Y d i
def rRi : Orc := .res fun l => dI ((aI l 0 + 3) % 4)
def rLnW : Orc := .res fun l => dI (lenW (aN l) (aX l) (aY l) (aI l 1))
def rWi : Orc := .res fun l => dB (decide (aI l 1 ≤ aI l 0 ∧ aI l 0 ≤ aI l 2))
theorem ofS_0 {n : Nat} {X Y : Nat → Int} {d : Int} : ofS n X Y d 0 = true := decide_eq_true fun i hi => absurd hi (Nat.not_lt_zero i)
theorem ofS_1 {n : Nat} {X Y : Nat → Int} {d : Int} {i : Nat} (h : ofS n X Y d i = true) (h1 : ¬ ofL n X Y d i ≤ 0) : ofS n X Y d (i + 1) = true := by
  unfold ofS at h ⊢
  rw [decide_eq_true_eq] at h ⊢
  intro j hj
  by_cases e : j = i
  · rw [e]; omega
  · exact h j (by omega)
theorem ofE_s {n : Nat} {X Y : Nat → Int} {d : Int} {i : Nat} (hi : i < n) (h1 : ofL n X Y d i ≤ 0) : ofE n X Y d = 12 := by
  rw [ofE, if_pos]
  unfold ofS
  rw [decide_eq_false_iff_not]
  intro h
  have := h i hi
  omega
theorem ofE_0 {n : Nat} {X Y : Nat → Int} {d : Int} (h : ofS n X Y d n = true) (hc : chk n (ofX n X Y d) (ofY n X Y d) = 0) : ofE n X Y d = 0 := by
  rw [ofE, if_neg (by rw [h]; simp), if_pos hc]
theorem ofE_2 {n : Nat} {X Y : Nat → Int} {d : Int} (h : ofS n X Y d n = true) (hc : chk n (ofX n X Y d) (ofY n X Y d) = 2) : ofE n X Y d = 2 := by
  rw [ofE, if_neg (by rw [h]; simp), if_neg (by rw [hc]; decide), if_pos hc]
theorem ofE_c {n : Nat} {X Y : Nat → Int} {d : Int} (h : ofS n X Y d n = true) (hc : ¬ chk n (ofX n X Y d) (ofY n X Y d) = 0) (hc2 : ¬ chk n (ofX n X Y d) (ofY n X Y d) = 2) : ofE n X Y d = 12 := by
  rw [ofE, if_neg (by rw [h]; simp), if_neg hc, if_neg hc2]
theorem lenW_bd {n : Nat} {X Y : Nat → Int} (hn : 0 < n) (hX : inB n X) (hY : inB n Y) (i : Int) : 0 ≤ lenW n X Y i ∧ lenW n X Y i ≤ 4000000 := by
  unfold lenW
  have a1 := hX _ (ix_lt (n := n) (i := i) hn)
  have a2 := hX _ (ix_lt (n := n) (i := i + 1) hn)
  have a3 := hY _ (ix_lt (n := n) (i := i) hn)
  have a4 := hY _ (ix_lt (n := n) (i := i + 1) hn)
  omega
theorem st_bd {d : Int} (x : Int) (hd : 0 ≤ d ∧ d ≤ 1000000) : -1000000 ≤ d * stX ((x + 3) % 4) ∧ d * stX ((x + 3) % 4) ≤ 1000000 ∧ -1000000 ≤ d * stY ((x + 3) % 4) ∧ d * stY ((x + 3) % 4) ≤ 1000000 ∧ -1 ≤ stX ((x + 3) % 4) ∧ stX ((x + 3) % 4) ≤ 1 ∧ -1 ≤ stY ((x + 3) % 4) ∧ stY ((x + 3) % 4) ≤ 1 := by
  obtain ⟨e1, e2⟩ | ⟨e1, e2⟩ | ⟨e1, e2⟩ | ⟨e1, e2⟩ := st_val (d := (x + 3) % 4) (by omega)
  all_goals
    rw [e1, e2]
    omega
abbrev ofC (n : Nat) (X Y : Nat → Int) (d : Int) : List (Nat → DV) := [fun k => dI (ofX n X Y d k), fun k => dI (ofY n X Y d k)]
/-- The whole answer: the error, the number of corners. -/
def ofG (n : Nat) (X Y : Nat → Int) (d : Int) : Int := if chk n X Y ≠ 0 then chk n X Y else if ¬ (0 ≤ d ∧ d ≤ 1000000) then 2 else ofE n X Y d
def ofM (n : Nat) (X Y : Nat → Int) (d : Int) : Nat := if ofG n X Y d = 0 then n else 0
theorem ofG_in {n : Nat} {X Y : Nat → Int} {d : Int} (h : chk n X Y = 0) (hd : 0 ≤ d ∧ d ≤ 1000000) : ofG n X Y d = ofE n X Y d := by rw [ofG, if_neg (fun h' => h' h), if_neg (fun h' => h' hd)]
theorem of_bad {n : Nat} {X Y : Nat → Int} {d e : Int} (h : ofG n X Y d = e) (he : e ≠ 0) : ofM n X Y d = 0 ∧ e = ofG n X Y d := ⟨by rw [ofM, h, if_neg he], h.symm⟩
noncomputable def A28_right_c (d : Int) : Ann := { orc := [(1, [(2, .pos)])], loops := [], cuts := [] }
theorem right_c (d : Int) (h : 0 ≤ d ∧ d < 4) : FnC prog 28 [dI d] (dI ((d + 3) % 4)) := by
  refine FnC_owed hmix (A28_right_c d) (V := .need [i64In (d + 3), (0:Int) ≤ d + 3 ∧ (0:Int) < 4] (.done [(d + 3) % (4:Int) = (d + 3) % (4:Int)])) (by kernel_rfl) ?_
  simp only [VT.holds, AllT, Sq]
  unfold i64In
  omega
noncomputable def A7_offset_c (n : Nat) (X Y : Nat → Int) (d : Int) : Ann := { orc := [(1, [(1, rChk)]), (11, [(2, rLnW)]), (15, [(2, rOuter)]), (21, [(7, rWay), (8, rRi), (12, rMo), (16, rWay), (17, rRi), (21, rMo)]), (23, [(1, rChk)])], loops := [(0, { ι := Nat, keep := [0, 1, 7, 26], boxes := [], ts := fun _ i => [(27, dI (i : Int))], rw := fun _ i => [(8, 2, i, ofC n X Y d)], inv := fun _ i => i ≤ n ∧ ofS n X Y d i = true, mu := fun _ i => n - i, rd := fun _ σ => (iOf (σ.get 27)).toNat }), (2, { ι := Nat, keep := [0, 1, 7, 26, 27, 9, 36], boxes := [], ts := fun σ j => [(37, dI (j : Int)), (10, dI (ofP n X Y d (iOf (σ.get 9)).toNat j))], rw := fun σ _ => [(8, 2, (iOf (σ.get 27)).toNat, ofC n X Y d)], inv := fun _ j => j ≤ 2, mu := fun _ j => 2 - j, rd := fun _ σ => (iOf (σ.get 37)).toNat })], cuts := [] }
noncomputable abbrev offset_cd0 (n : Nat) (X : Nat → Int) (Y : Nat → Int) (d : Int) (i : Nat) : DV := .val (.agg (Array.mk [.int .i64 (X (Int.toNat (i:Int)) + d * List.getD [(1:Int), (0:Int), (-1:Int), (0:Int)] (Int.toNat ((dD n X Y (i:Int) + (3:Int)) % (4:Int))) (0:Int)), .int .i64 (Y (Int.toNat (i:Int)) + d * List.getD [(0:Int), (1:Int), (0:Int), (-1:Int)] (Int.toNat ((dD n X Y (i:Int) + (3:Int)) % (4:Int))) (0:Int))]))
noncomputable abbrev offset_cr0 (n : Nat) (X : Nat → Int) (Y : Nat → Int) (d : Int) (r : List Prop) : List Prop := (n = n) :: (∀ (i : Nat), i < n → X i = X i) :: (∀ (i : Nat), i < n → Y i = Y i) :: (d = d) :: (n = n) :: (∀ (i : Nat), i < n → X i = X i) :: (∀ (i : Nat), i < n → Y i = Y i) :: ((n:Int) = (n:Int)) :: r
theorem offset_c (n : Nat) (X Y : Nat → Int) (d : Int) (hn2 : n ≤ 1000000) : FnC prog 7 [pts n X Y, dI d] (.tup [.lst (ofM n X Y d) (ofC n X Y d), dI (ofG n X Y d)]) := by
  refine FnC_owed hmix (A7_offset_c n X Y d) (V := .need [FnC prog 24 [.lst n [fun i => (dI (X i)), fun i => (dI (Y i))]] ((dI (chk n X Y)))] (.ite (chk n X Y != 0) (.done [ofM n X Y d = 0, chk n X Y = ofG n X Y d]) (.need [ri ((!decide (d < 0)) = true), decide (d < 0) = false → (!decide (d < 0)) = true] (.ite (if decide (d < 0) = true then true else decide (d > 1000000)) (.done [ofM n X Y d = 0, (2:Int) = ofG n X Y d]) (.loop Nat (fun a => a ≤ n ∧ ofS n X Y d a = true) (0:Int).toNat (((0:Int) = (↑(0:Int).toNat : Int)) :: (((0:Nat) = 0) :: ((Int.toNat (0:Int) = 0) :: (offset_cr0 n X Y d [Int.toNat (0:Int) = 0])))) fun i => .ite (decide ((i:Int) < (n:Int))) (.need [FnC prog 25 [.lst n [fun i => (dI (X i)), fun i => (dI (Y i))], (dI (i:Int))] ((dI (lenW n X Y (i:Int))))] (.need [i64In ((i:Int) + 1)] (.loop Nat (fun a => a ≤ 2) (0:Int).toNat (((0:Int) = (↑(0:Int).toNat : Int)) :: ((lenW n X Y (i:Int) = ofP n X Y d (i:Int).toNat (0:Int).toNat) :: (((0:Nat) = 0) :: ((i = (i:Int).toNat) :: (offset_cr0 n X Y d [(i:Int) = (i:Int), (i:Int) = (i:Int), (i:Int) = (i:Int), (i:Int) + 1 = (i:Int) + 1, i = (i:Int).toNat, ∀ i_1 < (i:Int).toNat, ofX n X Y d i_1 = ofX n X Y d i_1, ∀ i_1 < (i:Int).toNat, ofY n X Y d i_1 = ofY n X Y d i_1]))))) fun i_1 => .ite (decide ((i_1:Int) < 2)) (.need [(0:Int) ≤ (i_1:Int) ∧ (i_1:Int) < (↑(2:Nat) : Int)] (.need [FnC prog 26 [.lst n [fun i => (dI (X i)), fun i => (dI (Y i))], (dI (List.getD [(i:Int), (i:Int) + 1] (i_1:Int).toNat (0:Int)))] ((dB (decide (dD n X Y (List.getD [(i:Int), (i:Int) + 1] (i_1:Int).toNat (0:Int)) = (dD n X Y (List.getD [(i:Int), (i:Int) + 1] (Int.toNat
     (i_1:Int)) (0:Int) - 1) + 1) % (4:Int)))))] (.ite (decide (dD n X Y (List.getD [(i:Int), (i:Int) + 1] (i_1:Int).toNat (0:Int)) = (dD n X Y (List.getD [(i:Int), (i:Int) + 1] (i_1:Int).toNat (0:Int) - 1) + 1) % (4:Int))) (.need [i64In (ofP n X Y d (i:Int).toNat i_1 + d)] (.need [i64In ((i_1:Int) + 1)] (.done (((i_1:Int) + 1 = (↑((i_1:Int) + 1).toNat : Int)) :: ((ofP n X Y d (i:Int).toNat i_1 + d = ofP n X Y d (i:Int).toNat ((i_1:Int) + 1).toNat) :: (((0:Nat) = 0) :: ((Int.toNat (i:Int) = (i:Int).toNat) :: (offset_cr0 n X Y d [(i:Int) = (i:Int), (i:Int) = (i:Int), (i:Int) = (i:Int), (i:Int) + 1 = (i:Int) + 1, Int.toNat (i:Int) = (i:Int).toNat, ∀ i_2 < (i:Int).toNat, ofX n X Y d i_2 = ofX n X Y d i_2, ∀ i_2 < (i:Int).toNat, ofY n X Y d i_2 = ofY n X Y d i_2, Int.toNat ((i_1:Int) + 1) ≤ 2, (2:Nat) - ((i_1:Int) + 1).toNat < 2 - i_1])))))))) (.need [i64In (ofP n X Y d (i:Int).toNat i_1 - d)] (.need [i64In ((i_1:Int) + 1)] (.done (((i_1:Int) + 1 = (↑((i_1:Int) + 1).toNat : Int)) :: ((ofP n X Y d (i:Int).toNat i_1 - d = ofP n X Y d (i:Int).toNat ((i_1:Int) + 1).toNat) :: (((0:Nat) = 0) :: ((Int.toNat (i:Int) = (i:Int).toNat) :: (offset_cr0 n X Y d [(i:Int) = (i:Int), (i:Int) = (i:Int), (i:Int) = (i:Int), (i:Int) + 1 = (i:Int) + 1, Int.toNat (i:Int) = (i:Int).toNat, ∀ i_2 < (i:Int).toNat, ofX n X Y d i_2 = ofX n X Y d i_2, ∀ i_2 < (i:Int).toNat, ofY n X Y d i_2 = ofY n X Y d i_2, Int.toNat ((i_1:Int) + 1) ≤ 2, (2:Nat) - ((↑i_1 :
     Int) + 1).toNat < 2 - i_1]))))))))))) (.ite (decide (ofP n X Y d (i:Int).toNat i_1 ≤ 0)) (.done [ofM n X Y d = 0, (12:Int) = ofG n X Y d]) (.need [(0:Int) ≤ (i:Int) ∧ (i:Int) < (n:Int), FnC prog 29 [.lst n [fun i => (dI (X i)), fun i => (dI (Y i))], (dI (i:Int))] ((dI (dD n X Y (i:Int)))), FnC prog 28 [(dI (dD n X Y (i:Int)))] ((dI ((dD n X Y (i:Int) + 3) % (4:Int)))), (0:Int) ≤ (dD n X Y (i:Int) + 3) % (4:Int) ∧ (dD n X Y (i:Int) + 3) % (4:Int) < (↑(4:Nat) : Int), FnC prog 27 [.val (.agg (Array.mk [.int .i64 (X (i:Int).toNat), .int .i64 (Y (i:Int).toNat)])), .val (.agg (Array.mk [.int .i64 (List.getD [(1:Int), (0:Int), (-1:Int), (0:Int)] ((dD n X Y (i:Int) + 3) % (4:Int)).toNat (0:Int)), .int .i64 (List.getD [(0:Int), (1:Int), (0:Int), (-1:Int)] ((dD n X Y (i:Int) + 3) % (4:Int)).toNat (0:Int))])), (dI d)] ((offset_cd0 n X Y d i)), i64In ((i:Int) - 1), FnC prog 29 [.lst n [fun i => (dI (X i)), fun i => (dI (Y i))], (dI ((i:Int) - 1))] ((dI (dD n X Y ((i:Int) - 1)))), FnC prog 28 [(dI (dD n X Y ((i:Int) - 1)))] ((dI ((dD n X Y ((i:Int) - 1) + 3) % (4:Int)))), (0:Int) ≤ (dD n X Y ((i:Int) - 1) + 3) % (4:Int) ∧ (dD n X Y ((i:Int) - 1) + 3) % (4:Int) < (↑(4:Nat) : Int), FnC prog 27 [(offset_cd0 n X Y d i), .val (.agg (Array.mk [.int .i64 (List.getD [(1:Int), (0:Int), (-1:Int), (0:Int)] ((dD n X Y ((i:Int) - 1) + 3) % (4:Int)).toNat (0:Int)), .int .i64 (List.getD [(0:Int), (1:Int), (0:Int), (-1:Int)] ((dD n X Y ((i:Int) - 1) + 3) % (4:Int)).toNat (0:Int))])), (dI d)] (.val (.agg (Array.mk [.int .i64 (X (i:Int).toNat + d * List.getD [(1:Int), (0:Int), (-1
     : Int), (0:Int)] ((dD n X Y (i:Int) + 3) % (4:Int)).toNat (0:Int) + d * List.getD [(1:Int), (0:Int), (-1:Int), (0:Int)] ((dD n X Y ((i:Int) - 1) + 3) % (4:Int)).toNat (0:Int)), .int .i64 (Y (i:Int).toNat + d * List.getD [(0:Int), (1:Int), (0:Int), (-1:Int)] ((dD n X Y (i:Int) + 3) % (4:Int)).toNat (0:Int) + d * List.getD [(0:Int), (1:Int), (0:Int), (-1:Int)] ((dD n X Y ((i:Int) - 1) + 3) % (4:Int)).toNat (0:Int))]))), Int.toNat (i:Int) ≤ (i:Int).toNat, (Int.toNat (i:Int) + 1) * (nat_lit 15 + 1) ≤ 140737488355328, (1:Nat) ≤ 1] (.need [i64In ((i:Int) + 1)] (.done (((i:Int) + 1 = (↑((i:Int) + 1).toNat : Int)) :: (((0:Nat) = 0) :: ((Int.toNat (i:Int) + 1 = ((i:Int) + 1).toNat) :: (offset_cr0 n X Y d [Int.toNat (i:Int) + 1 = ((i:Int) + 1).toNat, ∀ i_2 < ((i:Int) + 1).toNat, (if decide (i_2 < (i:Int).toNat) = true then ofX n X Y d i_2 else X (i:Int).toNat + d * List.getD [(1:Int), (0:Int), (-1:Int), (0:Int)] ((dD n X Y (i:Int) + 3) % (4:Int)).toNat (0:Int) + d * List.getD [(1:Int), (0:Int), (-1:Int), (0:Int)] ((dD n X Y ((i:Int) - 1) + 3) % (4:Int)).toNat (0:Int)) = ofX n X Y d i_2, ∀ i_2 < ((i:Int) + 1).toNat, (if decide (i_2 < (i:Int).toNat) = true then ofY n X Y d i_2 else Y (i:Int).toNat + d * List.getD [(0:Int), (1:Int), (0:Int), (-1:Int)] ((dD n X Y (i:Int) + 3) % (4:Int)).toNat (0:Int) + d * List.getD [(0:Int), (1:Int), (0:Int), (-1:Int)] ((dD n X Y ((i:Int) - 1) + 3) % (4:Int)).toNat (0:Int)) = ofY n X Y d i_2, Int.toNat ((i:Int) + 1) ≤ n ∧ ofS n X Y d
     ((i:Int) + 1).toNat = true, n - ((i:Int) + 1).toNat < n - i]))))))))))) (.need [i ≤ i, FnC prog 30 [.lst i [fun i => (dI (ofX n X Y d i)), fun i => (dI (ofY n X Y d i))]] ((dI (chk i (ofX n X Y d) (ofY n X Y d))))] (.ite (chk i (ofX n X Y d) (ofY n X Y d) == 0) (.done [i ≤ i, i = ofM n X Y d, ∀ i < ofM n X Y d, ofX n X Y d i = ofX n X Y d i, ∀ i < ofM n X Y d, ofY n X Y d i = ofY n X Y d i, (0:Int) = ofG n X Y d]) (.ite (chk i (ofX n X Y d) (ofY n X Y d) == 2) (.done [ofM n X Y d = 0, (2:Int) = ofG n X Y d]) (.done [ofM n X Y d = 0, (12:Int) = ofG n X Y d]))))))))) (by kernel_rfl) ?_
  simp only [VT.holds, AllT, offset_cd0, offset_cr0, Sq]
  have m4 : ∀ x : Int, 0 ≤ (x + 3) % 4 ∧ (x + 3) % 4 < 4 := fun x => by omega
  simp only [gX (m4 _), gY (m4 _)]
  refine ⟨checkOutline_c n X Y hn2, fun h1 => of_bad (if_pos h1) h1, fun h => ⟨fun h1 => of_bad (by rw [ofG, if_neg (fun h' => h' h), if_pos (by omega)]) (by decide), fun hd1 => ?_⟩⟩
  have hd : 0 ≤ d ∧ d ≤ 1000000 := by omega
  have hn := chk_n h
  obtain ⟨hX, hY⟩ := chk_inB h
  have eG := ofG_in (X := X) (Y := Y) h hd
  refine ⟨rfl, ⟨Nat.zero_le _, ofS_0⟩, fun i ⟨hi, hS⟩ => ⟨fun hlt => ?_, fun hge => ?_⟩⟩
  · have hl := lenW_bd (n := n) (by omega) hX hY (i : Int)
    refine ⟨length_c n X Y i (by omega) (by omega) (by omega) (by omega) hX hY, by unfold i64In; omega, ⟨rfl, rfl⟩, by omega, fun j hj => ⟨fun hj2 => ?_, fun hj2 => ?_⟩⟩
    · obtain rfl | rfl : j = 0 ∨ j = 1 := by omega
      · have e : [(i : Int), (i : Int) + 1].getD 0 0 = i := rfl
        have e0 : ofP n X Y d i 0 = lenW n X Y i := rfl
        have e1 : ofP n X Y d i (0 + 1) = lenW n X Y i + d * corI n X Y i := rfl
        rw [e0, e1]
        refine ⟨by omega, outer_c n X Y i (by omega) (by omega) (by omega) (by omega), fun hc => ?_, fun hc => ?_⟩
        · rw [show corI n X Y i = 1 from if_pos hc]
          unfold i64In; omega
        · rw [show corI n X Y i = -1 from if_neg hc]
          unfold i64In; omega
      · have e : [(i : Int), (i : Int) + 1].getD 1 0 = (i : Int) + 1 := rfl
        have e0 : ofP n X Y d i 1 = lenW n X Y i + d * corI n X Y i := rfl
        have e1 : ofP n X Y d i (1 + 1) = lenW n X Y i + d * corI n X Y i + d * corI n X Y ((i : Int) + 1) := rfl
        rw [e0, e1]
        have hb : -1000000 ≤ d * corI n X Y i ∧ d * corI n X Y i ≤ 1000000 := by
          rcases corI_val (n := n) (X := X) (Y := Y) (i : Int) with e1 | e1 <;> rw [e1] <;> omega
        refine ⟨by omega, outer_c n X Y (i + 1) (by omega) (by omega) (by omega) (by omega), fun hc => ?_, fun hc => ?_⟩
        · rw [show corI n X Y ((i : Int) + 1) = 1 from if_pos hc]
          unfold i64In; omega
        · rw [show corI n X Y ((i : Int) + 1) = -1 from if_neg hc]
          unfold i64In; omega
    · obtain rfl : j = 2 := by omega
      have e2 : ofP n X Y d i 2 = ofL n X Y d i := rfl
      rw [e2]
      refine ⟨fun h1 => of_bad (eG.trans (ofE_s (by omega) h1)) (by decide), fun h1 => ?_⟩
      have b1 := st_bd (dD n X Y i) hd
      have b2 := st_bd (dD n X Y ((i : Int) - 1)) hd
      have r1 := dD_range n X Y i
      have r2 := dD_range n X Y ((i : Int) - 1)
      have x1 := hX i (by omega)
      have y1 := hY i (by omega)
      refine ⟨⟨by omega, way_c n X Y i (by omega) (by omega) (by omega) (by omega), right_c _ (by omega), by omega, moved_c _ _ _ _ _ (by unfold m3; omega) (by unfold m3; omega) (by unfold m3; omega) (by omega) (by omega), by unfold i64In; omega, way_c n X Y (i - 1) (by omega) (by omega) (by omega) (by omega), right_c _ (by omega), by omega, moved_c _ _ _ _ _ (by unfold m3; omega) (by unfold m3; omega) (by unfold m3; omega) (by omega) (by omega), Nat.le_refl _, by omega, Nat.le_refl _⟩, by unfold i64In; omega, rfl, last_if (f := ofX n X Y d) rfl, last_if (f := ofY n X Y d) rfl, ⟨by omega, ofS_1 hS h1⟩, by omega⟩
  · obtain rfl : i = n := by omega
    exact ⟨⟨Nat.le_refl _, check_c _ _ _ (by omega)⟩, fun h1 => ⟨Nat.le_refl _, by rw [ofM, eG, ofE_0 hS h1, if_pos rfl], by rw [eG, ofE_0 hS h1]⟩, fun h1 => ⟨fun h2 => of_bad (eG.trans (ofE_2 hS h2)) (by decide), fun h2 => of_bad (eG.trans (ofE_c hS h1 h2)) (by decide)⟩⟩
end Go.Abs
