/- Contracts. -/
import Derived.Test.YtglebihdhfdhoaaDoorK28
set_option linter.unusedVariables false
set_option linter.unusedSimpArgs false
set_option maxRecDepth 100000
namespace Go.Abs
open Go
section
variable {n : Nat} {X Y : Nat → Int}
theorem lo_neg (i : Int) : lo n (fun k => -X k) i = -hi n X i := by unfold lo hi; dsimp only; omega
theorem hi_neg (i : Int) : hi n (fun k => -X k) i = -lo n X i := by unfold lo hi; dsimp only; omega
theorem dO_rot (i : Int) : dO n (fun k => -Y k) X i = dO n X Y i := by
  unfold dO dirOk
  rw [decide_eq_decide]
  dsimp only
  omega
theorem dD_rot {i : Int} (h : dO n X Y i = true) : dD n (fun k => -Y k) X i = (dD n X Y i + 1) % 4 := by
  have hs := side_par h
  unfold dD dirD
  dsimp only
  (repeat' split) <;> omega
theorem formOk_rot (i : Nat) : formOk n (fun k => -Y k) X i = formOk n X Y i := by
  unfold formOk
  rw [dO_rot, dO_rot]
  cases h1 : dO n X Y i
  · rfl
  · cases h2 : dO n X Y ((i : Int) - 1)
    · rfl
    · rw [dD_rot h1, dD_rot h2]
      congr 1
      rw [decide_eq_decide]
      omega
theorem touF_rot (i k : Int) : touF n (fun k => -Y k) X i k = touF n X Y i k := by
  unfold touF
  rw [lo_neg, hi_neg, lo_neg, hi_neg, decide_eq_decide]
  omega
theorem clash_rot (i k : Nat) : clash n (fun k => -Y k) X i k = clash n X Y i k := by
  unfold clash
  rw [touF_rot]
theorem twS_rot : ∀ k, twS n (fun k => -Y k) X k = twS n X Y k
  | 0 => rfl
  | k + 1 => by
    rw [twS, twS, twS_rot k]
    rw [Int.neg_mul, Int.neg_mul, Int.mul_comm (Y (ix n k)), Int.mul_comm (Y (ix n (k + 1)))]
    omega
theorem allIn_rot : allIn n (fun k => -Y k) X = allIn n X Y := by
  unfold allIn
  rw [decide_eq_decide]
  have e : ∀ k, badP (fun k => -Y k) X k = badP X Y k := fun k => by
    unfold badP inF
    dsimp only
    congr 1
    rw [Bool.and_comm]
    congr 1
    rw [decide_eq_decide]
    omega
  simp only [e]
theorem chk_rot : chk n (fun k => -Y k) X = chk n X Y := by
  unfold chk
  simp only [allIn_rot, formOk_rot, clash_rot, twS_rot]
theorem lenW_rot (i : Int) : lenW n (fun k => -Y k) X i = lenW n X Y i := by
  unfold lenW
  dsimp only
  omega
theorem onS_rot (p q : Int) (i : Nat) : onS n (fun k => -Y k) X (-q) p i = onS n X Y p q i := by
  unfold onS
  rw [lo_neg, hi_neg, decide_eq_decide]
  omega
theorem crs_rot (hn : 0 < n) (hp : ∀ i, i < n → dO n X Y (i : Nat) = true) {p q : Int} (hoff : ∀ i, i < n → onS n X Y p q i = false) : crs n (fun k => -Y k) X (-q) p n = crs n X Y p q n := by
  have h1 := xr_abel (fun i => decide (X (ix n (i : Nat)) > p)) (fun i => decide (Y (ix n (i : Nat)) ≤ q)) n
  simp only [ix_self hn, Int.natCast_zero, ix_zero hn, bne_self_eq_false] at h1
  have e : ∀ a b : Bool, (a != b) = false → b = a := by decide
  have h2 := e _ _ h1
  rw [crs_xr, crs_xr]
  rw [xr_congr (g := fun i => decide (X (ix n (i : Nat)) > p) && (decide (Y (ix n (i : Nat)) ≤ q) != decide (Y (ix n ((i + 1 : Nat) : Int)) ≤ q))) (f := fun i => crB n X Y p q i) fun i hi => by rw [crB_eq (hp i hi), Int.natCast_succ]]
  rw [← h2]
  refine xr_congr fun i hi => ?_
  rw [crB_eq (by rw [dO_rot]; exact hp i hi), Int.natCast_succ]
  have hs := side_par (hp i hi)
  have ho := hoff i hi
  unfold onS lo Go.Abs.hi at ho
  rw [decide_eq_false_iff_not] at ho
  rw [Bool.eq_iff_iff]
  simp only [Bool.and_eq_true, decide_eq_true_eq, bne_iff_ne, ne_eq, decide_eq_decide]
  omega
theorem whF_rot (hn : 0 < n) (hp : ∀ i, i < n → dO n X Y (i : Nat) = true) (p q : Int) : whF n (fun k => -Y k) X (-q) p = whF n X Y p q := by
  unfold whF
  simp only [onS_rot]
  split
  · rfl
  · rename_i h
    rw [crs_rot hn hp (Decidable.not_not.1 h)]
theorem hasC_rot (hn : 0 < n) (hp : ∀ i, i < n → dO n X Y (i : Nat) = true) {x y : Int} (hx : ∀ k, k < n → x ≠ 2 * X k) (hy : ∀ k, k < n → y ≠ 2 * Y k) : hasC n (fun k => -Y k) X (-y) x n = hasC n X Y x y n := by
  rw [← crs_has hn hy, ← crs_has hn (X := fun k => -Y k) (Y := X) hx]
  have e : (fun k => 2 * (fun k => -Y k) k) = fun k => -(fun k => 2 * Y k) k := by funext k; dsimp only; omega
  rw [e]
  have hp2 : ∀ i, i < n → dO n (fun k => 2 * X k) (fun k => 2 * Y k) (i : Nat) = true := fun i hi => by
    have := side_par (hp i hi)
    unfold dO dirOk
    rw [decide_eq_true_eq]
    dsimp only
    omega
  refine crs_rot hn hp2 fun i hi => ?_
  have hs := side_par (hp i hi)
  have h1 := hx _ (ix_lt (i := (i : Int)) hn)
  have h2 := hy _ (ix_lt (i := (i : Int)) hn)
  unfold onS lo Go.Abs.hi
  rw [decide_eq_false_iff_not]
  dsimp only
  omega
end
/-- Nothing is found in the midst of a grid's cells. -/
def cellsAll (gx gy : List Int) (p : Int → Int → Bool) : Prop := ∀ i j, i + 1 < gx.length → j + 1 < gy.length → p (gx.getD i 0 + gx.getD (i + 1) 0) (gy.getD j 0 + gy.getD (j + 1) 0) = false
theorem revneg_get {l : List Int} {i : Nat} (h : i < l.length) : (l.reverse.map fun x => -x).getD i 0 = -(l.getD (l.length - 1 - i) 0) := by
  rw [List.getD_eq_getElem?_getD, List.getElem?_map, List.getElem?_reverse h, List.getD_eq_getElem?_getD]
  have h2 : l.length - 1 - i < l.length := by omega
  rw [List.getElem?_eq_getElem h2]
  rfl
theorem cells_rot {gx gy : List Int} {p p' : Int → Int → Bool} (h : ∀ i j, i + 1 < gx.length → j + 1 < gy.length → p' (-(gy.getD j 0 + gy.getD (j + 1) 0)) (gx.getD i 0 + gx.getD (i + 1) 0) = p (gx.getD i 0 + gx.getD (i + 1) 0) (gy.getD j 0 + gy.getD (j + 1) 0)) :
    cellsAll (gy.reverse.map fun x => -x) gx p' ↔ cellsAll gx gy p := by
  have hl : (gy.reverse.map fun x => -x).length = gy.length := by simp
  constructor
  · intro hc i j hi hj
    have h1 := hc (gy.length - 2 - j) i (by rw [hl]; omega) hi
    rw [revneg_get (by omega), revneg_get (by omega), show gy.length - 1 - (gy.length - 2 - j) = j + 1 by omega, show gy.length - 1 - (gy.length - 2 - j + 1) = j by omega] at h1
    rw [← h i j hi hj, show -(gy.getD j 0 + gy.getD (j + 1) 0) = -gy.getD (j + 1) 0 + -gy.getD j 0 by omega]
    exact h1
  · intro hc i j hi hj
    rw [hl] at hi
    rw [revneg_get (by omega), revneg_get (by omega), show gy.length - 1 - i = (gy.length - 2 - i) + 1 by omega, show gy.length - 1 - (i + 1) = gy.length - 2 - i by omega]
    rw [show -gy.getD (gy.length - 2 - i + 1) 0 + -gy.getD (gy.length - 2 - i) 0 = -(gy.getD (gy.length - 2 - i) 0 + gy.getD (gy.length - 2 - i + 1) 0) by omega, h j (gy.length - 2 - i) hj (by omega)]
    exact hc j _ hj (by omega)
theorem cells_ix {gx gy : List Int} {f : Nat → Bool} {p : Int → Int → Bool} (h : ∀ i j, j < gy.length - 1 → f ((gy.length - 1) * i + j) = p (gx.getD i 0 + gx.getD (i + 1) 0) (gy.getD j 0 + gy.getD (j + 1) 0)) :
    (∀ k, k < (gy.length - 1) * (gx.length - 1) → f k = false) ↔ cellsAll gx gy p := by
  constructor
  · intro hc i j hi hj
    rw [← h i j (by omega)]
    exact hc _ (cell_lt' (by omega) (by omega))
  · intro hc k hk
    have hM : 0 < gy.length - 1 := Nat.pos_of_mul_pos_right (Nat.lt_of_le_of_lt (Nat.zero_le k) hk)
    have h1 := Nat.div_add_mod k (gy.length - 1)
    have h2 := Nat.mod_lt k hM
    have h3 := Nat.div_lt_of_lt_mul hk
    generalize k / (gy.length - 1) = q at *
    generalize k % (gy.length - 1) = r at *
    rw [← h1, h _ _ h2]
    exact hc _ _ (by omega) (by omega)
theorem gr_asc (n : Nat) (X : Nat → Int) (m : Nat) (X' : Nat → Int) : Asc (gr n X m X') := (linesF_asc _).1
theorem gr_iff {n : Nat} {X : Nat → Int} {m : Nat} {X' : Nat → Int} {x : Int} : x ∈ gr n X m X' ↔ (∃ k, k < n ∧ X k = x) ∨ ∃ k, k < m ∧ X' k = x := by
  unfold gr
  rw [(linesF_asc _).2]
  simp only [allN, List.nil_append, List.mem_append, List.mem_map, List.mem_range, N2, X2, decide_true, if_true, Nat.one_ne_zero, decide_false, Bool.false_eq_true, if_false]
theorem revneg_asc {l : List Int} (h : Asc l) : Asc (l.reverse.map fun x => -x) := by
  unfold Asc at h ⊢
  rw [List.pairwise_map, List.pairwise_reverse]
  exact h.imp fun h => by omega
theorem revneg_mem {l : List Int} {x : Int} : x ∈ (l.reverse.map fun x => -x) ↔ -x ∈ l := by
  simp only [List.mem_map, List.mem_reverse]
  exact ⟨fun ⟨a, h, e⟩ => by rw [← e, Int.neg_neg]; exact h, fun h => ⟨_, h, Int.neg_neg x⟩⟩
theorem gr_neg (n : Nat) (Y : Nat → Int) (m : Nat) (Y' : Nat → Int) : gr n (fun k => -Y k) m (fun k => -Y' k) = (gr n Y m Y').reverse.map fun x => -x := by
  refine asc_eq (gr_asc _ _ _ _) (revneg_asc (gr_asc _ _ _ _)) fun x => ?_
  rw [gr_iff, revneg_mem, gr_iff]
  constructor
  · rintro (⟨k, hk, e⟩ | ⟨k, hk, e⟩)
    · exact .inl ⟨k, hk, by omega⟩
    · exact .inr ⟨k, hk, by omega⟩
  · rintro (⟨k, hk, e⟩ | ⟨k, hk, e⟩)
    · exact .inl ⟨k, hk, by omega⟩
    · exact .inr ⟨k, hk, by omega⟩
theorem covF_iff (n : Nat) (X Y : Nat → Int) (m : Nat) (X' Y' : Nat → Int) : covF n X Y m X' Y' = true ↔ cellsAll (gr n X m X') (gr n Y m Y') fun x y => hasC m X' Y' x y m && !hasC n X Y x y n := by
  unfold covF
  rw [decide_eq_true_eq]
  exact cells_ix (f := badC n X Y m X' Y') fun i j hj => by
    unfold badC
    rw [cell_at n X Y m X' Y' hj]
theorem metF_iff (n : Nat) (X Y : Nat → Int) (m : Nat) (X' Y' : Nat → Int) : metF n X Y m X' Y' = false ↔ cellsAll (gr n X m X') (gr n Y m Y') fun x y => hasC m X' Y' x y m && hasC n X Y x y n := by
  unfold metF
  rw [Bool.not_eq_false', decide_eq_true_eq]
  exact cells_ix (f := metC n X Y m X' Y') fun i j hj => by
    unfold metC
    rw [cell_at n X Y m X' Y' hj]
section
variable {n : Nat} {X Y : Nat → Int}
theorem covF_rot {m : Nat} {X' Y' : Nat → Int} (h1 : chk n X Y = 0) (h2 : chk m X' Y' = 0) : covF n (fun k => -Y k) X m (fun k => -Y' k) X' = covF n X Y m X' Y' := by
  have n1 := chk_n h1
  have n2 := chk_n h2
  rw [Bool.eq_iff_iff, covF_iff, covF_iff, gr_neg]
  refine cells_rot fun i j hi hj => ?_
  have g1 := gr_gap hi
  have g2 := gr_gap hj
  rw [hasC_rot (by omega) (fun i hi => dO_of_chk h2 hi) g1.2 g2.2, hasC_rot (by omega) (fun i hi => dO_of_chk h1 hi) g1.1 g2.1]
theorem sqX_mem {a b : Int} {x : Int} : (∃ k, k < 4 ∧ sqX a b k = x) ↔ x = a ∨ x = b := by
  constructor
  · rintro ⟨k, hk, e⟩
    match k, hk with
    | 0, _ => exact .inl e.symm
    | 1, _ => exact .inr e.symm
    | 2, _ => exact .inr e.symm
    | 3, _ => exact .inl e.symm
  · rintro (e | e)
    · exact ⟨0, by omega, e.symm⟩
    · exact ⟨1, by omega, e.symm⟩
theorem sqY_mem {a b : Int} {x : Int} : (∃ k, k < 4 ∧ sqY a b k = x) ↔ x = a ∨ x = b := by
  constructor
  · rintro ⟨k, hk, e⟩
    match k, hk with
    | 0, _ => exact .inl e.symm
    | 1, _ => exact .inl e.symm
    | 2, _ => exact .inr e.symm
    | 3, _ => exact .inr e.symm
  · rintro (e | e)
    · exact ⟨0, by omega, e.symm⟩
    · exact ⟨2, by omega, e.symm⟩
theorem metS_rot (h : chk n X Y = 0) {x1 x2 y1 y2 : Int} (hx : x1 < x2) (hy : y1 < y2) : metS n (fun k => -Y k) X (-y2) (-y1) x1 x2 = metS n X Y x1 x2 y1 y2 := by
  have n1 := chk_n h
  have e1 : gr n (fun k => -Y k) 4 (sqX (-y2) (-y1)) = (gr n Y 4 (sqY y1 y2)).reverse.map fun x => -x := by
    refine asc_eq (gr_asc _ _ _ _) (revneg_asc (gr_asc _ _ _ _)) fun x => ?_
    rw [gr_iff, revneg_mem, gr_iff, sqX_mem, sqY_mem]
    constructor
    · rintro (⟨k, hk, e⟩ | e)
      · exact .inl ⟨k, hk, by omega⟩
      · exact .inr (by omega)
    · rintro (⟨k, hk, e⟩ | e)
      · exact .inl ⟨k, hk, by omega⟩
      · exact .inr (by omega)
  have e2 : gr n X 4 (sqY x1 x2) = gr n X 4 (sqX x1 x2) := by
    refine asc_eq (gr_asc _ _ _ _) (gr_asc _ _ _ _) fun x => ?_
    rw [gr_iff, gr_iff, sqX_mem, sqY_mem]
  have key : metF n (fun k => -Y k) X 4 (sqX (-y2) (-y1)) (sqY x1 x2) = false ↔ metF n X Y 4 (sqX x1 x2) (sqY y1 y2) = false := by
    rw [metF_iff, metF_iff, e1, e2]
    refine cells_rot fun i j hi hj => ?_
    have g1 := gr_gap hi
    have g2 := gr_gap hj
    rw [hasC_rot (by omega) (fun i hi => dO_of_chk h hi) g1.1 g2.1, has_sq _ _ _ _ _ _ (by omega) hx, has_sq _ _ _ _ _ _ hx hy]
    congr 1
    rw [decide_eq_decide]
    have q1 := g1.2 0 (by omega)
    have q2 := g1.2 1 (by omega)
    have q3 := g2.2 0 (by omega)
    have q4 := g2.2 2 (by omega)
    change _ ≠ 2 * x1 at q1
    change _ ≠ 2 * x2 at q2
    change _ ≠ 2 * y1 at q3
    change _ ≠ 2 * y2 at q4
    omega
  unfold metS
  cases h1 : metF n X Y 4 (sqX x1 x2) (sqY y1 y2)
  · exact key.2 h1
  · cases h2 : metF n (fun k => -Y k) X 4 (sqX (-y2) (-y1)) (sqY x1 x2)
    · rw [key.1 h2] at h1; cases h1
    · rfl
theorem alF_rot {px py x y d : Int} (hd : 0 ≤ d ∧ d < 4) : alF (-py) px (-y) x ((d + 1) % 4) = alF px py x y d := by
  obtain rfl | rfl | rfl | rfl : d = 0 ∨ d = 1 ∨ d = 2 ∨ d = 3 := by omega
  · rw [al0]; change alF _ _ _ _ 1 = _; rw [al1]
  · rw [al1]; change alF _ _ _ _ 2 = _; rw [al2]; omega
  · rw [al2]; change alF _ _ _ _ 3 = _; rw [al3]
  · rw [al3]; change alF _ _ _ _ 0 = _; rw [al0]; omega
theorem depP_rot {px py d : Int} (h : chk n X Y = 0) (hd : 0 ≤ d ∧ d < 4) : depP n (fun k => -Y k) X (-py) px ((d + 1) % 4) = depP n X Y px py d := by
  have n1 := chk_n h
  have ea : ∀ i, aS n (fun k => -Y k) X (-py) px ((d + 1) % 4) i = aS n X Y px py d i := fun i => alF_rot hd
  have ee : ∀ i, eS n (fun k => -Y k) X (-py) px ((d + 1) % 4) i = eS n X Y px py d i := fun i => alF_rot (d := (d + 1) % 4) (by omega)
  have ef : fP n (fun k => -Y k) X (-py) px ((d + 1) % 4) = fP n X Y px py d := by
    funext i
    unfold fP
    simp only [ea, ee]
  unfold depP
  rw [whF_rot (by omega) (fun i hi => dO_of_chk h hi), ef]
end
section
variable {b : Bld}
theorem chkB_of (h : nameF b.name = true) (h1 : shpB b = false) (h2 : ∀ j, j < b.nS → stE b j = 0) (h3 : rofB b = false) (h4 : ∀ j, j < b.nO → opE b j = 0) (h5 : ∀ j, j < b.nB → bxE b j = 0) : chkB b = 0 := by
  rw [chk_bx0 h h1 h2 h3 h4, firstE_none h5]
theorem blkF_rot (hs : outsOk b) {x1 y1 z1 x2 y2 z2 : Int} (hx : x1 < x2) (hy : y1 < y2) : blkF (tB b) (-y2) x1 z1 (-y1) x2 z2 = blkF b x1 y1 z1 x2 y2 z2 := by
  unfold blkF
  congr 1
  rw [decide_eq_decide]
  have e : ∀ i, i < b.nS → blkAt (tB b) (-y2) x1 z1 (-y1) x2 z2 i = blkAt b x1 y1 z1 x2 y2 z2 i := fun i hi => by
    unfold blkAt
    have := metS_rot (hs i hi) hx hy
    change (_ && metS (b.N i) (fun k => -b.Y i k) (b.X i) (-y2) (-y1) x1 x2) = _
    rw [this]
    rfl
  exact ⟨fun h i hi => by rw [← e i hi]; exact h i hi, fun h i hi => by rw [e i hi]; exact h i hi⟩
theorem ckB_rot {a b' c d e f : Int} (h : ckB a b' c d e f = 0) : ckB (-e) a c (-b') d f = 0 := by
  have h2 := ckB_zero h
  unfold ckB
  rw [if_neg, if_neg]
  · omega
  · unfold inF
    simp only [decide_eq_true_eq]
    omega
theorem chkB_rot (h : chkB b = 0) : chkB (tB b) = 0 := by
  obtain ⟨c1, c2, c3, c4, c5, c6⟩ := chkB_zero h
  obtain ⟨f1, f2, f3⟩ := floors_ok c2 c3 c4
  refine chkB_of c1 c2 (fun j hj => ?_) c4 (fun j hj => ?_) (fun j hj => ?_)
  · have h1 := c3 j hj
    have e1 := f1 j hj
    change j < b.nS at hj
    unfold stE at h1 ⊢
    change (if chk (b.N j) (fun k => -b.Y j k) (b.X j) ≠ 0 then chk (b.N j) (fun k => -b.Y j k) (b.X j) else if ordB b j = true then 10 else if 0 < j ∧ covF (b.N (j - 1)) (fun k => -b.Y (j - 1) k) (b.X (j - 1)) (b.N j) (fun k => -b.Y j k) (b.X j) = false then 12 else 0) = 0
    rw [chk_rot, covF_rot (f1 (j - 1) (by omega)) e1]
    exact h1
  · have h1 := c5 j hj
    unfold opE at h1 ⊢
    have e : ∀ i, rngB (tB b) i = rngB b i := fun i => by
      unfold rngB
      change decide (b.O i 2 < 0 ∨ b.O i 2 ≥ b.O i 3 ∨ b.O i 3 > lenW (b.N (b.O i 0).toNat) (fun k => -b.Y (b.O i 0).toNat k) (b.X (b.O i 0).toNat) ((b.O i 1).toNat : Int) ∨ b.O i 4 < 0 ∨ b.O i 4 ≥ b.O i 5 ∨ b.O i 5 > topF b (b.O i 0).toNat - b.fl (b.O i 0).toNat) = _
      rw [lenW_rot]
    rw [e]
    exact h1
  · have h1 := c6 j hj
    unfold bxE at h1
    split at h1
    · rename_i h2; exact absurd h1 h2
    · rename_i h2
      have h2 := Decidable.not_not.1 h2
      split at h1
      · cases h1
      · rename_i h3
        have hc := ckB_zero h2
        have e1 : ckI (tB b) j = 0 := ckB_rot h2
        have e2 : blI (tB b) j = blI b j := blkF_rot (b := b) f1 (x1 := b.B j 0) (y1 := b.B j 1) (z1 := b.B j 2) (x2 := b.B j 3) (y2 := b.B j 4) (z2 := b.B j 5) (by omega) (by omega)
        exact bxE_3 e1 (by rw [e2]; simpa using h3)
theorem volF_rot : ∀ k, volF (tB b) k = volF b k
  | 0 => rfl
  | k + 1 => by
    rw [volF, volF, volF_rot k]
    have : twS ((tB b).N k) ((tB b).X k) ((tB b).Y k) ((tB b).N k) = twS (b.N k) (b.X k) (b.Y k) (b.N k) := twS_rot _
    rw [this]
    rfl
theorem volR_rot (h : chkB b = 0) : volR (tB b) = volR b := by
  rw [volR, volR, if_neg (by rw [chkB_rot h]; simp), if_neg (by rw [h]; simp)]
  exact volF_rot _
theorem dep_rot (h : chkB b = 0) (w a z : Int) : depE (tB b) w a z = depE b w a z ∧ depV (tB b) w a z = depV b w a z := by
  have ef : faE (tB b) w = faE b w := by
    unfold faE
    rw [chkB_rot h, h]
    rfl
  have el : wLen (tB b) w = wLen b w := lenW_rot _
  have ee : depE (tB b) w a z = depE b w a z := by
    unfold depE
    rw [ef, el]
    rfl
  refine ⟨ee, ?_⟩
  unfold depV
  rw [ee]
  split
  · rfl
  · rename_i h2
    have h2 := Decidable.not_not.1 h2
    have hf : faE b w = 0 := by
      unfold depE at h2
      split at h2
      · rename_i h3; exact absurd h2 h3
      · rename_i h3; exact Decidable.not_not.1 h3
    obtain ⟨_, hw0, hw1⟩ := fa_zero hf
    obtain ⟨c1, c2, c3, c4, c5, c6⟩ := chkB_zero h
    obtain ⟨f1, f2, f3⟩ := floors_ok c2 c3 c4
    have hs := shp_no c2
    have hch := f1 _ (stF_lt (b := b) (z := z) (n := b.nS) (by omega))
    have ed : wD (tB b) w = (wD b w + 1) % 4 := by
      have h0 := dO_of_chk (fl0_ok h).2 (i := w.toNat) (by omega)
      rw [show ((w.toNat : Nat) : Int) = w by omega] at h0
      exact dD_rot h0
    have hd := wD_range (b := b) w
    have est : ∀ d : Int, 0 ≤ d ∧ d < 4 → stX ((d + 1) % 4) = -stY d ∧ stY ((d + 1) % 4) = stX d := fun d hd => by
      obtain rfl | rfl | rfl | rfl : d = 0 ∨ d = 1 ∨ d = 2 ∨ d = 3 := by omega
      all_goals decide
    have ex : fX (tB b) w a = -fY b w a := by
      unfold fX fY
      rw [ed, (est _ hd).1]
      change -b.Y 0 w.toNat + _ = _
      rw [Int.mul_neg]; omega
    have ey : fY (tB b) w a = fX b w a := by
      unfold fX fY
      rw [ed, (est _ hd).2]
      rfl
    have es : ∀ k, stF (tB b) z k = stF b z k := fun k => by
      induction k with
      | zero => rfl
      | succ k ih => rw [stF, stF, ih]; rfl
    unfold depO
    rw [ed, ex, ey]
    change depP (b.N (stF (tB b) z b.nS)) (fun k => -b.Y (stF (tB b) z b.nS) k) (b.X (stF (tB b) z b.nS)) _ _ _ = _
    rw [es]
    exact depP_rot hch hd
end
end Go.Abs
