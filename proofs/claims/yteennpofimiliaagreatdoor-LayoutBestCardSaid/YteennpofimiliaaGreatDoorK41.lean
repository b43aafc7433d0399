/- Contracts. Contracts. Contracts. -/
import Derived.Test.YteennpofimiliaaGreatDoorK9
import Derived.Test.YteennpofimiliaaGreatDoorL7
section
set_option linter.unusedVariables false
set_option linter.unusedSimpArgs false
set_option maxRecDepth 100000
namespace Go.Abs
open Go
def stX (d : Int) : Int := if d = 0 then 1 else if d = 2 then -1 else 0
def stY (d : Int) : Int := if d = 1 then 1 else if d = 3 then -1 else 0
theorem gX {d : Int} (h : 0 ≤ d ∧ d < 4) : [(1:Int), 0, -1, 0].getD d.toNat 0 = stX d := by
  obtain rfl | rfl | rfl | rfl : d = 0 ∨ d = 1 ∨ d = 2 ∨ d = 3 := by omega
  all_goals rfl
theorem gY {d : Int} (h : 0 ≤ d ∧ d < 4) : [(0:Int), 1, 0, -1].getD d.toNat 0 = stY d := by
  obtain rfl | rfl | rfl | rfl : d = 0 ∨ d = 1 ∨ d = 2 ∨ d = 3 := by omega
  all_goals rfl
theorem st_val {d : Int} (h : 0 ≤ d ∧ d < 4) : (stX d = 1 ∧ stY d = 0) ∨ (stX d = 0 ∧ stY d = 1) ∨ (stX d = -1 ∧ stY d = 0) ∨ (stX d = 0 ∧ stY d = -1) := by
  obtain rfl | rfl | rfl | rfl : d = 0 ∨ d = 1 ∨ d = 2 ∨ d = 3 := by omega
  all_goals decide
def m3 (x : Int) : Prop := -3000000 ≤ x ∧ x ≤ 3000000
def rMo : Orc := .res fun l => dP (fI 0 (arg l 0) + aI l 2 * fI 0 (arg l 1)) (fI 1 (arg l 0) + aI l 2 * fI 1 (arg l 1))
def rSt : Orc := .res fun l => .tup [dI (stX (aI l 0)), dI (stY (aI l 0))]
noncomputable def A32_moved_c (x y a b n : Int) : Ann := { orc := [], loops := [], cuts := [] }
theorem moved_c (x y a b n : Int) (h : m3 n) (h0 : m3 x) (h1 : m3 y) (h2 : -1 ≤ a ∧ a ≤ 1) (h3 : -1 ≤ b ∧ b ≤ 1) : FnC prog 124 [dP x y, dP a b, dI n] (dP (x + n * a) (y + n * b)) := by
  refine FnC_owed hmix (A32_moved_c x y a b n) (V := .need [i64In (n * a), i64In (x + n * a), i64In (n * b), i64In (y + n * b)] (.done [x + n * a = x + n * a, y + n * b = y + n * b])) (by kernel_rfl) ?_
  simp only [VT.holds, AllT, Sq]
  unfold m3 at *
  obtain rfl | rfl | rfl : a = -1 ∨ a = 0 ∨ a = 1 := by omega
  all_goals
    obtain rfl | rfl | rfl : b = -1 ∨ b = 0 ∨ b = 1 := by omega
    all_goals
      unfold i64In
      omega
noncomputable def A46_step_c (d : Int) : Ann := { orc := [], loops := [], cuts := [] }
theorem step_c (d : Int) (h : 0 ≤ d ∧ d < 4) : FnC prog 103 [dI d] (.tup [dI (stX d), dI (stY d)]) := by
  refine FnC_owed hmix (A46_step_c d) (V := .ite (d == (0:Int)) (.done [(1:Int) = stX d, (0:Int) = stY d]) (.ite (d == (1:Int)) (.done [(0:Int) = stX d, (1:Int) = stY d]) (.ite (d == (2:Int)) (.done [(-1:Int) = stX d, (0:Int) = stY d]) (.done [(0:Int) = stX d, (-1:Int) = stY d])))) (by kernel_rfl) ?_
  simp only [VT.holds, AllT, Sq]
  refine ⟨fun h1 => by subst h1; exact ⟨rfl, rfl⟩, fun h1 => ⟨fun h2 => by subst h2; exact ⟨rfl, rfl⟩, fun h2 => ⟨fun h3 => by subst h3; exact ⟨rfl, rfl⟩, fun h3 => ?_⟩⟩⟩
  obtain rfl : d = 3 := by omega
  exact ⟨rfl, rfl⟩
end Go.Abs
end
section
section
set_option linter.unusedVariables false
set_option linter.unusedSimpArgs false
set_option maxRecDepth 100000
namespace Go.Abs
open Go
def corI (n : Nat) (X Y : Nat → Int) (i : Int) : Int := if dD n X Y i = (dD n X Y (i - 1) + 1) % 4 then 1 else -1
def ofL (n : Nat) (X Y : Nat → Int) (d i : Int) : Int := lenW n X Y i + d * corI n X Y i + d * corI n X Y (i + 1)
def ofX (n : Nat) (X Y : Nat → Int) (d : Int) (i : Nat) : Int := X i + d * stX ((dD n X Y i + 3) % 4) + d * stX ((dD n X Y ((i : Int) - 1) + 3) % 4)
def ofY (n : Nat) (X Y : Nat → Int) (d : Int) (i : Nat) : Int := Y i + d * stY ((dD n X Y i + 3) % 4) + d * stY ((dD n X Y ((i : Int) - 1) + 3) % 4)
def ofS (n : Nat) (X Y : Nat → Int) (d : Int) (k : Nat) : Bool := decide (∀ i, i < k → 0 < ofL n X Y d (i : Nat))
def ofE (n : Nat) (X Y : Nat → Int) (d : Int) : Int := if ofS n X Y d n = false then 12 else if chk n (ofX n X Y d) (ofY n X Y d) = 0 then 0 else if chk n (ofX n X Y d) (ofY n X Y d) = 2 then 2 else 12
section
variable {n : Nat} {X Y : Nat → Int} {d : Int}
theorem corI_val (i : Int) : corI n X Y i = 1 ∨ corI n X Y i = -1 := by
  unfold corI
  split
  · exact .inl rfl
  · exact .inr rfl
theorem dD_mod (hn : 0 < n) {a b : Int} (h : (a - b) % n = 0) : dD n X Y a = dD n X Y b := by
  have e : ∀ c : Int, ix n (a + c) = ix n (b + c) := fun c => by
    have h1 : (a + c) % (n : Int) = (b + c) % n := Int.emod_eq_emod_iff_emod_sub_eq_zero.2 (by rw [show a + c - (b + c) = a - b by omega]; exact h)
    unfold ix
    rw [Int.add_emod_right, Int.add_emod_right, h1]
  have e0 := e 0
  rw [Int.add_zero, Int.add_zero] at e0
  unfold dD
  rw [e0, e 1]
theorem corI_mod (hn : 0 < n) {a b : Int} (h : (a - b) % n = 0) : corI n X Y a = corI n X Y b := by
  unfold corI
  rw [dD_mod hn h, dD_mod hn (a := a - 1) (b := b - 1) (by rw [show a - 1 - (b - 1) = a - b by omega]; exact h)]
theorem emod_self_sub (a : Int) (n : Nat) : (a % (n : Int) - a) % n = 0 := by
  rw [Int.sub_emod, Int.emod_emod, Int.sub_self, Int.zero_emod]
theorem cor_next (hn : 0 < n) (a : Int) : cor n X Y (a % (n : Int)).toNat = corI n X Y a := by
  have h := Int.emod_nonneg a (show (n : Int) ≠ 0 by omega)
  have e : cor n X Y (a % (n : Int)).toNat = corI n X Y ((a % (n : Int)).toNat : Nat) := rfl
  rw [e, Int.toNat_of_nonneg h]
  exact corI_mod hn (emod_self_sub a n)
theorem dD_prev (hn : 0 < n) (a : Int) : dD n X Y ((a % (n : Int)).toNat : Nat) = dD n X Y a := by
  have h := Int.emod_nonneg a (show (n : Int) ≠ 0 by omega)
  rw [Int.toNat_of_nonneg h]
  exact dD_mod hn (emod_self_sub a n)
theorem of_zero (h : ofE n X Y d = 0) : (∀ i, i < n → 0 < ofL n X Y d (i : Nat)) ∧ chk n (ofX n X Y d) (ofY n X Y d) = 0 := by
  unfold ofE at h
  split at h
  · cases h
  · rename_i h1
    split at h
    · rename_i h2
      refine ⟨?_, h2⟩
      unfold ofS at h1
      simpa using h1
    · split at h <;> cases h
theorem chk_two (hn : 4 ≤ n ∧ n ≤ 40) : chk n X Y = 2 ↔ allIn n X Y = false := by
  unfold chk
  rw [if_neg (fun h => h hn)]
  refine ⟨fun h => ?_, fun h => by rw [if_pos h]⟩
  split at h
  · assumption
  · split at h
    · cases h
    · split at h
      · cases h
      · split at h <;> cases h
theorem side_to {i : Int} (h : dO n X Y i = true) : X (ix n (i + 1)) = X (ix n i) + lenW n X Y i * stX (dD n X Y i) ∧ Y (ix n (i + 1)) = Y (ix n i) + lenW n X Y i * stY (dD n X Y i) ∧ 0 < lenW n X Y i := by
  unfold dO dirOk at h
  rw [decide_eq_true_eq] at h
  unfold lenW dD dirD
  generalize X (ix n i) = a at *
  generalize Y (ix n i) = b at *
  generalize X (ix n (i + 1)) = c at *
  generalize Y (ix n (i + 1)) = e at *
  split
  · simp only [show stX 0 = 1 from rfl, show stY 0 = 0 from rfl]; omega
  · split
    · simp only [show stX 1 = 0 from rfl, show stY 1 = 1 from rfl]; omega
    · split
      · simp only [show stX 2 = -1 from rfl, show stY 2 = 0 from rfl]; omega
      · split
        · simp only [show stX 3 = 0 from rfl, show stY 3 = -1 from rfl]; omega
        · omega
end
def reaF (g w c : Int) (has : Bool) : Int := if c > 0 then (if has = true then g + w else g) else (if has = true then -g else -g - w)
def befF (n : Nat) (X Y : Nat → Int) (g w : Int) (i : Int) (a : Int) : Int := if corI n X Y i > 0 then -g - a * w else g + (1 - a) * w
def behF (n : Nat) (X Y : Nat → Int) (g w : Int) (i : Int) (b : Int) : Int := if corI n X Y (i + 1) > 0 then lenW n X Y i + g + (1 - b) * w else lenW n X Y i - g - b * w
def ruL (n : Nat) (X Y : Nat → Int) (g w : Int) (i : Int) (a b : Int) : Int := behF n X Y g w i b - befF n X Y g w i a
def atX (n : Nat) (X Y : Nat → Int) (i : Int) (al out : Int) : Int := X (ix n i) + al * stX (dD n X Y i) + out * stY (dD n X Y i)
def atY (n : Nat) (X Y : Nat → Int) (i : Int) (al out : Int) : Int := Y (ix n i) + al * stY (dD n X Y i) - out * stX (dD n X Y i)
def ruX1 (n : Nat) (X Y : Nat → Int) (g w : Int) (i : Int) (a b : Int) : Int := min (atX n X Y i (befF n X Y g w i a) g) (atX n X Y i (behF n X Y g w i b) (g + w))
def ruY1 (n : Nat) (X Y : Nat → Int) (g w : Int) (i : Int) (a b : Int) : Int := min (atY n X Y i (befF n X Y g w i a) g) (atY n X Y i (behF n X Y g w i b) (g + w))
def ruX2 (n : Nat) (X Y : Nat → Int) (g w : Int) (i : Int) (a b : Int) : Int := max (atX n X Y i (befF n X Y g w i a) g) (atX n X Y i (behF n X Y g w i b) (g + w))
def ruY2 (n : Nat) (X Y : Nat → Int) (g w : Int) (i : Int) (a b : Int) : Int := max (atY n X Y i (befF n X Y g w i a) g) (atY n X Y i (behF n X Y g w i b) (g + w))
def topH (roof L : Int) : Int := (roof / L + 1) * L
section
variable {n : Nat} {X Y : Nat → Int} {g w : Int}
theorem turn_cases (h : chk n X Y = 0) {i : Nat} (hi : i < n) : (corI n X Y i = 1 ∧ dD n X Y i = (dD n X Y ((i : Int) - 1) + 1) % 4) ∨ (corI n X Y i = -1 ∧ dD n X Y ((i : Int) - 1) = (dD n X Y i + 1) % 4) := by
  have hf := (chk_zero h).2.2.1 i hi
  unfold formOk at hf
  simp only [Bool.and_eq_true, decide_eq_true_eq] at hf
  have h1 := dD_range n X Y i
  have h2 := dD_range n X Y ((i : Int) - 1)
  unfold corI
  split
  · rename_i e; exact .inl ⟨rfl, e⟩
  · exact .inr ⟨rfl, by omega⟩
theorem run_pos (h1 : ∀ i, i < n → 0 < ofL n X Y g (i : Nat)) (h2 : ∀ i, i < n → 0 < ofL n X Y (g + w) (i : Nat)) (hg : 0 ≤ g) (hw : 0 < w) {i : Nat} (hi : i < n) : 0 < ruL n X Y g w i 1 0 := by
  have a := h1 i hi
  have b := h2 i hi
  unfold ofL at a b
  unfold ruL behF befF
  rcases corI_val (n := n) (X := X) (Y := Y) (i : Int) with e1 | e1 <;> rcases corI_val (n := n) (X := X) (Y := Y) ((i : Int) + 1) with e2 | e2 <;>
  · rw [e1, e2] at a b
    rw [e1, e2]
    simp only [show (1:Int) > 0 from by decide, show ¬ (-1:Int) > 0 from by decide, if_true, if_false]
    omega
end
def ofP (n : Nat) (X Y : Nat → Int) (d : Int) (i j : Nat) : Int := if j = 0 then lenW n X Y i else if j = 1 then lenW n X Y i + d * corI n X Y i else ofL n X Y d i
def rRi : Orc := .res fun l => dI ((aI l 0 + 3) % 4)
def rLnW : Orc := .res fun l => dI (lenW (aN l) (aX l) (aY l) (aI l 1))
def rWi : Orc := .res fun l => dB (decide (aI l 1 ≤ aI l 0 ∧ aI l 0 ≤ aI l 2))
theorem ofS_0 {n : Nat} {X Y : Nat → Int} {d : Int} : ofS n X Y d 0 = true := decide_eq_true fun i hi => absurd hi (Nat.not_lt_zero i)
theorem ofS_1 {n : Nat} {X Y : Nat → Int} {d : Int} {i : Nat} (h : ofS n X Y d i = true) (h1 : ¬ ofL n X Y d i ≤ 0) : ofS n X Y d (i + 1) = true := by
  unfold ofS at h ⊢
  rw [decide_eq_true_eq] at h ⊢
  intro j hj
  by_cases e : j = i
  · rw [e]; omega
  · exact h j (by omega)
theorem ofE_s {n : Nat} {X Y : Nat → Int} {d : Int} {i : Nat} (hi : i < n) (h1 : ofL n X Y d i ≤ 0) : ofE n X Y d = 12 := by
  rw [ofE, if_pos]
  unfold ofS
  rw [decide_eq_false_iff_not]
  intro h
  have := h i hi
  omega
theorem ofE_0 {n : Nat} {X Y : Nat → Int} {d : Int} (h : ofS n X Y d n = true) (hc : chk n (ofX n X Y d) (ofY n X Y d) = 0) : ofE n X Y d = 0 := by
  rw [ofE, if_neg (by rw [h]; simp), if_pos hc]
theorem ofE_2 {n : Nat} {X Y : Nat → Int} {d : Int} (h : ofS n X Y d n = true) (hc : chk n (ofX n X Y d) (ofY n X Y d) = 2) : ofE n X Y d = 2 := by
  rw [ofE, if_neg (by rw [h]; simp), if_neg (by rw [hc]; decide), if_pos hc]
theorem ofE_c {n : Nat} {X Y : Nat → Int} {d : Int} (h : ofS n X Y d n = true) (hc : ¬ chk n (ofX n X Y d) (ofY n X Y d) = 0) (hc2 : ¬ chk n (ofX n X Y d) (ofY n X Y d) = 2) : ofE n X Y d = 12 := by
  rw [ofE, if_neg (by rw [h]; simp), if_neg hc, if_neg hc2]
theorem lenW_bd {n : Nat} {X Y : Nat → Int} (hn : 0 < n) (hX : inB n X) (hY : inB n Y) (i : Int) : 0 ≤ lenW n X Y i ∧ lenW n X Y i ≤ 4000000 := by
  unfold lenW
  have a1 := hX _ (ix_lt (n := n) (i := i) hn)
  have a2 := hX _ (ix_lt (n := n) (i := i + 1) hn)
  have a3 := hY _ (ix_lt (n := n) (i := i) hn)
  have a4 := hY _ (ix_lt (n := n) (i := i + 1) hn)
  omega
theorem st_bd {d : Int} (x : Int) (hd : 0 ≤ d ∧ d ≤ 1000000) : -1000000 ≤ d * stX ((x + 3) % 4) ∧ d * stX ((x + 3) % 4) ≤ 1000000 ∧ -1000000 ≤ d * stY ((x + 3) % 4) ∧ d * stY ((x + 3) % 4) ≤ 1000000 ∧ -1 ≤ stX ((x + 3) % 4) ∧ stX ((x + 3) % 4) ≤ 1 ∧ -1 ≤ stY ((x + 3) % 4) ∧ stY ((x + 3) % 4) ≤ 1 := by
  obtain ⟨e1, e2⟩ | ⟨e1, e2⟩ | ⟨e1, e2⟩ | ⟨e1, e2⟩ := st_val (d := (x + 3) % 4) (by omega)
  all_goals
    rw [e1, e2]
    omega
abbrev ofC (n : Nat) (X Y : Nat → Int) (d : Int) : List (Nat → DV) := [fun k => dI (ofX n X Y d k), fun k => dI (ofY n X Y d k)]
noncomputable def A116_right_c (d : Int) : Ann := { orc := [(1, [(2, .pos)])], loops := [], cuts := [] }
theorem right_c (d : Int) (h : 0 ≤ d ∧ d < 4) : FnC prog 125 [dI d] (dI ((d + 3) % 4)) := by
  refine FnC_owed hmix (A116_right_c d) (V := .need [i64In (d + (3:Int)), (0:Int) ≤ d + (3:Int) ∧ (0:Int) < (4:Int)] (.done [(d + (3:Int)) % (4:Int) = (d + (3:Int)) % (4:Int)])) (by kernel_rfl) ?_
  simp only [VT.holds, AllT, Sq]
  unfold i64In
  omega
noncomputable def A77_offset_c (n : Nat) (X Y : Nat → Int) (d : Int) : Ann := { orc := [(1, [(1, rChk)]), (11, [(2, rLnW)]), (15, [(2, rOuter)]), (21, [(7, rWay), (8, rRi), (12, rMo), (16, rWay), (17, rRi), (21, rMo)]), (23, [(1, rChk)])], loops := [(0, { ι := Nat, keep := [0, 1, 7, 26], boxes := [], ts := fun _ i => [(27, dI (i : Int))], rw := fun _ i => [(8, 2, i, ofC n X Y d)], inv := fun _ i => i ≤ n ∧ ofS n X Y d i = true, mu := fun _ i => n - i, rd := fun _ σ => (iOf (σ.get 27)).toNat }), (2, { ι := Nat, keep := [0, 1, 7, 26, 27, 9, 36], boxes := [], ts := fun σ j => [(37, dI (j : Int)), (10, dI (ofP n X Y d (iOf (σ.get 9)).toNat j))], rw := fun σ _ => [(8, 2, (iOf (σ.get 27)).toNat, ofC n X Y d)], inv := fun _ j => j ≤ 2, mu := fun _ j => 2 - j, rd := fun _ σ => (iOf (σ.get 37)).toNat })], cuts := [] }
namespace w2u
noncomputable section
structure Z where
  n : Nat
  X : Nat → Int
  Y : Nat → Int
  d : Int
variable (z : Z) (i0 i1 : Nat) (p : Prop) (P : List Prop) (a b : Int) (g : Bool) (U : VT) (j11a : Nat → Int) (j14a : List Int)
abbrev x0 : Int := (i0:Int)
abbrev x1 := Int.toNat (x0 i0)
abbrev x2 := dD z.n z.X z.Y a
abbrev x3 := List.getD j14a (Int.toNat ((x2 z a + 3) % 4)) 0
abbrev x4 : List Prop := rf z.n :: (∀ i0 < z.n, rf (z.X i0)) :: (∀ i0 < z.n, rf (z.Y i0)) :: rf a :: P
abbrev x5 := Int.toNat (x0 i0 + 1)
abbrev x6 := Int.toNat ((i1:Int) + 1)
abbrev x7 : List Int := [(0:Int), (1:Int), (0:Int), -(1:Int)]
abbrev x8 : List Int := [(1:Int), (0:Int), -(1:Int), (0:Int)]
abbrev x9 := (j11a (x1 i0)) + z.d * x3 z (x0 i0) j14a
abbrev x10 := Int.toNat 0
abbrev x11 := DV.val (Value.agg (Array.mk [Value.int IntKind.i64 a, Value.int IntKind.i64 b]))
abbrev x12 : List Prop := p :: rf (0:Nat) :: P
abbrev x13 := ofP z.n z.X z.Y z.d (x1 i0) i1
abbrev x14 := ofX z.n z.X z.Y z.d i1
abbrev x15 := ofY z.n z.X z.Y z.d i1
abbrev x16 := x4 z (x4 z P (z.n:Int)) z.d
abbrev x17 := DV.lst z.n [fun i0 => dI (z.X i0), fun i0 => dI (z.Y i0)]
abbrev x18 := List.getD [x0 i0, x0 i0 + 1] (Int.toNat (i1:Int)) 0
abbrev x19 := VT.ite g (VT.done [a = ofE z.n z.X z.Y z.d]) U
abbrev x20 := decide (z.d < (0:Int))
abbrev x21 := (x2 z (x0 i0) + 3) % 4
abbrev x22 := (x2 z (x0 i0 - 1) + 3) % 4
abbrev x23 : List Prop := rf (x0 i0) :: rf (x0 i0) :: rf (x0 i0) :: rf (x0 i0 + 1) :: P
abbrev x24 := chk i0 (ofX z.n z.X z.Y z.d) (ofY z.n z.X z.Y z.d)
abbrev x25 := x11 (x9 z i0 z.X x8) (x9 z i0 z.Y x7)
abbrev x26 := x9 z i0 z.X x8 + z.d * x3 z (x0 i0 - 1) x8
abbrev x27 := x9 z i0 z.Y x7 + z.d * x3 z (x0 i0 - 1) x7
abbrev x28 := decide ((x2 z (x18 i0 i1)) = ((x2 z (x18 i0 i1 - 1) + 1) % 4))
abbrev x29 := if (decide (i1 < (x1 i0))) = true then a else b
abbrev x30 := VT.need [i64In a] (VT.need [i64In ((i1:Int) + 1)] (VT.done (((i1:Int) + 1 = (↑(x6 i1) : Int)) :: x12 (b = ofP z.n z.X z.Y z.d (x1 i0) (x6 i1)) (rf (x1 i0) :: x16 z (x23 i0 [rf (x1 i0), ∀ i1 < x1 i0, rf (x14 z i1), ∀ i1 < x1 i0, rf (x15 z i1), x6 i1 ≤ 2, 2 - x6 i1 < 2 - i1])))))
abbrev xt : VT := VT.need [FnC prog 121 [x17 z] (dI (chk z.n z.X z.Y))] (x19 z (chk z.n z.X z.Y) (chk z.n z.X z.Y != 0) (VT.need [ri ((!(x20 z)) = true), x20 z = false → (!(x20 z)) = true] (x19 z (2:Int) (if (x20 z) = true then true else (decide (z.d > (1000000:Int)))) (VT.loop Nat (fun i0 => i0 ≤ z.n ∧ ofS z.n z.X z.Y z.d i0 = true) x10 (x12 (0 = (x10:Int)) ((x10 = 0) :: x16 z [x10 = 0])) (fun i0 => VT.ite (decide ((x0 i0) < (z.n:Int))) (VT.need [FnC prog 122 [x17 z, dI (x0 i0)] (dI (lenW z.n z.X z.Y (x0 i0)))] (VT.need [i64In (x0 i0 + 1)] (VT.loop Nat (fun i0 => i0 ≤ 2) x10 ((0 = (x10:Int)) :: x12 (lenW z.n z.X z.Y (x0 i0) = ofP z.n z.X z.Y z.d (x1 i0) x10) ((i0 = x1 i0) :: x16 z (x23 i0 [i0 = x1 i0, ∀ i1 < x1 i0, rf (x14 z i1), ∀ i1 < x1 i0, rf (x15 z i1)]))) (fun i1 => VT.ite (decide ((i1:Int) < (2:Int))) (VT.need [0 ≤ (i1:Int) ∧ (i1:Int) < (↑(2:Nat) : Int)] (VT.need [FnC prog 123 [x17 z, dI (x18 i0 i1)] (dB (x28 z i0 i1))] (VT.ite (x28 z i0 i1) (x30 z i0 i1 (x13 z i0 i1 + z.d) (x13 z i0 i1 + z.d)) (x30 z i0 i1 (x13 z i0 i1 - z.d) (x13 z i0 i1 - z.d))))) (x19 z (12:Int) (decide ((x13 z i0 i1) ≤ (0:Int))) (VT.need [0 ≤ x0 i0 ∧ x0 i0 < (z.n:Int), FnC prog 126 [x17 z, dI (x0 i0)] (dI (x2 z (x0 i0))), FnC prog 125 [dI (x2 z (x0 i0))] (dI (x21 z i0)), 0 ≤ x21 z i0 ∧ x21 z i0 < (↑(4:Nat) : Int), FnC prog 124 [x11 (z.X (x1 i0)) (z.Y (x1 i0)), x11 (x3 z (x0 i0) x8) (x3 z (x0 i0) x7), dI z.d] (x25 z i0), i64In (x0 i0 - 1), FnC prog 126 [x17 z, dI (x0 i0 - 1)] (dI (x2 z (x0 i0 - 1))), FnC prog 125 [dI (x2 z (x0 i0 - 1))] (dI (x22 z i0)), 0 ≤ x22 z i0 ∧ x22 z i0 < (↑(4:Nat) : Int), FnC prog 124 [x25 z i0, x11 (x3 z (x0 i0 - 1) x8) (x3 z (x0 i0 - 1) x7), dI z.d] (x11 (x26 z i0) (x27 z i0)), x1 i0 ≤ x1 i0, (x1 i0 + 1) * ((nat_lit 15) + 1) ≤ 140737488355328, (1:Nat) ≤ (1:Nat)] (VT.need [i64In (x0 i0 + 1)] (VT.done (x12 (x0 i0 + 1 = (↑(x5 i0) : Int)) ((x1 i0 + 1 = x5 i0) :: x16 z [x1 i0 + 1 = x5 i0, ∀ i1 < x5 i0, x29 i0 i1 (x14 z i1) (x26 z i0) = x14 z i1, ∀ i1 < x5 i0, x29 i0 i1 (x15 z i1) (x27 z i0) = x15 z i1, x5 i0 ≤ z.n ∧ ofS z.n z.X z.Y z.d (x5 i0) = true, z.n - x5 i0 < z.n - i0])))))))))) (VT.need [i0 ≤ i0, FnC prog 127 [DV.lst i0 [fun i0 => dI (ofX z.n z.X z.Y z.d i0), fun i0 => dI (ofY z.n z.X z.Y z.d i0)]] (dI (x24 z i0))] (VT.ite (x24 z i0 == 0) (VT.done [i0 ≤ i0, 0 = ofE z.n z.X z.Y z.d]) (x19 z (2:Int) (x24 z i0 == 2) (VT.done [12 = ofE z.n z.X z.Y z.d])))))))))
end
end w2u
open w2u in
theorem offset_c (n : Nat) (X Y : Nat → Int) (d : Int) (h : chk n X Y = 0) (hd : 0 ≤ d ∧ d ≤ 1000000) : FnC prog 82 [pts n X Y, dI d] (.tup [.any, dI (ofE n X Y d)]) := by
  refine FnC_owed hmix (A77_offset_c n X Y d) (V := xt ⟨n, X, Y, d⟩) (by kernel_rfl) ?_
  simp only [xt, x0, x1, x2, x3, x4, x5, x6, x7, x8, x9, x10, x11, x12, x13, x14, x15, x16, x17, x18, x19, x20, x21, x22, x23, x24, x25, x26, x27, x28, x29, x30, Rf, VT.holds, AllT, Sq]
  have hn := chk_n h
  obtain ⟨hX, hY⟩ := chk_inB h
  have m4 : ∀ x : Int, 0 ≤ (x + 3) % 4 ∧ (x + 3) % 4 < 4 := fun x => by omega
  simp only [gX (m4 _), gY (m4 _)]
  refine ⟨checkOutline_c n X Y (by omega), fun h1 => absurd h h1, fun _ => ⟨fun h1 => by omega, fun _ => ⟨rfl, ⟨Nat.zero_le _, ofS_0⟩, fun i ⟨hi, hS⟩ => ⟨fun hlt => ?_, fun hge => ?_⟩⟩⟩⟩
  · have hl := lenW_bd (n := n) (by omega) hX hY (i : Int)
    refine ⟨length_c n X Y i (by omega) (by omega) (by omega) (by omega) hX hY, by unfold i64In; omega, ⟨rfl, rfl⟩, by omega, fun j hj => ⟨fun hj2 => ?_, fun hj2 => ?_⟩⟩
    · obtain rfl | rfl : j = 0 ∨ j = 1 := by omega
      · have e : [(i : Int), (i : Int) + 1].getD 0 0 = i := rfl
        have e0 : ofP n X Y d i 0 = lenW n X Y i := rfl
        have e1 : ofP n X Y d i (0 + 1) = lenW n X Y i + d * corI n X Y i := rfl
        rw [e0, e1]
        refine ⟨by omega, outer_c n X Y i (by omega) (by omega) (by omega) (by omega), fun hc => ?_, fun hc => ?_⟩
        · rw [show corI n X Y i = 1 from if_pos hc]
          unfold i64In; omega
        · rw [show corI n X Y i = -1 from if_neg hc]
          unfold i64In; omega
      · have e : [(i : Int), (i : Int) + 1].getD 1 0 = (i : Int) + 1 := rfl
        have e0 : ofP n X Y d i 1 = lenW n X Y i + d * corI n X Y i := rfl
        have e1 : ofP n X Y d i (1 + 1) = lenW n X Y i + d * corI n X Y i + d * corI n X Y ((i : Int) + 1) := rfl
        rw [e0, e1]
        have hb : -1000000 ≤ d * corI n X Y i ∧ d * corI n X Y i ≤ 1000000 := by
          rcases corI_val (n := n) (X := X) (Y := Y) (i : Int) with e1 | e1 <;> rw [e1] <;> omega
        refine ⟨by omega, outer_c n X Y (i + 1) (by omega) (by omega) (by omega) (by omega), fun hc => ?_, fun hc => ?_⟩
        · rw [show corI n X Y ((i : Int) + 1) = 1 from if_pos hc]
          unfold i64In; omega
        · rw [show corI n X Y ((i : Int) + 1) = -1 from if_neg hc]
          unfold i64In; omega
    · obtain rfl : j = 2 := by omega
      have e2 : ofP n X Y d i 2 = ofL n X Y d i := rfl
      rw [e2]
      refine ⟨fun h1 => (ofE_s (by omega) h1).symm, fun h1 => ?_⟩
      have b1 := st_bd (dD n X Y i) hd
      have b2 := st_bd (dD n X Y ((i : Int) - 1)) hd
      have r1 := dD_range n X Y i
      have r2 := dD_range n X Y ((i : Int) - 1)
      have x1 := hX i (by omega)
      have y1 := hY i (by omega)
      refine ⟨⟨by omega, way_c n X Y i (by omega) (by omega) (by omega) (by omega), right_c _ (by omega), by omega, moved_c _ _ _ _ _ (by unfold m3; omega) (by unfold m3; omega) (by unfold m3; omega) (by omega) (by omega), by unfold i64In; omega, way_c n X Y (i - 1) (by omega) (by omega) (by omega) (by omega), right_c _ (by omega), by omega, moved_c _ _ _ _ _ (by unfold m3; omega) (by unfold m3; omega) (by unfold m3; omega) (by omega) (by omega), Nat.le_refl _, by omega, Nat.le_refl _⟩, by unfold i64In; omega, rfl, last_if (f := ofX n X Y d) rfl, last_if (f := ofY n X Y d) rfl, ⟨by omega, ofS_1 hS h1⟩, by omega⟩
  · obtain rfl : i = n := by omega
    exact ⟨⟨Nat.le_refl _, check_c _ _ _ (by omega)⟩, fun h1 => ⟨Nat.le_refl _, (ofE_0 hS h1).symm⟩, fun h1 => ⟨fun h2 => (ofE_2 hS h2).symm, fun h2 => (ofE_c hS h1 h2).symm⟩⟩
noncomputable def A83_offsetR_c (n : Nat) (X Y : Nat → Int) (d : Int) : Ann := { orc := [(1, [(1, rWi)]), (3, [(1, rWallsR), (3, rCorR)]), (8, [(17, .pos)]), (14, [(6, .pos), (11, .pos), (12, rSt)]), (15, [(6, .pos), (7, rSt)]), (20, [(5, rIn), (13, rIn)]), (22, [(1, rChk)])], loops := [(0, { ι := Nat, keep := [0, 1, 6, 7, 8], boxes := [], ts := fun _ i => [(9, dI (i : Int))], inv := fun _ i => i ≤ n ∧ ofS n X Y d i = true, mu := fun _ i => n - i, rd := fun _ σ => (iOf (σ.get 9)).toNat }), (2, { ι := Nat, keep := [0, 1, 6, 7, 8], boxes := [], ts := fun _ i => [(11, dI (i : Int))], rw := fun _ i => [(10, 2, i, ofC n X Y d)], inv := fun _ i => i ≤ n, mu := fun _ i => n - i, rd := fun _ σ => (iOf (σ.get 11)).toNat }), (4, { ι := Nat, keep := [0, 1, 6, 7, 8], boxes := [], ts := fun _ i => [(16, dI (i : Int))], rw := fun _ _ => [(10, 2, n, ofC n X Y d)], inv := fun _ i => i ≤ n ∧ ∀ j, j < i → inF (ofX n X Y d j) = true ∧ inF (ofY n X Y d j) = true, mu := fun _ i => n - i, rd := fun _ σ => (iOf (σ.get 16)).toNat })], cuts := [] }
namespace w2v
noncomputable section
structure Z where
  n : Nat
  X : Nat → Int
  Y : Nat → Int
  d : Int
variable (z : Z) (i0 i1 : Nat) (p : Prop) (P : List Prop) (a b c : Int) (k : Nat) (g : Bool) (U V : VT) (j10a : List (Nat → DV))
abbrev x0 := Int.toNat (i0:Int)
abbrev x1 := (i0:Int) + 1
abbrev x2 := dD z.n z.X z.Y (k:Int) + 3
abbrev x3 := ofX z.n z.X z.Y z.d k
abbrev x4 := addN 0 (x0 i0)
abbrev x5 := (i0:Int) + (z.n:Int) - 1
abbrev x6 := Int.toNat (x1 i0)
abbrev x7 := cor z.n z.X z.Y k
abbrev x8 := Int.toNat (x5 z i0 % (z.n:Int))
abbrev x9 := !(inF (x3 z (x4 i0)))
abbrev x10 : List Prop := p :: rf z.n :: (∀ i0 < z.n, rf (z.X i0)) :: (∀ i0 < z.n, rf (z.Y i0)) :: P
abbrev x11 := 0 ≤ a ∧ b < (z.n:Int)
abbrev x12 := ofY z.n z.X z.Y z.d k
abbrev x13 := Int.toNat 0
abbrev x14 := x11 z (i0:Int) (i0:Int)
abbrev x15 := rf (z.n:Int)
abbrev x16 := ri ((!(x9 z i0)) = true)
abbrev x17 := x10 z p (x10 z (rf z.d) ((∀ i0 < z.n, rf (z.X (ix z.n (x1 i0)))) :: (∀ i0 < z.n, rf (z.Y (ix z.n (x1 i0)))) :: (∀ i0 < z.n, rf (lenW z.n z.X z.Y (i0:Int))) :: (∀ i0 < z.n, rf (dD z.n z.X z.Y (i0:Int))) :: rf z.n :: (∀ i0 < z.n, rf (x7 z i0)) :: P))
abbrev x18 := VT.ite g (VT.done [a = ofE z.n z.X z.Y z.d]) U
abbrev x19 := stX (x2 z (x8 z i0) % 4) + stX (x2 z (x0 i0) % 4)
abbrev x20 := stY (x2 z (x8 z i0) % 4) + stY (x2 z (x0 i0) % 4)
abbrev x21 := lenW z.n z.X z.Y (↑(x0 i0) : Int) + z.d * x7 z (x0 i0)
abbrev x22 := VT.need [i64In (x1 i0)] (VT.done P)
abbrev x23 := VT.ite (decide ((i0:Int) < (z.n:Int))) U V
abbrev x24 := z.n - x6 i0 < z.n - i0
abbrev x25 := 0 ≤ a ∧ (0:Int) < (4:Int)
abbrev x26 := x21 z i0 + z.d * x7 z (Int.toNat (x1 i0 % (z.n:Int)))
abbrev x27 := FnC prog 103 [dI a] (DV.tup [dI b, dI c])
abbrev x28 := i1 < x6 i0 → (if (decide (i1 < i0)) = true then a else b) = c
abbrev x29 := x22 i0 ((x1 i0 = (↑(x6 i0) : Int)) :: rf (0:Nat) :: x17 z p P)
abbrev x30 := decide ((0 ≤ z.d) ∧ (z.d ≤ 1000000))
abbrev x31 := inF (x3 z i1) = true ∧ inF (x12 z i1) = true
abbrev x32 := FnC prog k [DV.lst z.n [fun i0 => dI (z.X i0), fun i0 => dI (z.Y i0)]] (DV.lst z.n j10a)
abbrev x33 := chk z.n (ofX z.n z.X z.Y z.d) (ofY z.n z.X z.Y z.d)
abbrev xt : VT := VT.need [FnC prog 34 [dI z.d, dI 0, dI 1000000] (dB (x30 z))] (x18 z (2:Int) (!(x30 z)) (VT.need [x32 z (69:Nat) [fun i0 => dI (z.X i0), fun i0 => dI (z.Y i0), fun i0 => dI (z.X (ix z.n (x1 i0))), fun i0 => dI (z.Y (ix z.n (x1 i0))), fun i0 => dI (lenW z.n z.X z.Y (i0:Int)), fun i0 => dI (dD z.n z.X z.Y (i0:Int))], x32 z (102:Nat) [fun i0 => dI (x7 z i0)]] (VT.loop Nat (fun i0 => i0 ≤ z.n ∧ ofS z.n z.X z.Y z.d i0 = true) x13 (x17 z (0 = (x13:Int)) [x15 z]) (fun i0 => x23 z i0 (VT.need [x14 z i0, x14 z i0, i64In (z.d * x7 z (x0 i0)), i64In (x21 z i0), i64In (x1 i0), x11 z (x1 i0) (0:Int), x11 z (x1 i0 % (z.n:Int)) (x1 i0 % (z.n:Int)), i64In (z.d * x7 z (Int.toNat (x1 i0 % (z.n:Int)))), i64In (x26 z i0)] (x18 z (12:Int) (decide ((x26 z i0) ≤ (0:Int))) (x22 i0 (x17 z (x1 i0 = (↑(x6 i0) : Int)) [x15 z, x6 i0 ≤ z.n ∧ ofS z.n z.X z.Y z.d (x6 i0) = true, x24 z i0])))) (VT.loop Nat (fun i0 => i0 ≤ z.n) x13 ((0 = (x13:Int)) :: rf (0:Nat) :: x17 z (x13 = 0) [x15 z, x13 = 0]) (fun i0 => x23 z i0 (VT.need [i64In ((i0:Int) + (z.n:Int)), i64In (x5 z i0), x11 z (x5 z i0) (0:Int), x11 z (x5 z i0 % (z.n:Int)) (x5 z i0 % (z.n:Int)), i64In (x2 z (x8 z i0)), x25 (x2 z (x8 z i0)), x27 (x2 z (x8 z i0) % 4) (stX (x2 z (x8 z i0) % 4)) (stY (x2 z (x8 z i0) % 4))] (VT.need [x14 z i0, i64In (x2 z (x0 i0)), x25 (x2 z (x0 i0)), x27 (x2 z (x0 i0) % 4) (stX (x2 z (x0 i0) % 4)) (stY (x2 z (x0 i0) % 4))] (VT.need [x14 z i0, i64In (x19 z i0), i64In (z.d * x19 z i0), i64In ((z.X (x0 i0)) + z.d * x19 z i0), x14 z i0, i64In (x20 z i0), i64In (z.d * x20 z i0), i64In ((z.Y (x0 i0)) + z.d * x20 z i0), i0 ≤ i0, (i0 + 1) * ((nat_lit 15) + 1) ≤ 140737488355328, (1:Nat) ≤ (1:Nat)] (x29 z i0 (i0 + 1 = x6 i0) [x15 z, i0 + 1 = x6 i0, ∀ (i1 : Nat), x28 i0 i1 (x3 z i1) ((z.X (x0 i0)) + z.d * x19 z i0) (x3 z i1), ∀ (i1 : Nat), x28 i0 i1 (x12 z i1) ((z.Y (x0 i0)) + z.d * x20 z i0) (x12 z i1), x6 i0 ≤ z.n, x24 z i0])))) (VT.loop Nat (fun i0 => i0 ≤ z.n ∧ (∀ i1 < i0, x31 z i1)) x13 ((0 = (x13:Int)) :: rf (0:Nat) :: x17 z (i0 = z.n) [x15 z, i0 = z.n, ∀ i0 < z.n, rf (x3 z i0), ∀ i0 < z.n, rf (x12 z i0)]) (fun i0 => x23 z i0 (VT.need [x14 z i0, x4 i0 < z.n, FnC prog 104 [dI (x3 z (x4 i0))] (dB (inF (x3 z (x4 i0)))), x16 z i0, x16 z i0, (!(x9 z i0)) = true → x14 z i0, x16 z i0, x16 z i0, (!(x9 z i0)) = true → x4 i0 < z.n, x16 z i0, (!(x9 z i0)) = true → FnC prog 104 [dI (x12 z (x4 i0))] (dB (inF (x12 z (x4 i0)))), x16 z i0, x9 z i0 = false → (!(x9 z i0)) = true] (x18 z (2:Int) (if (x9 z i0) = true then true else (!(inF (x12 z (x4 i0))))) (x29 z i0 (rf z.n) [x15 z, rf z.n, ∀ i0 < z.n, rf (x3 z i0), ∀ i0 < z.n, rf (x12 z i0), x6 i0 ≤ z.n ∧ (∀ i1 < x6 i0, x31 z i1), x24 z i0]))) (VT.need [z.n ≤ z.n, FnC prog 96 [DV.lst z.n [fun i0 => dI (x3 z i0), fun i0 => dI (x12 z i0)]] (dI (x33 z))] (x18 z (12:Int) (x33 z != 0) (VT.done [z.n ≤ z.n, 0 = ofE z.n z.X z.Y z.d])))))))))))
end
end w2v
open w2v in
theorem offsetR_c (n : Nat) (X Y : Nat → Int) (d : Int) (h : chk n X Y = 0) (hd : 0 ≤ d ∧ d ≤ 1000000) : FnC prog 64 [pts n X Y, dI d] (.tup [.any, dI (ofE n X Y d)]) := by
  refine FnC_owed hmix (A83_offsetR_c n X Y d) (V := xt ⟨n, X, Y, d⟩) (by kernel_rfl) ?_
  simp only [xt, x0, x1, x2, x3, x4, x5, x6, x7, x8, x9, x10, x11, x12, x13, x14, x15, x16, x17, x18, x19, x20, x21, x22, x23, x24, x25, x26, x27, x28, x29, x30, x31, x32, x33, Rf, VT.holds, AllT, Sq]
  have hn := chk_n h
  obtain ⟨hX, hY⟩ := chk_inB h
  have cI : ∀ i : Nat, cor n X Y i = corI n X Y i := fun i => rfl
  have cN : ∀ i : Nat, cor n X Y (((i : Int) + 1) % (n : Int)).toNat = corI n X Y ((i : Int) + 1) := fun i => cor_next (by omega) _
  have dP : ∀ i : Nat, dD n X Y (((((i : Int) + n - 1) % (n : Int)).toNat : Nat) : Int) = dD n X Y ((i : Int) - 1) := fun i => by
    rw [dD_prev (by omega)]
    exact dD_mod (by omega) (by rw [show (i : Int) + n - 1 - (i - 1) = n by omega, Int.emod_self])
  have aZ : ∀ i : Nat, addN 0 i = i := fun i => by simp [addN]
  simp only [cN, dP, aZ]
  have oL : ∀ i : Nat, lenW n X Y i + d * corI n X Y i + d * corI n X Y ((i : Int) + 1) = ofL n X Y d i := fun i => rfl
  simp only [cI, oL]
  refine ⟨within_c _ _ _, fun h1 => by omega, fun _ => ⟨⟨wallsR_c n X Y h, cornersR_c n X Y h⟩, rfl, ⟨Nat.zero_le _, ofS_0⟩, fun i ⟨hi, hS⟩ => ⟨fun hlt => ?_, fun hge => ?_⟩⟩⟩
  · have hl := lenW_bd (n := n) (by omega) hX hY (i : Int)
    have hb : -1000000 ≤ d * corI n X Y i ∧ d * corI n X Y i ≤ 1000000 := by
      rcases corI_val (n := n) (X := X) (Y := Y) (i : Int) with e1 | e1 <;> rw [e1] <;> omega
    have hb2 : -1000000 ≤ d * corI n X Y ((i : Int) + 1) ∧ d * corI n X Y ((i : Int) + 1) ≤ 1000000 := by
      rcases corI_val (n := n) (X := X) (Y := Y) ((i : Int) + 1) with e1 | e1 <;> rw [e1] <;> omega
    have he := Int.emod_nonneg ((i : Int) + 1) (show (n : Int) ≠ 0 by omega)
    have he2 := Int.emod_lt_of_pos ((i : Int) + 1) (show (0:Int) < n by omega)
    exact ⟨⟨by omega, by omega, by unfold i64In; omega, by unfold i64In; omega, by unfold i64In; omega, by omega, ⟨he, he2⟩, by unfold i64In; omega, by unfold i64In ofL; omega⟩, fun h1 => (ofE_s (by omega) h1).symm, fun h1 => ⟨by unfold i64In; omega, rfl, ⟨by omega, ofS_1 hS h1⟩, by omega⟩⟩
  · obtain rfl : i = n := by omega
    refine ⟨rfl, Nat.zero_le _, fun k hk => ⟨fun hlt => ?_, fun hge2 => ?_⟩⟩
    · have b1 := st_bd (dD i X Y k) hd
      have b2 := st_bd (dD i X Y ((k : Int) - 1)) hd
      have r1 := dD_range i X Y k
      have r2 := dD_range i X Y ((k : Int) - 1)
      have x1 := hX k (by omega)
      have y1 := hY k (by omega)
      have he := Int.emod_nonneg ((k : Int) + i - 1) (show (i : Int) ≠ 0 by omega)
      have he2 := Int.emod_lt_of_pos ((k : Int) + i - 1) (show (0:Int) < i by omega)
      have eX : X k + d * (stX ((dD i X Y ((k : Int) - 1) + 3) % 4) + stX ((dD i X Y k + 3) % 4)) = ofX i X Y d k := by
        rw [Int.mul_add, ofX]; omega
      have eY : Y k + d * (stY ((dD i X Y ((k : Int) - 1) + 3) % 4) + stY ((dD i X Y k + 3) % 4)) = ofY i X Y d k := by
        rw [Int.mul_add, ofY]; omega
      rw [eX, eY]
      refine ⟨⟨by unfold i64In; omega, by unfold i64In; omega, by omega, ⟨he, he2⟩, by unfold i64In; omega, by omega, step_c _ (by omega)⟩, ⟨by omega, by unfold i64In; omega, by omega, step_c _ (by omega)⟩, ⟨by omega, by unfold i64In; omega, by rw [Int.mul_add]; unfold i64In; omega, by unfold i64In ofX; omega, by omega, by unfold i64In; omega, by rw [Int.mul_add]; unfold i64In; omega, by unfold i64In ofY; omega, Nat.le_refl _, by omega, Nat.le_refl _⟩, by unfold i64In; omega, rfl, last_if (f := ofX i X Y d) rfl, last_if (f := ofY i X Y d) rfl, by omega, by omega⟩
    · obtain rfl : k = i := by omega
      refine ⟨⟨rfl, rfl, rfl⟩, ⟨Nat.zero_le _, fun j hj => absurd hj (Nat.not_lt_zero j)⟩, fun q ⟨hq, hb⟩ => ⟨fun hlt => ?_, fun hge3 => ?_⟩⟩
      · refine ⟨⟨by omega, by omega, in_c _, fun _ => by omega, fun _ => by omega, fun _ => in_c _⟩, fun h1 => ?_, fun h1 => ⟨by unfold i64In; omega, rfl, ⟨by omega, fun j hj => ?_⟩, by omega⟩⟩
        · refine (ofE_2 hS ((chk_two hn).2 ?_)).symm
          rw [← Bool.not_eq_true]
          intro hx
          obtain ⟨a1, a2⟩ := allIn_inB hx
          have a3 := a1 q (by omega)
          have a4 := a2 q (by omega)
          unfold inF at h1
          rw [decide_eq_false_iff_not, decide_eq_false_iff_not] at h1
          omega
        · by_cases e : j = q
          · rw [e]; exact ⟨by simpa using h1.1, h1.2⟩
          · exact hb j (by omega)
      · obtain rfl : q = k := by omega
        refine ⟨⟨Nat.le_refl _, checkR_c _ _ _ (by omega)⟩, fun h1 => (ofE_c hS h1 fun h2 => ?_).symm, fun h1 => ⟨Nat.le_refl _, (ofE_0 hS h1).symm⟩⟩
        have h3 := (chk_two hn).1 h2
        simp only [allIn, decide_eq_false_iff_not] at h3
        refine h3 fun j hj => ?_
        have := hb j hj
        simp [badP, this.1, this.2]
end Go.Abs
end
section
set_option linter.unusedVariables false
set_option linter.unusedSimpArgs false
set_option maxRecDepth 100000
namespace Go.Abs
open Go
abbrev ringC (c0 c1 : DV) (rf : Int) (c3 c4 c5 c6 : DV) (W G L : Int) (c10 c11 : DV) (n : Nat) (X Y : Nat → Int) : DV := .cptr [c0, c1, dI rf, c3, c4, c5, c6, dI W, dI G, dI L, c10, c11, .lst n (wcols n X Y), .lst n [fun k => dI (cor n X Y k)]]
theorem cor_at {n : Nat} {X Y : Nat → Int} {i : Int} (h : 0 ≤ i) : cor n X Y i.toNat = corI n X Y i := by
  have e : cor n X Y i.toNat = corI n X Y (i.toNat : Nat) := rfl
  rw [e, Int.toNat_of_nonneg h]
theorem ix_at {n : Nat} {i : Int} (h : 0 ≤ i ∧ i < n) : ix n i = i.toNat := by
  unfold ix
  rw [Int.add_emod_right, Int.emod_eq_of_lt h.1 h.2]
def gwOk (G W : Int) : Prop := 0 ≤ G ∧ G ≤ 5000 ∧ 1 ≤ W ∧ W ≤ 5000
theorem mul01 {a W : Int} (h : 0 ≤ a ∧ a ≤ 1) (hW : 1 ≤ W ∧ W ≤ 5000) : (a * W = 0 ∧ (1 - a) * W = W ∧ a = 0) ∨ (a * W = W ∧ (1 - a) * W = 0 ∧ a = 1) := by
  obtain rfl | rfl : a = 0 ∨ a = 1 := by omega
  · exact .inl ⟨by omega, by omega, rfl⟩
  · exact .inr ⟨by omega, by omega, rfl⟩
theorem bef_bd {n : Nat} {X Y : Nat → Int} {G W a : Int} (i : Int) (hg : gwOk G W) (ha : 0 ≤ a ∧ a ≤ 1) : -20000 ≤ befF n X Y G W i a ∧ befF n X Y G W i a ≤ 20000 := by
  obtain ⟨g1, g2, g3, g4⟩ := hg
  have hm := mul01 ha ⟨g3, g4⟩
  unfold befF
  split <;> omega
theorem beh_bd {n : Nat} {X Y : Nat → Int} {G W a : Int} (i : Int) (hn : 0 < n) (hX : inB n X) (hY : inB n Y) (hg : gwOk G W) (ha : 0 ≤ a ∧ a ≤ 1) : -20000 ≤ behF n X Y G W i a ∧ behF n X Y G W i a ≤ 4020000 := by
  obtain ⟨g1, g2, g3, g4⟩ := hg
  have hm := mul01 ha ⟨g3, g4⟩
  have hl := lenW_bd hn hX hY i
  unfold behF
  split <;> omega
theorem mul_st {d t : Int} (h : 0 ≤ d ∧ d < 4) (ht : -9000000 ≤ t ∧ t ≤ 9000000) : (-9000000 ≤ t * stX d ∧ t * stX d ≤ 9000000) ∧ (-9000000 ≤ t * stY d ∧ t * stY d ≤ 9000000) := by
  obtain ⟨e1, e2⟩ | ⟨e1, e2⟩ | ⟨e1, e2⟩ | ⟨e1, e2⟩ := st_val h
  all_goals
    rw [e1, e2]
    omega
theorem top_bd {rf L : Int} (hr : 0 ≤ rf ∧ rf ≤ 1000000) (hL : 1 ≤ L ∧ L ≤ 10000) : 0 ≤ rf / L ∧ rf / L ≤ 1000000 ∧ 0 < topH rf L ∧ topH rf L ≤ 1010000 := by
  have h1 := Int.ediv_nonneg hr.1 (show 0 ≤ L by omega)
  have h2 := Int.ediv_le_self L hr.1
  have h3 := Int.ediv_mul_le rf (show L ≠ 0 by omega)
  unfold topH
  have h4 : 0 ≤ rf / L * L := Int.mul_nonneg h1 (by omega)
  rw [Int.add_mul, Int.one_mul]
  omega
noncomputable def A57_n_c (c0 c1 : DV) (rf : Int) (c3 c4 c5 c6 : DV) (W G L : Int) (c10 c11 : DV) (n : Nat) (X Y : Nat → Int) : Ann := { orc := [], loops := [], cuts := [] }
theorem n_c (c0 c1 : DV) (rf : Int) (c3 c4 c5 c6 : DV) (W G L : Int) (c10 c11 : DV) (n : Nat) (X Y : Nat → Int)  : FnC prog 42 [ringC c0 c1 rf c3 c4 c5 c6 W G L c10 c11 n X Y] (dI (n : Int)) := by
  refine FnC_owed hmix (A57_n_c c0 c1 rf c3 c4 c5 c6 W G L c10 c11 n X Y) (V := .done [(n:Int) = (n:Int)]) (by kernel_rfl) ?_
  simp only [VT.holds, AllT, Sq]
noncomputable def A50_before_c (c0 c1 : DV) (rf : Int) (c3 c4 c5 c6 : DV) (W G L : Int) (c10 c11 : DV) (n : Nat) (X Y : Nat → Int) (i a : Int) : Ann := { orc := [], loops := [], cuts := [] }
theorem before_c (c0 c1 : DV) (rf : Int) (c3 c4 c5 c6 : DV) (W G L : Int) (c10 c11 : DV) (n : Nat) (X Y : Nat → Int) (i a : Int) (h : 0 ≤ i ∧ i < n) (hg : gwOk G W) (ha : 0 ≤ a ∧ a ≤ 1) : FnC prog 53 [ringC c0 c1 rf c3 c4 c5 c6 W G L c10 c11 n X Y, dI i, dI a] (dI (befF n X Y G W i a)) := by
  refine FnC_owed hmix (A50_before_c c0 c1 rf c3 c4 c5 c6 W G L c10 c11 n X Y i a) (V := .need [(0:Int) ≤ i ∧ i < (n:Int)] (.ite (decide (cor n X Y (Int.toNat i) > (0:Int))) (.need [i64In (-G), i64In (a * W), i64In (-G - a * W)] (.done [-G - a * W = befF n X Y G W i a])) (.need [i64In ((1:Int) - a), i64In (((1:Int) - a) * W), i64In (G + ((1:Int) - a) * W)] (.done [G + ((1:Int) - a) * W = befF n X Y G W i a])))) (by kernel_rfl) ?_
  simp only [VT.holds, AllT, Sq]
  rw [cor_at h.1]
  obtain ⟨g1, g2, g3, g4⟩ := hg
  have hm := mul01 ha ⟨g3, g4⟩
  refine ⟨h, fun h1 => ⟨?_, ?_⟩, fun h1 => ⟨?_, ?_⟩⟩
  · unfold i64In; omega
  · rw [befF, if_pos h1]
  · unfold i64In; omega
  · rw [befF, if_neg h1]
noncomputable def A88_behind_c (c0 c1 : DV) (rf : Int) (c3 c4 c5 c6 : DV) (W G L : Int) (c10 c11 : DV) (n : Nat) (X Y : Nat → Int) (i a : Int) : Ann := { orc := [(1, [(7, .res fun _ => dI (n : Int)), (8, .pos)])], loops := [], cuts := [] }
theorem behind_c (c0 c1 : DV) (rf : Int) (c3 c4 c5 c6 : DV) (W G L : Int) (c10 c11 : DV) (n : Nat) (X Y : Nat → Int) (i a : Int) (h : 0 ≤ i ∧ i < n) (hn : n ≤ 1000) (hX : inB n X) (hY : inB n Y) (hg : gwOk G W) (ha : 0 ≤ a ∧ a ≤ 1) : FnC prog 88 [ringC c0 c1 rf c3 c4 c5 c6 W G L c10 c11 n X Y, dI i, dI a] (dI (behF n X Y G W i a)) := by
  refine FnC_owed hmix (A88_behind_c c0 c1 rf c3 c4 c5 c6 W G L c10 c11 n X Y i a) (V := .need [i64In (i + (1:Int)), FnC prog 42 [.cptr [c0, c1, (dI rf), c3, c4, c5, c6, (dI W), (dI G), (dI L), c10, c11, .lst n [fun i => (dI (X i)), fun i => (dI (Y i)), fun i => (dI (X (ix n ((i:Int) + (1:Int))))), fun i => (dI (Y (ix n ((i:Int) + (1:Int))))), fun i => (dI (lenW n X Y (i:Int))), fun i => (dI (dD n X Y (i:Int)))], .lst n [fun k => (dI (cor n X Y k))]]] ((dI (n:Int))), (0:Int) ≤ i + (1:Int) ∧ (0:Int) < (n:Int), (0:Int) ≤ (i + (1:Int)) % (n:Int) ∧ (i + (1:Int)) % (n:Int) < (n:Int)] (.ite (decide (cor n X Y ((i + (1:Int)) % (n:Int)).toNat > (0:Int))) (.need [(0:Int) ≤ i ∧ i < (n:Int), i64In (lenW n X Y (↑(Int.toNat i) : Int) + G), i64In ((1:Int) - a), i64In (((1:Int) - a) * W), i64In (lenW n X Y (↑(Int.toNat i) : Int) + G + ((1:Int) - a) * W)] (.done [lenW n X Y (↑(Int.toNat i) : Int) + G + ((1:Int) - a) * W = behF n X Y G W i a])) (.need [(0:Int) ≤ i ∧ i < (n:Int), i64In (lenW n X Y (↑(Int.toNat i) : Int) - G), i64In (a * W), i64In (lenW n X Y (↑(Int.toNat i) : Int) - G - a * W)] (.done [lenW n X Y (↑(Int.toNat i) : Int) - G - a * W = behF n X Y G W i a])))) (by kernel_rfl) ?_
  simp only [VT.holds, AllT, Sq]
  rw [cor_next (by omega), Int.toNat_of_nonneg h.1]
  have he := Int.emod_nonneg (i + 1) (show (n : Int) ≠ 0 by omega)
  have he2 := Int.emod_lt_of_pos (i + 1) (show (0:Int) < n by omega)
  have hl := lenW_bd (n := n) (by omega) hX hY i
  obtain ⟨g1, g2, g3, g4⟩ := hg
  have hm := mul01 ha ⟨g3, g4⟩
  refine ⟨⟨by unfold i64In; omega, n_c _ _ _ _ _ _ _ _ _ _ _ _ _ _ _, by omega, he, he2⟩, fun h1 => ⟨⟨h, ?_⟩, ?_⟩, fun h1 => ⟨⟨h, ?_⟩, ?_⟩⟩
  · unfold i64In; omega
  · rw [behF, if_pos h1]
  · unfold i64In; omega
  · rw [behF, if_neg h1]
noncomputable def A48_runLen_c (c0 c1 : DV) (rf : Int) (c3 c4 c5 c6 : DV) (W G L : Int) (c10 c11 : DV) (n : Nat) (X Y : Nat → Int) (i a b : Int) : Ann := { orc := [(1, [(3, .res fun _ => dI (behF n X Y G W i b)), (7, .res fun _ => dI (befF n X Y G W i a))])], loops := [], cuts := [] }
theorem runLen_c (c0 c1 : DV) (rf : Int) (c3 c4 c5 c6 : DV) (W G L : Int) (c10 c11 : DV) (n : Nat) (X Y : Nat → Int) (i a b : Int) (h : 0 ≤ i ∧ i < n) (hn : n ≤ 1000) (hX : inB n X) (hY : inB n Y) (hg : gwOk G W) (ha : 0 ≤ a ∧ a ≤ 1) (hb : 0 ≤ b ∧ b ≤ 1) : FnC prog 54 [ringC c0 c1 rf c3 c4 c5 c6 W G L c10 c11 n X Y, dI i, dI a, dI b] (dI (ruL n X Y G W i a b)) := by
  refine FnC_owed hmix (A48_runLen_c c0 c1 rf c3 c4 c5 c6 W G L c10 c11 n X Y i a b) (V := .need [FnC prog 88 [.cptr [c0, c1, (dI rf), c3, c4, c5, c6, (dI W), (dI G), (dI L), c10, c11, .lst n [fun i => (dI (X i)), fun i => (dI (Y i)), fun i => (dI (X (ix n ((i:Int) + (1:Int))))), fun i => (dI (Y (ix n ((i:Int) + (1:Int))))), fun i => (dI (lenW n X Y (i:Int))), fun i => (dI (dD n X Y (i:Int)))], .lst n [fun k => (dI (cor n X Y k))]], (dI i), (dI b)] ((dI (behF n X Y G W i b))), FnC prog 53 [.cptr [c0, c1, (dI rf), c3, c4, c5, c6, (dI W), (dI G), (dI L), c10, c11, .lst n [fun i => (dI (X i)), fun i => (dI (Y i)), fun i => (dI (X (ix n ((i:Int) + (1:Int))))), fun i => (dI (Y (ix n ((i:Int) + (1:Int))))), fun i => (dI (lenW n X Y (i:Int))), fun i => (dI (dD n X Y (i:Int)))], .lst n [fun k => (dI (cor n X Y k))]], (dI i), (dI a)] ((dI (befF n X Y G W i a))), i64In (behF n X Y G W i b - befF n X Y G W i a)] (.done [behF n X Y G W i b - befF n X Y G W i a = ruL n X Y G W i a b])) (by kernel_rfl) ?_
  simp only [VT.holds, AllT, Sq]
  have b1 := bef_bd (n := n) (X := X) (Y := Y) i hg ha
  have b2 := beh_bd i (by omega) hX hY hg hb
  exact ⟨⟨behind_c _ _ _ _ _ _ _ _ _ _ _ _ _ _ _ _ _ h hn hX hY hg hb, before_c _ _ _ _ _ _ _ _ _ _ _ _ _ _ _ _ _ h hg ha, by unfold i64In; omega⟩, rfl⟩
noncomputable def A49_ringAt_c (c0 c1 : DV) (rf : Int) (c3 c4 c5 c6 : DV) (W G L : Int) (c10 c11 : DV) (n : Nat) (X Y : Nat → Int) (i al out : Int) : Ann := { orc := [], loops := [], cuts := [] }
namespace w30
noncomputable section
structure Z where
  c0 : DV
  c1 : DV
  rf : Int
  c3 : DV
  c4 : DV
  c5 : DV
  c6 : DV
  W : Int
  G : Int
  L : Int
  c10 : DV
  c11 : DV
  n : Nat
  X : Nat → Int
  Y : Nat → Int
  i : Int
  al : Int
  out : Int
variable (z : Z) (a : Int) (j8a : Nat → Int) (j9a : List Int)
abbrev x0 := dD z.n z.X z.Y (↑(Int.toNat z.i) : Int)
abbrev x1 := a * List.getD j9a (Int.toNat (x0 z % 4)) 0
abbrev x2 : List Int := [(0:Int), (1:Int), (0:Int), -(1:Int)]
abbrev x3 : List Int := [(1:Int), (0:Int), -(1:Int), (0:Int)]
abbrev x4 := (j8a (Int.toNat z.i)) + x1 z z.al j9a
abbrev x5 := x4 z z.X x3 + x1 z z.out x2
abbrev x6 := x4 z z.Y x2 - x1 z z.out x3
abbrev xt : VT := VT.need [0 ≤ z.i ∧ z.i < (z.n:Int)] (VT.need [0 ≤ x0 z ∧ x0 z ≤ 9223372036854775807 ∧ rf (3:Int), 0 ≤ x0 z % 4 ∧ x0 z % 4 < (↑(4:Nat) : Int)] (VT.need [i64In (x1 z z.al x3), i64In (x4 z z.X x3), i64In (x1 z z.out x2), i64In (x5 z), i64In (x1 z z.al x2), i64In (x4 z z.Y x2), i64In (x1 z z.out x3), i64In (x6 z)] (VT.done [x5 z = atX z.n z.X z.Y z.i z.al z.out, x6 z = atY z.n z.X z.Y z.i z.al z.out])))
end
end w30
open w30 in
theorem ringAt_c (c0 c1 : DV) (rf : Int) (c3 c4 c5 c6 : DV) (W G L : Int) (c10 c11 : DV) (n : Nat) (X Y : Nat → Int) (i al out : Int) (h : 0 ≤ i ∧ i < n) (hX : inB n X) (hY : inB n Y) (h1 : -9000000 ≤ al ∧ al ≤ 9000000) (h2 : -9000000 ≤ out ∧ out ≤ 9000000) : FnC prog 52 [ringC c0 c1 rf c3 c4 c5 c6 W G L c10 c11 n X Y, dI i, dI al, dI out] (dP (atX n X Y i al out) (atY n X Y i al out)) := by
  refine FnC_owed hmix (A49_ringAt_c c0 c1 rf c3 c4 c5 c6 W G L c10 c11 n X Y i al out) (V := xt ⟨c0, c1, rf, c3, c4, c5, c6, W, G, L, c10, c11, n, X, Y, i, al, out⟩) (by kernel_rfl) ?_
  simp only [xt, x0, x1, x2, x3, x4, x5, x6, Rf, VT.holds, AllT, Sq]
  rw [Int.toNat_of_nonneg h.1]
  have hd := dD_range n X Y i
  have hd2 : 0 ≤ dD n X Y i ∧ dD n X Y i < 4 := by omega
  rw [Int.emod_eq_of_lt hd2.1 hd2.2, gX hd2, gY hd2]
  have x1 := hX i.toNat (by omega)
  have y1 := hY i.toNat (by omega)
  obtain ⟨m1, m2⟩ := mul_st hd2 h1
  obtain ⟨m3, m4⟩ := mul_st hd2 h2
  refine ⟨h, ⟨by omega, hd2⟩, by unfold i64In; omega, ?_, ?_⟩
  · rw [atX, ix_at h]
  · rw [atY, ix_at h]
noncomputable def A101_top_c' (c0 c1 : DV) (rf : Int) (c3 c4 c5 c6 : DV) (W G L : Int) (c10 c11 : DV) (n : Nat) (X Y : Nat → Int) : Ann := { orc := [(1, [(10, .pos)])], loops := [], cuts := [] }
theorem top_c' (c0 c1 : DV) (rf : Int) (c3 c4 c5 c6 : DV) (W G L : Int) (c10 c11 : DV) (n : Nat) (X Y : Nat → Int) (hr : 0 ≤ rf ∧ rf ≤ 1000000) (hL : 1 ≤ L ∧ L ≤ 10000) : FnC prog 129 [ringC c0 c1 rf c3 c4 c5 c6 W G L c10 c11 n X Y] (dI (topH rf L)) := by
  refine FnC_owed hmix (A101_top_c' c0 c1 rf c3 c4 c5 c6 W G L c10 c11 n X Y) (V := VT.need
        [(0:Int) ≤ rf ∧ (0:Int) < L ∧ rf ≤ (9223372036854775807:Int), i64In (rf / L + (1:Int)),
          i64In ((rf / L + (1:Int)) * L)]
        (VT.done [(rf / L + (1:Int)) * L = topH rf L])) (by kernel_rfl) ?_
  simp only [VT.holds, AllT, Sq]
  obtain ⟨t1, t2, t3, t4⟩ := top_bd hr hL
  have e : (rf / L + 1) * L = topH rf L := rfl
  rw [e]
  exact ⟨⟨by omega, by unfold i64In; omega, by unfold i64In; omega⟩, rfl⟩
noncomputable def A66_ringBox_c (c0 c1 : DV) (rf : Int) (c3 c4 c5 c6 : DV) (W G L : Int) (c10 c11 : DV) (n : Nat) (X Y : Nat → Int) (i a b : Int) : Ann := { orc := [(1, [(5, .res fun _ => dI (befF n X Y G W i a)), (11, .res fun _ => dP (atX n X Y i (befF n X Y G W i a) G) (atY n X Y i (befF n X Y G W i a) G))]), (2, [(5, .res fun _ => dI (behF n X Y G W i b)), (17, .res fun _ => dP (atX n X Y i (behF n X Y G W i b) (G + W)) (atY n X Y i (behF n X Y G W i b) (G + W)))]), (3, [(21, .res fun _ => dI (topH rf L))])], loops := [], cuts := [] }
namespace w32
noncomputable section
structure Z where
  c0 : DV
  c1 : DV
  rf : Int
  c3 : DV
  c4 : DV
  c5 : DV
  c6 : DV
  W : Int
  G : Int
  L : Int
  c10 : DV
  c11 : DV
  n : Nat
  X : Nat → Int
  Y : Nat → Int
  i : Int
  a : Int
  b : Int
variable (z : Z) (a b c d : Int)
abbrev x0 := befF z.n z.X z.Y z.G z.W z.i z.a
abbrev x1 := behF z.n z.X z.Y z.G z.W z.i z.b
abbrev x2 := DV.cptr [z.c0, z.c1, dI z.rf, z.c3, z.c4, z.c5, z.c6, dI z.W, dI z.G, dI z.L, z.c10, z.c11, DV.lst z.n [fun i0 => dI (z.X i0), fun i0 => dI (z.Y i0), fun i0 => dI (z.X (ix z.n ((i0:Int) + 1))), fun i0 => dI (z.Y (ix z.n ((i0:Int) + 1))), fun i0 => dI (lenW z.n z.X z.Y (i0:Int)), fun i0 => dI (dD z.n z.X z.Y (i0:Int))], DV.lst z.n [fun i0 => dI (cor z.n z.X z.Y i0)]]
abbrev x3 := atX z.n z.X z.Y z.i (x0 z) z.G
abbrev x4 := atX z.n z.X z.Y z.i (x1 z) (z.G + z.W)
abbrev x5 := atY z.n z.X z.Y z.i (x0 z) z.G
abbrev x6 := atY z.n z.X z.Y z.i (x1 z) (z.G + z.W)
abbrev x7 := FnC prog 52 [x2 z, dI z.i, dI a, dI b] (DV.val (Value.agg (Array.mk [Value.int IntKind.i64 c, Value.int IntKind.i64 d])))
abbrev xt : VT := VT.need [FnC prog 53 [x2 z, dI z.i, dI z.a] (dI (x0 z)), x7 z (x0 z) z.G (x3 z) (x5 z)] (VT.need [FnC prog 88 [x2 z, dI z.i, dI z.b] (dI (x1 z)), i64In (z.G + z.W), x7 z (x1 z) (z.G + z.W) (x4 z) (x6 z)] (VT.need [FnC prog 129 [x2 z] (dI (topH z.rf z.L))] (VT.done [mins (x3 z) [x4 z] = ruX1 z.n z.X z.Y z.G z.W z.i z.a z.b, mins (x5 z) [x6 z] = ruY1 z.n z.X z.Y z.G z.W z.i z.a z.b, rf (0:Int), maxs (x3 z) [x4 z] = ruX2 z.n z.X z.Y z.G z.W z.i z.a z.b, maxs (x5 z) [x6 z] = ruY2 z.n z.X z.Y z.G z.W z.i z.a z.b, rf (topH z.rf z.L)])))
end
end w32
open w32 in
theorem ringBox_c (c0 c1 : DV) (rf : Int) (c3 c4 c5 c6 : DV) (W G L : Int) (c10 c11 : DV) (n : Nat) (X Y : Nat → Int) (i a b : Int) (h : 0 ≤ i ∧ i < n) (hn : n ≤ 1000) (hX : inB n X) (hY : inB n Y) (hg : gwOk G W) (ha : 0 ≤ a ∧ a ≤ 1) (hb : 0 ≤ b ∧ b ≤ 1) (hr : 0 ≤ rf ∧ rf ≤ 1000000) (hL : 1 ≤ L ∧ L ≤ 10000) : FnC prog 85 [ringC c0 c1 rf c3 c4 c5 c6 W G L c10 c11 n X Y, dI i, dI a, dI b] (bx (ruX1 n X Y G W i a b) (ruY1 n X Y G W i a b) 0 (ruX2 n X Y G W i a b) (ruY2 n X Y G W i a b) (topH rf L)) := by
  refine FnC_owed hmix (A66_ringBox_c c0 c1 rf c3 c4 c5 c6 W G L c10 c11 n X Y i a b) (V := xt ⟨c0, c1, rf, c3, c4, c5, c6, W, G, L, c10, c11, n, X, Y, i, a, b⟩) (by kernel_rfl) ?_
  simp only [xt, x0, x1, x2, x3, x4, x5, x6, x7, Rf, VT.holds, AllT, Sq]
  have b1 := bef_bd (n := n) (X := X) (Y := Y) i hg ha
  have b2 := beh_bd i (by omega) hX hY hg hb
  have hg' := hg
  obtain ⟨g1, g2, g3, g4⟩ := hg'
  exact ⟨⟨before_c _ _ _ _ _ _ _ _ _ _ _ _ _ _ _ _ _ h hg ha, ringAt_c _ _ _ _ _ _ _ _ _ _ _ _ _ _ _ _ _ _ h hX hY (by omega) (by omega)⟩, ⟨behind_c _ _ _ _ _ _ _ _ _ _ _ _ _ _ _ _ _ h hn hX hY hg hb, by unfold i64In; omega, ringAt_c _ _ _ _ _ _ _ _ _ _ _ _ _ _ _ _ _ _ h hX hY (by omega) (by omega)⟩, top_c' _ _ _ _ _ _ _ _ _ _ _ _ _ _ _ hr hL, mins1 _ _, mins1 _ _, maxs1 _ _, maxs1 _ _⟩
noncomputable def A90_reach_c (nB : Nat) (B : Nat → Int) (nO : Nat) (O : Nat → Int) (W G L c : Int) (has : Bool) : Ann := { orc := [], loops := [], cuts := [] }
theorem reach_c (nB : Nat) (B : Nat → Int) (nO : Nat) (O : Nat → Int) (W G L c : Int) (has : Bool) (hg : gwOk G W) : FnC prog 107 [Lay.sys nB B nO O W G L, dI c, dB has] (dI (reaF G W c has)) := by
  refine FnC_owed hmix (A90_reach_c nB B nO O W G L c has) (V := .need [decide (c > (0:Int)) = true → decide (c > (0:Int)) = true] (.ite (if decide (c > (0:Int)) = true then has else false) (.need [i64In (G + W)] (.done [G + W = reaF G W c has])) (.ite (decide (c > (0:Int))) (.done [G = reaF G W c has]) (.ite has (.need [i64In (-G)] (.done [-G = reaF G W c has])) (.need [i64In (-G), i64In (-G - W)] (.done [-G - W = reaF G W c has])))))) (by kernel_rfl) ?_
  simp only [VT.holds, AllT, Sq]
  obtain ⟨g1, g2, g3, g4⟩ := hg
  unfold reaF i64In
  refine ⟨fun ⟨h1, h2⟩ => ⟨by omega, by rw [if_pos h1, if_pos h2]⟩, fun h1 => ⟨fun h2 => by rw [if_pos h2, if_neg (by rw [h1 h2]; simp)], fun h2 => ⟨fun h3 => ⟨by omega, by rw [if_neg h2, if_pos h3]⟩, fun h3 => ⟨by omega, by rw [if_neg h2, if_neg (by rw [h3]; simp)]⟩⟩⟩⟩
noncomputable def A52_place_c (x y x2 y2 len d al r : Int) : Ann := { orc := [(1, [(2, rSt)]), (2, [(3, .pos), (4, rSt)])], loops := [], cuts := [] }
theorem place_c (x y x2 y2 len d al r : Int) (h : 0 ≤ d ∧ d < 4) (hx : m3 x) (hy : m3 y) (h1 : -9000000 ≤ al ∧ al ≤ 9000000) (h2 : -9000000 ≤ r ∧ r ≤ 9000000) : FnC prog 68 [.val (.agg #[.int .i64 x, .int .i64 y, .int .i64 x2, .int .i64 y2, .int .i64 len, .int .i64 d]), dI al, dI r] (dP (x + al * stX d + r * stX ((d + 3) % 4)) (y + al * stY d + r * stY ((d + 3) % 4))) := by
  refine FnC_owed hmix (A52_place_c x y x2 y2 len d al r) (V := .need [FnC prog 103 [(dI d)] (.tup [(dI (stX d)), (dI (stY d))])] (.need [i64In (d + (3:Int)), (0:Int) ≤ d + (3:Int) ∧ (0:Int) < (4:Int), FnC prog 103 [(dI ((d + (3:Int)) % (4:Int)))] (.tup [(dI (stX ((d + (3:Int)) % (4:Int)))), (dI (stY ((d + (3:Int)) % (4:Int))))])] (.need [i64In (al * stX d), i64In (x + al * stX d), i64In (r * stX ((d + (3:Int)) % (4:Int))), i64In (x + al * stX d + r * stX ((d + (3:Int)) % (4:Int))), i64In (al * stY d), i64In (y + al * stY d), i64In (r * stY ((d + (3:Int)) % (4:Int))), i64In (y + al * stY d + r * stY ((d + (3:Int)) % (4:Int)))] (.done [x + al * stX d + r * stX ((d + (3:Int)) % (4:Int)) = x + al * stX d + r * stX ((d + (3:Int)) % (4:Int)), y + al * stY d + r * stY ((d + (3:Int)) % (4:Int)) = y + al * stY d + r * stY ((d + (3:Int)) % (4:Int))])))) (by kernel_rfl) ?_
  simp only [VT.holds, AllT, Sq]
  unfold m3 at hx hy
  have h3 : 0 ≤ (d + 3) % 4 ∧ (d + 3) % 4 < 4 := by omega
  obtain ⟨q1, q2⟩ := mul_st h h1
  obtain ⟨q3, q4⟩ := mul_st h3 h2
  refine ⟨step_c _ h, ⟨by unfold i64In; omega, by omega, step_c _ h3⟩, ?_⟩
  unfold i64In; omega
theorem vX0 : stX 0 = 1 := rfl
theorem vX1 : stX 1 = 0 := rfl
theorem vX2 : stX 2 = -1 := rfl
theorem vX3 : stX 3 = 0 := rfl
theorem vY0 : stY 0 = 0 := rfl
theorem vY1 : stY 1 = 1 := rfl
theorem vY2 : stY 2 = 0 := rfl
theorem vY3 : stY 3 = -1 := rfl
theorem pos1 : ((1:Int) > 0) = True := by simp
theorem neg1 : ((-1:Int) > 0) = False := by simp
theorem st_r {d : Int} (h : 0 ≤ d ∧ d < 4) : stX ((d + 3) % 4) = stY d ∧ stY ((d + 3) % 4) = -stX d := by
  obtain rfl | rfl | rfl | rfl : d = 0 ∨ d = 1 ∨ d = 2 ∨ d = 3 := by omega
  all_goals exact ⟨rfl, rfl⟩
theorem bef_rea {n : Nat} {X Y : Nat → Int} {G W i a : Int} (ha : 0 ≤ a ∧ a ≤ 1) : -reaF G W (corI n X Y i) (decide (a = 1)) = befF n X Y G W i a := by
  unfold reaF befF
  obtain rfl | rfl : a = 0 ∨ a = 1 := by omega
  · rw [show decide ((0:Int) = 1) = false from rfl, if_neg (show ¬ false = true by simp), if_neg (show ¬ false = true by simp)]
    split <;> omega
  · rw [show decide ((1:Int) = 1) = true from rfl, if_pos rfl, if_pos rfl]
    split <;> omega
theorem beh_rea {n : Nat} {X Y : Nat → Int} {G W i b : Int} (hb : 0 ≤ b ∧ b ≤ 1) : lenW n X Y i + reaF G W (corI n X Y (i + 1)) (decide (b = 0)) = behF n X Y G W i b := by
  unfold reaF behF
  obtain rfl | rfl : b = 0 ∨ b = 1 := by omega
  · rw [show decide ((0:Int) = 0) = true from rfl, if_pos rfl, if_pos rfl]
    split <;> omega
  · rw [show decide ((1:Int) = 0) = false from rfl, if_neg (show ¬ false = true by simp), if_neg (show ¬ false = true by simp)]
    split <;> omega
theorem box_in {n : Nat} {X Y : Nat → Int} {G W : Int} (h : chk n X Y = 0) (hg : gwOk G W) (e1 : ofE n X Y G = 0) (e2 : ofE n X Y (G + W) = 0) {i : Nat} (hi : i < n) :
    inF (ruX1 n X Y G W i 1 0) = true ∧ inF (ruY1 n X Y G W i 1 0) = true ∧ inF (ruX2 n X Y G W i 1 0) = true ∧ inF (ruY2 n X Y G W i 1 0) = true ∧ ruX1 n X Y G W i 1 0 < ruX2 n X Y G W i 1 0 ∧ ruY1 n X Y G W i 1 0 < ruY2 n X Y G W i 1 0 := by
  have hn := chk_n h
  obtain ⟨g1, g2, g3, g4⟩ := hg
  obtain ⟨a1, c1⟩ := of_zero e1
  obtain ⟨a2, c2⟩ := of_zero e2
  obtain ⟨p1, p2⟩ := chk_inB c1
  obtain ⟨p3, p4⟩ := chk_inB c2
  have hpos := run_pos (w := W) a1 a2 g1 (by omega) hi
  have hj := ix_lt (n := n) (i := (i : Int) + 1) (by omega)
  have ej : ((ix n ((i : Int) + 1) : Nat) : Int) = ((i : Int) + 1) % n := ix_cast (by omega) _
  have ei : ix n (i : Int) = i := ix_nat hi
  have t1 := turn_cases h hi
  have t2 := turn_cases h hj
  have dj : dD n X Y ((ix n ((i : Int) + 1) : Nat) : Int) = dD n X Y ((i : Int) + 1) := dD_ix (by omega) _
  have dj1 : dD n X Y (((ix n ((i : Int) + 1) : Nat) : Int) - 1) = dD n X Y i := by
    rw [ej]
    refine dD_mod (by omega) ?_
    rw [show ((i : Int) + 1) % (n : Int) - 1 - i = ((i : Int) + 1) % n - (i + 1) by omega]
    exact emod_self_sub _ _
  have cj : corI n X Y ((ix n ((i : Int) + 1) : Nat) : Int) = corI n X Y ((i : Int) + 1) := by
    rw [ej]
    exact corI_mod (by omega) (emod_self_sub _ _)
  rw [dj, dj1, cj] at t2
  obtain ⟨s1, s2, s3⟩ := side_to (dO_of_chk h hi)
  have q1 := p1 i hi
  have q2 := p2 i hi
  have q3 := p3 i hi
  have q4 := p4 i hi
  have r1 := p1 _ hj
  have r2 := p2 _ hj
  have r3 := p3 _ hj
  have r4 := p4 _ hj
  unfold ofX at q1 q3 r1 r3
  unfold ofY at q2 q4 r2 r4
  rw [dj, dj1, s1] at r1 r3
  rw [dj, dj1, s2] at r2 r4
  rw [ei] at r1 r2 r3 r4
  unfold ruX1 ruX2 ruY1 ruY2 atX atY
  rw [ei]
  unfold ruL behF befF at hpos
  unfold behF befF inF
  simp only [decide_eq_true_eq]
  have d0 := dD_range n X Y i
  have d1 := dD_range n X Y ((i : Int) - 1)
  have d2 := dD_range n X Y ((i : Int) + 1)
  generalize dD n X Y (i : Int) = D at *
  generalize dD n X Y ((i : Int) - 1) = D0 at *
  generalize dD n X Y ((i : Int) + 1) = D1 at *
  generalize corI n X Y (i : Int) = C0 at *
  generalize corI n X Y ((i : Int) + 1) = C1 at *
  generalize lenW n X Y (i : Int) = len at *
  generalize X i = x at *
  generalize Y i = y at *
  clear s1 s2 dj dj1 cj ej ei p1 p2 p3 p4 c1 c2 a1 a2 e1 e2 h hj hn hi
  have k0 := st_r (d := D) (by omega)
  have k1 := st_r (d := D0) (by omega)
  have k2 := st_r (d := D1) (by omega)
  rw [k0.1, k1.1] at q1 q3
  rw [k0.1, k2.1] at r1 r3
  rw [k0.2, k1.2] at q2 q4
  rw [k0.2, k2.2] at r2 r4
  clear k0 k1 k2
  rcases t1 with ⟨rfl, t1⟩ | ⟨rfl, t1⟩ <;> rcases t2 with ⟨rfl, t2⟩ | ⟨rfl, t2⟩ <;> simp only [pos1, neg1, if_true, if_false] at hpos ⊢ <;>
  · obtain rfl | rfl | rfl | rfl : D = 0 ∨ D = 1 ∨ D = 2 ∨ D = 3 := by omega
    all_goals
      obtain ⟨rfl⟩ | ⟨rfl⟩ | ⟨rfl⟩ | ⟨rfl⟩ : D0 = 0 ∨ D0 = 1 ∨ D0 = 2 ∨ D0 = 3 := by omega
      all_goals first
        | (exfalso; omega)
        | (obtain ⟨rfl⟩ | ⟨rfl⟩ | ⟨rfl⟩ | ⟨rfl⟩ : D1 = 0 ∨ D1 = 1 ∨ D1 = 2 ∨ D1 = 3 := by omega
           all_goals first
             | (exfalso; omega)
             | (simp only [vX0, vX1, vX2, vX3, vY0, vY1, vY2, vY3] at q1 q2 q3 q4 r1 r2 r3 r4 ⊢
                omega))
end Go.Abs
end
end
