/- The parallel outline covers the outline; its area. -/
import Derived.Test.YtcgfcahljfmipaaDoorG8
set_option linter.unusedVariables false
namespace Go.Abs.Geo
open Go.Abs
/-- Between two lines of a grid there is no corner. -/
theorem gr_two {n : Nat} {X : Nat → Int} {m : Nat} {X' : Nat → Int} {i : Nat} (hi : i + 1 < (gr n X m X').length) : (gr n X m X').getD i 0 < (gr n X m X').getD (i + 1) 0 ∧ (∀ k, k < n → X k ≤ (gr n X m X').getD i 0 ∨ (gr n X m X').getD (i + 1) 0 ≤ X k) ∧ (∀ k, k < m → X' k ≤ (gr n X m X').getD i 0 ∨ (gr n X m X').getD (i + 1) 0 ≤ X' k) := by
  obtain ⟨h1, h2⟩ := linesF_asc (allN (N2 n m) (X2 X X') 2)
  have hlt := asc_get h1 (show i < i + 1 by omega) hi
  have key : ∀ x, x ∈ allN (N2 n m) (X2 X X') 2 → x ≤ (gr n X m X').getD i 0 ∨ (gr n X m X').getD (i + 1) 0 ≤ x := fun x hx => asc_gap h1 hi ((h2 x).2 hx)
  exact ⟨hlt, fun k hk => key _ (allN_mem (i := 0) (k := k) (by omega) hk), fun k hk => key _ (allN_mem (i := 1) (k := k) (by omega) hk)⟩
section
variable {n : Nat} {X Y : Nat → Int} {d : Int}
theorem chkO_poly (h : chk n X Y = 0) (hO : chk n (ofX n X Y d) (ofY n X Y d) = 0) : Poly n (offX n (cyc n X) (cyc n Y) d) (offY n (cyc n X) (cyc n Y) d) ∧ (sm (cr (offX n (cyc n X) (cyc n Y) d) (offY n (cyc n X) (cyc n Y) d)) n = 8 ∧ ∀ a b, wp n (offX n (cyc n X) (cyc n Y) d) (offY n (cyc n X) (cyc n Y) d) a b = 0 ∨ wp n (offX n (cyc n X) (cyc n Y) d) (offY n (cyc n X) (cyc n Y) d) a b = 1) := by
  have P := chk_poly h
  have Q := chk_poly hO
  have G := chk_good hO
  obtain ⟨e1, e2⟩ := cyc_off P d
  rw [e1, e2] at Q G
  exact ⟨Q, G⟩
theorem cover_off (h : chk n X Y = 0) (hd : 0 ≤ d) (hE : ofE n X Y d = 0) : covF n (ofX n X Y d) (ofY n X Y d) n X Y = true := by
  obtain ⟨hS, hO⟩ := of_zero hE
  have P := chk_poly h
  have hn := chk_n h
  obtain ⟨Q, _, hw⟩ := chkO_poly h hO
  have hs := same_of P hS
  obtain ⟨e1, e2⟩ := cyc_off P d
  have Q' := Q
  rw [← e1, ← e2] at Q'
  unfold covF
  rw [decide_eq_true_eq]
  intro k hk
  unfold cellN at hk
  generalize hM : (gr n (ofY n X Y d) n Y).length - 1 = M at hk
  have hM0 : 0 < M := by
    rcases Nat.eq_zero_or_pos M with e | e
    · rw [e, Nat.zero_mul] at hk; exact absurd hk (Nat.not_lt_zero k)
    · exact e
  have ha : k / M < (gr n (ofX n X Y d) n X).length - 1 := Nat.div_lt_of_lt_mul hk
  have hb : k % M < M := Nat.mod_lt k hM0
  obtain ⟨x0, x1, x2⟩ := gr_two (n := n) (X := ofX n X Y d) (m := n) (X' := X) (i := k / M) (Nat.add_lt_of_lt_sub ha)
  obtain ⟨y0, y1, y2⟩ := gr_two (n := n) (X := ofY n X Y d) (m := n) (X' := Y) (i := k % M) (Nat.add_lt_of_lt_sub (Nat.lt_of_lt_of_eq hb hM.symm))
  unfold badC cellM midC
  rw [hM]
  simp only
  generalize (gr n (ofX n X Y d) n X).getD (k / M) 0 = a at *
  generalize (gr n (ofX n X Y d) n X).getD (k / M + 1) 0 = a' at *
  generalize (gr n (ofY n X Y d) n Y).getD (k % M) 0 = b at *
  generalize (gr n (ofY n X Y d) n Y).getD (k % M + 1) 0 = b' at *
  have L1 := has_wp P (a := a) (b := b) (x := a + a') (y := b + b') (fun i => by
    have := x2 _ (Nat.mod_lt i (show 0 < n by omega))
    unfold cyc; omega) (fun i => by
    have := y2 _ (Nat.mod_lt i (show 0 < n by omega))
    unfold cyc; omega)
  have L2 := has_wp Q' (a := a) (b := b) (x := a + a') (y := b + b') (fun i => by
    have := x1 _ (Nat.mod_lt i (show 0 < n by omega))
    unfold cyc; omega) (fun i => by
    have := y1 _ (Nat.mod_lt i (show 0 < n by omega))
    unfold cyc; omega)
  rw [e1, e2] at L2
  have hge := off_ge P hd hs a b
  have w1 := (chk_good h).2 a b
  have w2 := hw a b
  rw [Bool.and_eq_false_imp, Bool.not_eq_false']
  intro h1
  have := L1.1 h1
  exact L2.2 (by omega)
/-- The length of all sides, by the program's sides. -/
theorem lens_sum (n : Nat) (X Y : Nat → Int) : lens n (cyc n X) (cyc n Y) = sm (fun i => lenW n X Y (i : Nat)) n := by
  unfold lens
  exact sm_eq fun i _ => (lenW_nat i).symm
theorem area_off (h : chk n X Y = 0) (hE : ofE n X Y d = 0) : twS n (ofX n X Y d) (ofY n X Y d) n / 2 = twS n X Y n / 2 + d * sm (fun i => lenW n X Y (i : Nat)) n + 4 * d * d := by
  obtain ⟨hS, hO⟩ := of_zero hE
  have P := chk_poly h
  obtain ⟨Q, _⟩ := chkO_poly h hO
  obtain ⟨e1, e2⟩ := cyc_off P d
  have Q' := Q
  rw [← e1, ← e2] at Q'
  rw [twS_ar P.rect, twS_ar Q'.rect, e1, e2, off_area P d (chk_good h).1, ← lens_sum]
  omega
end
end Go.Abs.Geo
