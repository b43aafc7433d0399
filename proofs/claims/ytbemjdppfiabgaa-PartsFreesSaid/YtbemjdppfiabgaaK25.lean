/- Contracts. -/
import Derived.Test.YtbemjdppfiabgaaK24
set_option linter.unusedVariables false
set_option linter.unusedSimpArgs false
set_option maxRecDepth 100000
namespace Go.Abs
open Go
section
variable {s : Scf}
theorem b_iff {x y : Bool} (h : x = true ↔ y = true) : x = y := by
  cases x <;> cases y <;> simp_all
theorem foot_eq (hc : ScfOK s) {n : Int} (hn : 0 ≤ n) : (ftB s s.nM n.toNat || ftU s s.nM n.toNat) = anyN (fdP s n) s.nM := by
  refine b_iff ?_
  rw [Bool.or_eq_true, ftB_iff, ftU_iff, anyN_iff]
  have e : ((n.toNat : Nat) : Int) = n := by omega
  rw [e]
  constructor
  · rintro (⟨j, hj, h1, h2⟩ | ⟨j, hj, h1, h2⟩)
    · have hr := hc.right j hj
      rw [h1] at hr
      have hab : s.A j = s.B j := by
        unfold rgtF geoF at hr
        simpa using hr
      exact ⟨j, hj, by rw [fdP, h1, ← hab, h2]; simp⟩
    · exact ⟨j, hj, by rw [fdP, h1, h2]; simp⟩
  · rintro ⟨j, hj, h⟩
    rw [fdP, Bool.and_eq_true, Bool.or_eq_true, decide_eq_true_eq, decide_eq_true_eq, decide_eq_true_eq] at h
    rcases h with ⟨h | h, h2⟩
    · exact .inr ⟨j, hj, h, h2⟩
    · have hr := hc.right j hj
      rw [h] at hr
      have hab : s.A j = s.B j := by
        unfold rgtF geoF at hr
        simpa using hr
      exact .inl ⟨j, hj, h, by rw [hab]; exact h2⟩
theorem stand_eq {n : Int} (hn : 0 ≤ n) : ftA s s.nM n.toNat = anyN (sgP s n) s.nM := by
  refine b_iff ?_
  rw [ftA_iff, anyN_iff, show ((n.toNat : Nat) : Int) = n by omega]
  refine exists_congr fun j => and_congr_right fun _ => ?_
  rw [sgP, Bool.and_eq_true, Bool.or_eq_true, decide_eq_true_eq, decide_eq_true_eq, decide_eq_true_eq]
theorem fr_eq (hc : ScfOK s) {i : Nat} (hi : i < s.nM) : frP s i = frR s i := by
  obtain ⟨hA, hB⟩ := hc.ends i hi
  unfold frP frR frRB
  by_cases h : s.K i = 0
  · rw [if_pos h, if_pos h, ← foot_eq hc hA.1, Bool.not_or]
  · rw [if_neg h, if_neg h, ixF_any]
    refine b_iff ?_
    rw [anyN_iff, anyN_iff]
    refine exists_congr fun j => and_congr_right fun _ => ?_
    have hr := hc.right i hi
    have hk : s.K i = 6 → crn_ok s (s.A i) (s.B i) := fun h6 => by rw [h6] at hr; exact (rgt6 hr).2
    have hb := end_bd hA hB hk j
    unfold noA frE1
    dsimp only
    rw [stand_eq hb.1]
theorem flI_eq {p q : Nat → Bool} : ∀ {n : Nat}, (∀ i, i < n → p i = q i) → ∀ j, flI p n j = flI q n j
  | 0, _, _ => rfl
  | n + 1, h, j => by
    rw [flI, flI, flI_eq (fun i hi => h i (by omega)) j, flN_eq (fun i hi => h i (by omega)), h n (Nat.lt_succ_self n)]
/-- What stands where a node is told to be. -/
theorem nAt_is {x y z : Int} : ∀ {n : Nat}, 0 ≤ nAt s n x y z → s.X (nAt s n x y z).toNat = x ∧ s.Y (nAt s n x y z).toNat = y ∧ s.Z (nAt s n x y z).toNat = z
  | 0, h => absurd h (by show ¬ (0 : Int) ≤ -1; decide)
  | n + 1, h => by
    rw [nAt] at h ⊢
    split
    · rename_i h1; exact nAt_is h1
    · rename_i h1
      rw [if_neg h1] at h
      split
      · rename_i h2; simpa using h2
      · rename_i h2; rw [if_neg h2] at h; exact absurd h (by decide)
/-- The corners of a deck are four nodes. -/
theorem crn_ne (hc : ScfOK s) {d : Nat} (hd : d < s.nM) (h6 : s.K d = 6) {j k : Nat} (hj : j < 4) (hk : k < 4) (h : crnD s d j = crnD s d k) : j = k := by
  have hr := hc.right d hd
  rw [h6] at hr
  obtain ⟨⟨_, hx, hy⟩, h1, h3⟩ := rgt6 hr
  have e1 := nAt_is (s := s) (n := s.nN) (of_decide_eq_true h1)
  have e3 := nAt_is (s := s) (n := s.nN) (of_decide_eq_true h3)
  have c0 : crnD s d 0 = s.A d := by unfold crnD crn; rfl
  have c1 : crnD s d 1 = nAt s s.nN (s.X (s.B d).toNat) (s.Y (s.A d).toNat) (s.Z (s.A d).toNat) := by unfold crnD crn; rfl
  have c2 : crnD s d 2 = s.B d := by unfold crnD crn; rfl
  have c3 : crnD s d 3 = nAt s s.nN (s.X (s.A d).toNat) (s.Y (s.B d).toNat) (s.Z (s.A d).toNat) := by unfold crnD crn; rfl
  have px : ∀ m, m < 4 → s.X (crnD s d m).toNat = (if m = 0 ∨ m = 3 then s.X (s.A d).toNat else s.X (s.B d).toNat) := fun m hm => by
    match m, hm with
    | 0, _ => rw [c0]; rfl
    | 1, _ => rw [c1]; exact e1.1
    | 2, _ => rw [c2]; rfl
    | 3, _ => rw [c3]; exact e3.1
  have py : ∀ m, m < 4 → s.Y (crnD s d m).toNat = (if m = 0 ∨ m = 1 then s.Y (s.A d).toNat else s.Y (s.B d).toNat) := fun m hm => by
    match m, hm with
    | 0, _ => rw [c0]; rfl
    | 1, _ => rw [c1]; exact e1.2.1
    | 2, _ => rw [c2]; rfl
    | 3, _ => rw [c3]; exact e3.2.1
  have x1 := px j hj
  have x2 := px k hk
  have y1 := py j hj
  have y2 := py k hk
  rw [h] at x1 y1
  rw [x1] at x2
  rw [y1] at y2
  split at x2 <;> split at x2 <;> split at y2 <;> split at y2 <;> omega
theorem smP_iff {a b c d : Int} : smP a b c d = true ↔ (a = c ∧ b = d) ∨ (a = d ∧ b = c) := by
  rw [smP, Bool.or_eq_true, Bool.and_eq_true, Bool.and_eq_true, decide_eq_true_eq, decide_eq_true_eq, decide_eq_true_eq, decide_eq_true_eq]
theorem key_iff {x y : Nat} : keyS s x = keyS s y ↔ smP (sdA s x) (sdB s x) (sdA s y) (sdB s y) = true := pair_eq
theorem sd_of {x : Nat} (hx : x < nSd s) : ∃ d k : Nat, d < s.nM ∧ s.K d = 6 ∧ k < 4 ∧ x = 4 * dkN s d + k ∧ sdD s x = d ∧ sdA s x = crnD s d k ∧ sdB s x = crnD s d ((k + 1) % 4) := by
  have hx' : x < 4 * dkN s s.nM := hx
  have hq : x / 4 < dkN s s.nM := by omega
  have key : ∀ n, x / 4 < dkN s n → dkI s n (x / 4) < n ∧ s.K (dkI s n (x / 4)) = 6 ∧ dkN s (dkI s n (x / 4)) = x / 4 := fun n => by
    induction n with
    | zero => intro h; exact absurd h (Nat.not_lt_zero _)
    | succ n ih =>
      intro h
      rw [dkN] at h
      rw [dkI]
      split
      · rename_i h1; exact ⟨Nat.lt_succ_self n, h1.1, h1.2⟩
      · rename_i h1
        have h2 : x / 4 < dkN s n := by
          split at h
          · rename_i h6
            have : dkN s n ≠ x / 4 := fun e => h1 ⟨h6, e⟩
            omega
          · omega
        obtain ⟨a, b, c⟩ := ih h2
        exact ⟨by omega, b, c⟩
  obtain ⟨a, b, c⟩ := key s.nM hq
  have h4 : x % 4 < 4 := Nat.mod_lt _ (by decide)
  have e : x = 4 * dkN s (dkI s s.nM (x / 4)) + x % 4 := by rw [c]; omega
  have h5 := crn_at b a h4
  rw [← e] at h5
  exact ⟨_, _, a, b, h4, e, h5.2.1, h5.2.2.1, h5.2.2.2⟩
theorem cnt_zero {l : List Int} : ∀ {n : Nat}, (∀ y, y < n → l ≠ keyS s y) → cntL s n l = 0
  | 0, _ => rfl
  | n + 1, h => by rw [cntL, cnt_zero (fun y hy => h y (by omega)), if_neg (h n (Nat.lt_succ_self n))]; rfl
theorem cnt_one {l : List Int} {x : Nat} (hx : l = keyS s x) : ∀ {n : Nat}, x < n → (∀ y, y < n → y ≠ x → l ≠ keyS s y) → cntL s n l = 1
  | n + 1, hn, h => by
    rw [cntL]
    by_cases e : n = x
    · rw [e, cnt_zero (fun y hy => h y (by omega) (by omega)), if_pos hx]; rfl
    · rw [cnt_one hx (by omega) (fun y hy => h y (by omega)), if_neg (h n (Nat.lt_succ_self n) e)]; rfl
theorem cnt_pos {l : List Int} {x : Nat} (hx : l = keyS s x) : ∀ {n : Nat}, x < n → 1 ≤ cntL s n l
  | n + 1, hn => by
    have := (cnt_bd s l n).1
    rw [cntL]
    by_cases e : n = x
    · rw [e] at this ⊢; rw [if_pos hx]; omega
    · have := cnt_pos hx (n := n) (by omega)
      split <;> omega
theorem cnt_two {l : List Int} {x y : Nat} (hx : l = keyS s x) (hy : l = keyS s y) (hxy : x < y) : ∀ {n : Nat}, y < n → 2 ≤ cntL s n l
  | n + 1, hn => by
    rw [cntL]
    by_cases e : n = y
    · have := cnt_pos hx (n := n) (by omega)
      rw [e] at this ⊢; rw [if_pos hy]; omega
    · have := cnt_two hx hy hxy (n := n) (by omega)
      split <;> omega
theorem sh_eq (hc : ScfOK s) {x : Nat} (hx : x < nSd s) : opnP s x = shP s x := by
  refine b_iff ?_
  rw [opnP, decide_eq_true_eq, shP, Bool.not_eq_true']
  constructor
  · intro h
    refine anyN_none fun y hy => ?_
    cases e : shQ s x y with
    | false => rfl
    | true =>
      rw [shQ, Bool.and_eq_true, decide_eq_true_eq] at e
      have hk := key_iff.2 e.2
      have hne : x ≠ y := fun h' => e.1 (by rw [h'])
      rcases Nat.lt_or_ge x y with h1 | h1
      · have := cnt_two (l := keyS s x) rfl hk h1 hy; omega
      · have := cnt_two (l := keyS s x) hk rfl (by omega) hx; omega
  · intro h
    refine cnt_one rfl hx fun y hy hyx hk => ?_
    have h2 := key_iff.1 hk
    obtain ⟨d, i, hd, h6, hi, ex, e1, e2, e3⟩ := sd_of hx
    obtain ⟨d', i', hd', h6', hi', ey, f1, f2, f3⟩ := sd_of hy
    by_cases e : sdD s y = sdD s x
    · rw [e1, f1] at e
      have e : d' = d := by exact_mod_cast e
      subst e
      rw [e2, e3, f2, f3, smP_iff] at h2
      have hi4 : (i + 1) % 4 < 4 := Nat.mod_lt _ (by decide)
      have hi4' : (i' + 1) % 4 < 4 := Nat.mod_lt _ (by decide)
      rcases h2 with h2 | h2
      · have := crn_ne hc hd h6 hi hi' h2.1; omega
      · have a1 := crn_ne hc hd h6 hi hi4' h2.1
        have a2 := crn_ne hc hd h6 hi4 hi' h2.2
        omega
    · have : anyN (shQ s x) (nSd s) = true := anyN_iff.2 ⟨y, hy, by rw [shQ, Bool.and_eq_true, decide_eq_true_eq]; exact ⟨e, h2⟩⟩
      rw [this] at h; cases h
theorem oN_eq (hc : ScfOK s) : oN s = rN s := flN_eq fun x hx => sh_eq hc hx
theorem oI_eq (hc : ScfOK s) : oI s = rI s := funext fun j => flI_eq (fun x hx => sh_eq hc hx) j
theorem smP_comm (a b c d : Int) : smP a b c d = smP c d a b := b_iff (by rw [smP_iff, smP_iff]; omega)
theorem kd_any (k x y : Int) : ∀ n, kdH s k n [mn x y, mx x y] = anyN (hsP s k x y) n
  | 0 => rfl
  | n + 1 => by
    rw [kdH, anyN, kd_any k x y n, hsP]
    congr 2
    refine b_iff ?_
    rw [decide_eq_true_eq, pair_eq, smP_comm]
theorem wl_any (A B : Nat → Int) (x y : Int) : ∀ n, wlH A B n [mn x y, mx x y] = anyN (wlQ A B x y) n
  | 0 => rfl
  | n + 1 => by
    rw [wlH, anyN, wl_any A B x y n]
    congr 1
    refine b_iff ?_
    rw [decide_eq_true_eq, pair_eq, wlQ]
theorem un_eq (n : Nat) (A B : Nat → Int) (x : Nat) : unQ s n A B x = unR s n A B x := by
  unfold unQ unR ptB
  rw [kd_any, kd_any, wl_any, Bool.not_or, Bool.and_comm]
end
theorem ed_eta (D A B : Nat → Int) : ([fun i => dI (if i < 0 then 0 else D (i - 0)), fun i => dI (if i < 0 then 0 else A (i - 0)), fun i => dI (if i < 0 then 0 else B (i - 0))] : List (Nat → DV)) = edC D A B := by
  simp only [Nat.not_lt_zero, if_false, Nat.sub_zero]
def sm1 (s : Scf) : Bool := sameN (frN s) (fun j => flI (frP s) s.nM j) (flN (frR s) s.nM) (fun j => flI (frR s) s.nM j)
def sm2 (s : Scf) : Bool := sameE (sdN s) (fun j => sdD s (oI s j)) (fun j => sdA s (oI s j)) (fun j => sdB s (oI s j)) (rN s) (fun j => sdD s (rI s j)) (fun j => sdA s (rI s j)) (fun j => sdB s (rI s j))
def sm3 (s : Scf) (n : Nat) (A B : Nat → Int) : Bool := sameE (unN s n A B) (fun j => sdD s (unI s n A B j)) (fun j => sdA s (unI s n A B j)) (fun j => sdB s (unI s n A B j)) (flN (unJ s n A B) (rN s)) (fun j => sdD s (rI s (flI (unJ s n A B) (rN s) j))) (fun j => sdA s (rI s (flI (unJ s n A B) (rN s) j))) (fun j => sdB s (rI s (flI (unJ s n A B) (rN s) j)))
abbrev oE (n : Nat) (D A B : Nat → Int) : Orc := .res fun _ => .lst n (edC D A B)
noncomputable def A6_frees_c (s : Scf) (n : Nat) (D A B : Nat → Int) : Ann := { orc := [(1, [(0, .res fun _ => dB true)]), (3, [(1, .res fun _ => dB (fewF s))]), (5, [(1, .res fun _ => frD s)]), (6, [(1, .res fun _ => .tup [.lst (sdN s) (opnD s (nSd s)), dI (chkE s)])]), (7, [(4, .res fun _ => unD s n A B)]), (8, [(1, .res fun _ => dI (chkE s))]), (11, [(13, .res fun _ => .lst (flN (frR s) s.nM) [fun j => dI (flI (frR s) s.nM j)]), (14, .res fun _ => dB (sm1 s)), (19, oE (rN s) (fun j => sdD s (rI s j)) (fun j => sdA s (rI s j)) (fun j => sdB s (rI s j))), (20, .res fun _ => dB (sm2 s)), (26, oE (flN (unJ s n A B) (rN s)) (fun j => sdD s (rI s (flI (unJ s n A B) (rN s) j))) (fun j => sdA s (rI s (flI (unJ s n A B) (rN s) j))) (fun j => sdB s (rI s (flI (unJ s n A B) (rN s) j)))), (27, .res fun _ => dB (sm3 s n A B))])], loops := [], cuts := [] }
noncomputable abbrev q_frees_c_0 (s : Scf) : Bool := decide (s.nN ≤ (40 : Nat) ∧ s.nM ≤ (120 : Nat))
noncomputable abbrev q_frees_c_1 (s : Scf) : Bool := if (chkE s == chkE s) = true then chkE s == chkE s else false
noncomputable abbrev q_frees_c_2 (s : Scf) : Bool := if (q_frees_c_1 s) = true then chkE s == chkE s else false
noncomputable abbrev q_frees_c_3 (s : Scf) : Bool := if (chkE s == (0 : Int)) = true then chkE s == (0 : Int) else false
noncomputable abbrev q_frees_c_4 (s : Scf) : Bool := if (q_frees_c_3 s) = true then chkE s == (0 : Int) else false
noncomputable abbrev q_frees_c_5 (s : Scf) : Bool := if (q_frees_c_4 s) = true then sm1 s else false
noncomputable abbrev q_frees_c_6 (s : Scf) : Bool := if (q_frees_c_5 s) = true then sm2 s else false
noncomputable abbrev q_frees_c_7 (s : Scf) : Bool := if (q_frees_c_2 s) = true then (↑(frN s) : Int) == (0 : Int) else false
noncomputable abbrev q_frees_c_8 (s : Scf) : Bool := if (q_frees_c_7 s) = true then (↑(sdN s) : Int) == (0 : Int) else false
noncomputable abbrev frees_cd0 (s : Scf) : DV := .agg [.lst s.nN [fun i => (dI (s.X i)), fun i => (dI (s.Y i)), fun i => (dI (s.Z i))], .lst s.nM [fun i => (dI (s.K i)), fun i => (dI (s.A i)), fun i => (dI (s.B i))]]
theorem frees_c (s : Scf) (n : Nat) (D A B : Nat → Int)  : FnC prog 6 [scfD s, edgD n D A B] (dB true) := by
  refine FnC_owed hmix (A6_frees_c s n D A B) (V := .need [FnC prog (15 : Nat) [] ((dB true))] (.ite (!true) (.done [false = true]) (.need [FnC prog (16 : Nat) [(frees_cd0 s)] ((dB ((q_frees_c_0 s)))), (!!(q_frees_c_0 s)) = true → (!!(q_frees_c_0 s)) = true, (!!(q_frees_c_0 s)) = true → (!!(q_frees_c_0 s)) = true, (!(q_frees_c_0 s)) = false → (!!(q_frees_c_0 s)) = true] (.ite (if (!(q_frees_c_0 s)) = true then true else decide ((↑n : Int) > (20 : Int))) (.done [true = true]) (.need [FnC prog (26 : Nat) [(frees_cd0 s)] (.tup [.lst (frN s) [fun j => (dI (↑(flI (frP s) s.nM j) : Int))], (dI (chkE s))])] (.need [FnC prog (33 : Nat) [(frees_cd0 s)] (.tup [.lst (sdN s) [fun j => (dI (sdD s (flI (opnP s) (nSd s) j))), fun j => (dI (sdA s (flI (opnP s) (nSd s) j))), fun j => (dI (sdB s (flI (opnP s) (nSd s) j)))], (dI (chkE s))])] (.need [(0 : Nat) ≤ (0 : Nat), ((0 : Nat) + n) * (nat_lit 23 + (1 : Nat)) ≤ (140737488355328 : Nat), (0 : Nat) + n ≤ (0 : Nat) + n, FnC prog (34 : Nat) [(frees_cd0 s), .lst ((0 : Nat) + n) [fun i => (dI (if decide (i < (0 : Nat)) = true then (0 : Int) else D (i - (0 : Nat)))), fun i => (dI (if decide (i < (0 : Nat)) = true then (0 : Int) else A (i - (0 : Nat)))), fun i => (dI (if decide (i < (0 : Nat)) = true then (0 : Int) else B (i - (0 : Nat))))]] (.tup [.lst (unN s n A B) [fun j => (dI (sdD s (unI s n A B j))), fun j => (dI (sdA s (unI s n A B j))), fun j => (dI (sdB s (unI s n A B j)))], (dI (chkE s))])] (.need [FnC prog (19 : Nat) [(frees_cd0 s)] ((dI (chkE s)))] (.ite (chkE s != (0 : Int)) (.need [(chkE s == chkE s) = true → (chkE s == chkE s) = true, (chkE s == chkE s) = true → (chkE s == chkE s) = true, (chkE s == chkE s) = true → (chkE s == chkE s) = true, (q_frees_c_1 s) = true → (q_frees_c_1 s) = true, (q_frees_c_1 s) = true → (q_frees_c_1 s) = true, (q_frees_c_1 s) = true → (q_frees_c_1 s) = true, (q_frees_c_2 s) = true → (q_frees_c_2 s) = true, (q_frees_c_2 s) = true → (q_frees_c_2 s) = true, (q_frees_c_2 s) = true → (q_frees_c_2 s) = true, (q_frees_c_7 s) = true → (q_frees_c_7 s) =
     true, (q_frees_c_7 s) = true → (q_frees_c_7 s) = true, (q_frees_c_7 s) = true → (q_frees_c_7 s) = true, (q_frees_c_8 s) = true → (q_frees_c_8 s) = true, (q_frees_c_8 s) = true → (q_frees_c_8 s) = true, (q_frees_c_8 s) = true → (q_frees_c_8 s) = true] (.done [(if (q_frees_c_8 s) = true then (↑(unN s n A B) : Int) == (0 : Int) else false) = true])) (.need [(chkE s == (0 : Int)) = true → (chkE s == (0 : Int)) = true, (chkE s == (0 : Int)) = true → (chkE s == (0 : Int)) = true, (q_frees_c_3 s) = true → (q_frees_c_3 s) = true, (q_frees_c_3 s) = true → (q_frees_c_3 s) = true, (q_frees_c_4 s) = true → (q_frees_c_4 s) = true, (q_frees_c_4 s) = true → FnC prog (35 : Nat) [(frees_cd0 s)] (.lst (flN (frR s) s.nM) [fun j => (dI (↑(flI (frR s) s.nM j) : Int))]), (q_frees_c_4 s) = true → (q_frees_c_4 s) = true, (q_frees_c_4 s) = true → (q_frees_c_4 s) = true, (q_frees_c_4 s) = true → FnC prog (20 : Nat) [.lst (frN s) [fun j => (dI (↑(flI (frP s) s.nM j) : Int))], .lst (flN (frR s) s.nM) [fun j => (dI (↑(flI (frR s) s.nM j) : Int))]] ((dB (sm1 s))), (q_frees_c_4 s) = true → (q_frees_c_4 s) = true, (q_frees_c_5 s) = true → (q_frees_c_5 s) = true, (q_frees_c_5 s) = true → FnC prog (37 : Nat) [(frees_cd0 s)] (.lst (rN s) [fun j => (dI (sdD s (rI s j))), fun j => (dI (sdA s (rI s j))), fun j => (dI (sdB s (rI s j)))]), (q_frees_c_5 s) = true → (q_frees_c_5 s) = true, (q_frees_c_5 s) = true → (q_frees_c_5 s) = true, (q_frees_c_5 s) = true → FnC prog (36 : Nat) [.lst (sdN s) [fun j => (dI (sdD s (flI (opnP s) (nSd s) j))), fun j => (dI (sdA s (flI (opnP s) (nSd s) j))), fun j => (dI (sdB s (flI (opnP s) (nSd s) j)))], .lst (rN s) [fun j => (dI (sdD s (rI s j))), fun j => (dI (sdA s (rI s j))), fun j => (dI (sdB s (rI s j)))]] ((dB (sm2 s))), (q_frees_c_5 s) = true → (q_frees_c_5 s) = true, (q_frees_c_6 s) = true → (q_frees_c_6 s) = true, (q_frees_c_6 s) = true → (q_frees_c_6 s) = true, (q_frees_c_6 s) = true → FnC prog (38 : Nat) [(frees_cd0 s), .lst n [fun i => (dI (D i)), fun i =>
     (dI (A i)), fun i => (dI (B i))]] (.lst (flN (unJ s n A B) (rN s)) [fun j => (dI (sdD s (rI s (flI (unJ s n A B) (rN s) j)))), fun j => (dI (sdA s (rI s (flI (unJ s n A B) (rN s) j)))), fun j => (dI (sdB s (rI s (flI (unJ s n A B) (rN s) j))))]), (q_frees_c_6 s) = true → (q_frees_c_6 s) = true, (q_frees_c_6 s) = true → (q_frees_c_6 s) = true, (q_frees_c_6 s) = true → FnC prog (36 : Nat) [.lst (unN s n A B) [fun j => (dI (sdD s (unI s n A B j))), fun j => (dI (sdA s (unI s n A B j))), fun j => (dI (sdB s (unI s n A B j)))], .lst (flN (unJ s n A B) (rN s)) [fun j => (dI (sdD s (rI s (flI (unJ s n A B) (rN s) j)))), fun j => (dI (sdA s (rI s (flI (unJ s n A B) (rN s) j)))), fun j => (dI (sdB s (rI s (flI (unJ s n A B) (rN s) j))))]] ((dB (sm3 s n A B))), (q_frees_c_6 s) = true → (q_frees_c_6 s) = true] (.done [(if (q_frees_c_6 s) = true then sm3 s n A B else false) = true]))))))))))) (by kernel_rfl) ?_
  simp only [q_frees_c_0, q_frees_c_1, q_frees_c_2, q_frees_c_3, q_frees_c_4, q_frees_c_5, q_frees_c_6, q_frees_c_7, q_frees_c_8, VT.holds, AllT, imp_self, implies_true, and_true, true_and, toNat_succ, toNat_add2, toNat_zero', Int.toNat_natCast, Bool.if_true_left, Bool.if_false_right, Bool.decide_eq_true, Bool.or_eq_true, Bool.or_eq_false_iff, Bool.and_eq_true, Bool.and_eq_false_imp, Bool.not_eq_true', Bool.not_eq_false', Bool.not_not, bne_iff_ne, bne_eq_false_iff_eq, beq_iff_eq, beq_eq_false_iff_ne, decide_eq_true_eq, decide_eq_false_iff_not, ne_eq]
  refine ⟨awake_c, fun h => (by cases h), fun _ => ⟨few_c s, fun ⟨h1, h2⟩ => ?_⟩⟩
  have h1 : s.nN ≤ 40 ∧ s.nM ≤ 120 := Decidable.not_not.1 h1
  have hu : FnC prog 34 [scfD s, DV.lst (0 + n) [fun i => dI (if i < 0 then 0 else D (i - 0)), fun i => dI (if i < 0 then 0 else A (i - 0)), fun i => dI (if i < 0 then 0 else B (i - 0))]] (unD s n A B) := by
    rw [ed_eta, Nat.zero_add]; exact Unprotected_c s n D A B (by omega)
  refine ⟨Free_c s, Sides_c s, ⟨Nat.le_refl _, by omega, Nat.le_refl _, hu⟩, check_c s, fun h => ⟨⟨by rw [frN, if_neg h]; rfl, by rw [sdN, if_neg h]; rfl⟩, by rw [unN, if_neg h]; rfl⟩, fun h0 => ?_⟩
  have hc := chk_facts h0
  have hm := hc.nM
  have hS : nSd s ≤ 16000 := by have := dkN_le s s.nM; show 4 * dkN s s.nM ≤ 16000; omega
  have b1 := flN_le (frP s) s.nM
  have e1 : frN s = flN (frP s) s.nM := by rw [frN, if_pos h0]
  have e2 : sdN s = oN s := by rw [sdN, if_pos h0]; rfl
  have b2 : oN s ≤ nSd s := flN_le _ _
  have e3 : unN s n A B = flN (fun j => unQ s n A B (oI s j)) (oN s) := by rw [unN, if_pos h0]
  have b3 := flN_le (fun j => unQ s n A B (oI s j)) (oN s)
  have eq3 : (fun j => unQ s n A B (oI s j)) = unJ s n A B := funext fun j => by
    rw [un_eq, oI_eq hc]; rfl
  have s1 : sm1 s = true := decide_eq_true ⟨by rw [e1]; exact flN_eq fun i hi => fr_eq hc hi, fun j _ => congrArg Int.ofNat (flI_eq (p := frP s) (q := frR s) (fun i hi => fr_eq hc hi) j)⟩
  have s2 : sm2 s = true := decide_eq_true ⟨by rw [e2]; exact oN_eq hc, fun j _ => by rw [oI_eq hc]; exact ⟨rfl, rfl, rfl⟩⟩
  have s3 : sm3 s n A B = true := decide_eq_true ⟨by rw [e3, eq3, oN_eq hc], fun j _ => by
    have : unI s n A B j = rI s (flI (unJ s n A B) (rN s) j) := by unfold unI; rw [eq3, oN_eq hc, oI_eq hc]
    dsimp only
    rw [this]; exact ⟨rfl, rfl, rfl⟩⟩
  exact ⟨⟨fun _ => freeR_c s hc, fun _ => ints_c _ _ _ _ (by omega), fun _ => sidesR_c s hc, fun _ => edges_c _ _ _ _ _ _ _ _ (by omega), fun _ => unprotR_c s n D A B hc (by omega), fun _ => edges_c _ _ _ _ _ _ _ _ (by omega)⟩, ⟨⟨⟨⟨h0, h0⟩, h0⟩, s1⟩, s2⟩, s3⟩
end Go.Abs
