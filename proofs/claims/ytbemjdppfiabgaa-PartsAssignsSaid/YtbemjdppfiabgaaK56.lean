/- Contracts. -/
import Derived.Test.YtbemjdppfiabgaaK55
set_option linter.unusedVariables false
set_option linter.unusedSimpArgs false
set_option maxRecDepth 100000
namespace Go.Abs
open Go
theorem sq_swap2 (p q : Int) : (p - q) * (p - q) = (q - p) * (q - p) := by
  have e : p - q = -(q - p) := by omega
  rw [e, Int.neg_mul_neg]
/-- The reference's first parts that fit. -/
def asM (c : Cat) (s : Scf) : Nat := if asG c s s.nM = true then s.nM else 0
theorem fl_ix {p : Nat → Bool} {n : Nat} (h : flN p n ≠ 0) : ixF p n = (flI p n 0 : Int) ∧ 0 ≤ ixF p n := by
  obtain ⟨h1, h2⟩ := flI_in (p := p) (n := n) (j := 0) (by omega)
  have h3 : 0 ≤ ixF p n := ix_ex.2 ⟨_, h1, h2⟩
  obtain ⟨i, e, hi, hp, hb⟩ := ixF_is (p := p) (n := n) (by omega)
  have h4 : flN p i = 0 := by
    have : ∀ k, k ≤ i → flN p k = 0 := fun k => by
      induction k with
      | zero => exact fun _ => rfl
      | succ k ih => exact fun hk => by rw [flN_no (by rw [hb k (by omega)]; decide), ih (by omega)]
    exact this i (Nat.le_refl _)
  have h5 := (flI_at hp hi).2
  rw [h4] at h5
  exact ⟨by rw [e, h5], h3⟩
theorem fl_no {p : Nat → Bool} {n : Nat} (h : flN p n = 0) : ixF p n < 0 := by
  refine Int.not_le.1 fun h1 => ?_
  obtain ⟨j, hj, hp⟩ := ix_ex.1 h1
  have := (flI_at hp hj).1
  omega
theorem has_iff {s : Scf} {m : Nat} {i : Nat} : hasN (fun j => endX s (s.K m) (s.A m) (s.B m) j) i (endN (s.K m) (s.A m) (s.B m)) = true ↔ ∃ k, k < jmN s m ∧ jmX s m k = i := hasN_iff
theorem ap1 {L M : List Int} {x : Int} (h : M = L ++ [x]) : L.length + 1 = M.length ∧ ∀ q, q < M.length → (if q < L.length then L.getD q 0 else x) = M.getD q 0 := by
  subst h
  exact ⟨by rw [List.length_append, List.length_singleton], fun q hq => (getD_ap1 hq).symm⟩
theorem ap0 {L M : List Int} (h : M = L) : L.length = M.length ∧ ∀ q, q < M.length → L.getD q 0 = M.getD q 0 := by
  subst h
  exact ⟨rfl, fun _ _ => rfl⟩
theorem up_ok {c : Cat} {s : Scf} {l : Nat → Int} {m i : Nat} (h : s.K m = 0) (hB : s.B m = i) : upL c s l (m + 1) i = upL c s l m i ++ [c.E1 (l m).toNat] := by rw [upL, if_pos ⟨h, hB⟩]
theorem up_no {c : Cat} {s : Scf} {l : Nat → Int} {m i : Nat} (h : ¬ (s.K m = 0 ∧ s.B m = i)) : upL c s l (m + 1) i = upL c s l m i := by rw [upL, if_neg h]
theorem lw_ok {c : Cat} {s : Scf} {l : Nat → Int} {m i : Nat} (h : s.K m = 0) (hA : s.A m = i) : lwL c s l (m + 1) i = lwL c s l m i ++ [c.E0 (l m).toNat] := by rw [lwL, if_pos ⟨h, hA⟩]
theorem lw_no {c : Cat} {s : Scf} {l : Nat → Int} {m i : Nat} (h : ¬ (s.K m = 0 ∧ s.A m = i)) : lwL c s l (m + 1) i = lwL c s l m i := by rw [lwL, if_neg h]
theorem nd_bad {c : Cat} {s : Scf} {l : Nat → Int} {i : Nat} (h : ¬ (okU c s l i ∧ ∀ m, m < s.nM → okM c s l i m)) : false = !ndB c s l i := by
  cases e : ndB c s l i with
  | false => exact absurd (nd_iff.1 e) h
  | true => rfl
theorem nd_ok {c : Cat} {s : Scf} {l : Nat → Int} {i : Nat} (h : okU c s l i ∧ ∀ m, m < s.nM → okM c s l i m) : true = !ndB c s l i := by
  rw [nd_iff.2 h]; rfl
noncomputable def A32_squareR2_c (s : Scf) (k a b : Int) : Ann := { orc := [], loops := [], cuts := [] }
theorem squareR2_c (s : Scf) (k a b : Int) (ha : 0 ≤ a ∧ a < s.nN) (hb : 0 ≤ b ∧ b < s.nN) (hc : ScfOK s) : FnC prog 32 [scfD s, dM k a b] (dI (sqr s a b)) := by
  refine FnC_owed hmix (A32_squareR2_c s k a b) (V := .need [(0:Int) ≤ a ∧ a < (s.nN:Int), (0:Int) ≤ b ∧ b < (s.nN:Int)] (.need [i64In (s.X a.toNat - s.X b.toNat), i64In (s.X a.toNat - s.X b.toNat), i64In ((s.X a.toNat - s.X b.toNat) * (s.X a.toNat - s.X b.toNat)), i64In (s.Y a.toNat - s.Y b.toNat), i64In (s.Y a.toNat - s.Y b.toNat), i64In ((s.Y a.toNat - s.Y b.toNat) * (s.Y a.toNat - s.Y b.toNat)), i64In ((s.X a.toNat - s.X b.toNat) * (s.X a.toNat - s.X b.toNat) + (s.Y a.toNat - s.Y b.toNat) * (s.Y a.toNat - s.Y b.toNat)), i64In (s.Z a.toNat - s.Z b.toNat), i64In (s.Z a.toNat - s.Z b.toNat), i64In ((s.Z a.toNat - s.Z b.toNat) * (s.Z a.toNat - s.Z b.toNat)), i64In ((s.X a.toNat - s.X b.toNat) * (s.X a.toNat - s.X b.toNat) + (s.Y a.toNat - s.Y b.toNat) * (s.Y a.toNat - s.Y b.toNat) + (s.Z a.toNat - s.Z b.toNat) * (s.Z a.toNat - s.Z b.toNat))] (.done [(s.X a.toNat - s.X b.toNat) * (s.X a.toNat - s.X b.toNat) + (s.Y a.toNat - s.Y b.toNat) * (s.Y a.toNat - s.Y b.toNat) + (s.Z a.toNat - s.Z b.toNat) * (s.Z a.toNat - s.Z b.toNat) = sqr s a b]))) (by kernel_rfl) ?_
  simp only [VT.holds, AllT, Sq]
  have ea : a.toNat < s.nN := by omega
  have eb : b.toNat < s.nN := by omega
  obtain ⟨⟨x1, y1, z1⟩, _⟩ := hc.node _ ea
  obtain ⟨⟨x2, y2, z2⟩, _⟩ := hc.node _ eb
  have x1 := inC_bd x1
  have y1 := inC_bd y1
  have z1 := inC_bd z1
  have x2 := inC_bd x2
  have y2 := inC_bd y2
  have z2 := inC_bd z2
  have hx := sq_bd x1 x2
  have hy := sq_bd y1 y2
  have hz := sq_bd z1 z2
  refine ⟨⟨ha, hb⟩, ⟨by unfold i64In; omega, by unfold i64In; omega, by unfold i64In; omega, by unfold i64In; omega, by unfold i64In; omega, by unfold i64In; omega, by unfold i64In; omega, by unfold i64In; omega, by unfold i64In; omega, by unfold i64In; omega, by unfold i64In; omega⟩, ?_⟩
  rw [sqr, sq_swap2 (s.X a.toNat), sq_swap2 (s.Y a.toNat), sq_swap2 (s.Z a.toNat)]
noncomputable def A58_assignR_c (c : Cat) (s : Scf) : Ann := { orc := [(5, [(13, .res fun q => dI (sqr s (fI 1 (arg q 1)) (fI 2 (arg q 1)))), (14, .res fun q => .lst (flN (ftP c (aI q 1) (aI q 2)) c.n) [fun j => dI (flI (ftP c (aI q 1) (aI q 2)) c.n j)])])], loops := [(0, { ι := Nat, keep := [2, 3], boxes := [2, 3], ts := fun _ i => [(7, dI (i : Int))], rw := fun _ i => [(6, 1, i, [fun j => dI (asX c s j)])], inv := fun _ i => i ≤ s.nM ∧ asG c s i = true, mu := fun _ i => s.nM - i, rd := fun _ σ => (iOf (σ.get 7)).toNat })], cuts := [] }
noncomputable abbrev assignR_cr0 (c : Cat) (s : Scf) (r : List Prop) : List Prop := (c.n = c.n) :: (∀ (i : Nat), i < c.n → c.nm i = c.nm i) :: (∀ (i : Nat), i < c.n → c.K i = c.K i) :: (∀ (i : Nat), i < c.n → c.Q i = c.Q i) :: (∀ (i : Nat), i < c.n → c.M i = c.M i) :: (∀ (i : Nat), i < c.n → c.T i = c.T i) :: (∀ (i : Nat), i < c.n → c.E0 i = c.E0 i) :: (∀ (i : Nat), i < c.n → c.E1 i = c.E1 i) :: (c.m = c.m) :: (∀ (i : Nat), i < c.m → c.P0 i = c.P0 i) :: (∀ (i : Nat), i < c.m → c.P1 i = c.P1 i) :: (s.nN = s.nN) :: (∀ (i : Nat), i < s.nN → s.X i = s.X i) :: (∀ (i : Nat), i < s.nN → s.Y i = s.Y i) :: (∀ (i : Nat), i < s.nN → s.Z i = s.Z i) :: (s.nM = s.nM) :: (∀ (i : Nat), i < s.nM → s.K i = s.K i) :: (∀ (i : Nat), i < s.nM → s.A i = s.A i) :: (∀ (i : Nat), i < s.nM → s.B i = s.B i) :: r
theorem assignR_c (c : Cat) (s : Scf) (hc : ScfOK s) (hn : c.n ≤ 1000000) : FnC prog 58 [catD c, scfD s] (.tup [.lst (asM c s) [fun i => dI (asX c s i)], dB (asG c s s.nM)]) := by
  refine FnC_owed hmix (A58_assignR_c c s) (V := .loop Nat (fun a => a ≤ s.nM ∧ asG c s a = true) (0:Int).toNat (((0:Int) = (↑(0:Int).toNat : Int)) :: (((0:Nat) = 0) :: ((Int.toNat (0:Int) = 0) :: ((Int.toNat (0:Int) = 0) :: (assignR_cr0 c s []))))) fun i => .ite (decide ((i:Int) < (s.nM:Int))) (.need [(0:Int) ≤ (i:Int) ∧ (i:Int) < (s.nM:Int), (0:Int) ≤ (i:Int) ∧ (i:Int) < (s.nM:Int), FnC prog 32 [.agg [.lst s.nN [fun i => (dI (s.X i)), fun i => (dI (s.Y i)), fun i => (dI (s.Z i))], .lst s.nM [fun i => (dI (s.K i)), fun i => (dI (s.A i)), fun i => (dI (s.B i))]], .val (.agg (Array.mk [.int .i64 (s.K (i:Int).toNat), .int .i64 (s.A (i:Int).toNat), .int .i64 (s.B (i:Int).toNat)]))] ((dI (sqr s (s.A (i:Int).toNat) (s.B (i:Int).toNat)))), FnC prog 52 [.agg [.lst c.n [fun i => .val (.string (c.nm i)), fun i => (dI (c.K i)), fun i => (dI (c.Q i)), fun i => (dI (c.M i)), fun i => (dI (c.T i)), fun i => (dI (c.E0 i)), fun i => (dI (c.E1 i))], .lst c.m [fun i => (dI (c.P0 i)), fun i => (dI (c.P1 i))]], (dI (s.K (i:Int).toNat)), (dI (sqr s (s.A (i:Int).toNat) (s.B (i:Int).toNat)))] (.lst (flN (ftP c (s.K (i:Int).toNat) (sqr s (s.A (i:Int).toNat) (s.B (i:Int).toNat))) c.n) [fun j => (dI (↑(flI (ftP c (s.K (i:Int).toNat) (sqr s (s.A (i:Int).toNat) (s.B (i:Int).toNat))) c.n j) : Int))])] (.ite ((↑(flN (ftP c (s.K (i:Int).toNat) (sqr s (s.A (i:Int).toNat) (s.B (i:Int).toNat))) c.n) : Int) == 0) (.done [asM c s = 0, false = asG c s s.nM]) (.need [(0:Int) ≤ 0 ∧ (0:Int) < (↑(flN (ftP c (s.K (i:Int).toNat) (sqr s (s.A (i:Int).toNat) (s.B (i:Int).toNat))) c.n) : Int), i ≤ i, (i + 1) * (nat_lit 7 + 1) ≤ 140737488355328, (1:Nat) ≤ 1] (.need [i64In ((i:Int) + 1)] (.done (((i:Int) + 1 =
     (↑((i:Int) + 1).toNat : Int)) :: (((0:Nat) = 0) :: ((i + 1 = ((i:Int) + 1).toNat) :: ((i + 1 = ((i:Int) + 1).toNat) :: ((∀ i_1 < ((i:Int) + 1).toNat, (if decide (i_1 < i) = true then asX c s i_1 else (↑(flI (ftP c (s.K (i:Int).toNat) (sqr s (s.A (i:Int).toNat) (s.B (i:Int).toNat))) c.n (0:Int).toNat) : Int)) = asX c s i_1) :: (assignR_cr0 c s [Int.toNat ((i:Int) + 1) ≤ s.nM ∧ asG c s ((i:Int) + 1).toNat = true, s.nM - ((i:Int) + 1).toNat < s.nM - i]))))))))))) (.done [i ≤ i, i = asM c s, ∀ i < asM c s, asX c s i = asX c s i, true = asG c s s.nM])) (by kernel_rfl) ?_
  simp only [VT.holds, AllT, assignR_cr0, Sq]
  refine ⟨rfl, ⟨Nat.zero_le _, rfl⟩, fun i ⟨hi, hg⟩ => ⟨fun hlt => ?_, fun hge => ?_⟩⟩
  · have hlt : i < s.nM := by omega
    obtain ⟨hA, hB⟩ := hc.ends i hlt
    have hm := hc.nM
    refine ⟨⟨by omega, by omega, squareR2_c s _ _ _ hA hB hc, fittingR_c c _ _ hn⟩, fun h => ?_, fun h => ?_⟩
    · have h9 : asG c s s.nM = false := asG_no (i := i) (fl_no (by omega)) hlt
      exact ⟨by rw [asM, h9, if_neg (by decide)], h9.symm⟩
    · obtain ⟨f1, f2⟩ := fl_ix (p := ftP c (s.K i) (sqr s (s.A i) (s.B i))) (n := c.n) (by omega)
      have f3 : asX c s i = (flI (ftP c (s.K i) (sqr s (s.A i) (s.B i))) c.n 0 : Int) := f1
      refine ⟨⟨by omega, Nat.le_refl _, by omega, Nat.le_refl _⟩, by unfold i64In; omega, by omega, fun j hj => ?_, ⟨by omega, by rw [asG, hg]; exact decide_eq_true (by show 0 ≤ ixF _ _; omega)⟩, by omega⟩
      split
      · rfl
      · obtain rfl : j = i := by omega
        exact f3.symm
  · obtain rfl : i = s.nM := by omega
    exact ⟨Nat.le_refl _, by rw [asM, if_pos hg], hg.symm⟩
noncomputable def A59_checkParts_c (c : Cat) (s : Scf) (n : Nat) (l : Nat → Int) : Ann := { orc := [(6, [(8, .res fun q => dB (decide (aI q 1 ≤ aI q 0 ∧ aI q 0 ≤ aI q 2)))])], loops := [(0, { ι := Nat, keep := [2, 3, 4], boxes := [3, 4], ts := fun _ i => [(7, dI (i : Int))], inv := fun _ i => i ≤ n ∧ ∀ j, j < i → cpE c s l j = 0, mu := fun _ i => n - i, rd := fun _ σ => (iOf (σ.get 7)).toNat })], cuts := [] }
noncomputable abbrev checkParts_cr0 (c : Cat) (s : Scf) (n : Nat) (l : Nat → Int) (r : List Prop) : List Prop := (n = n) :: (∀ (i : Nat), i < n → l i = l i) :: (c.n = c.n) :: (∀ (i : Nat), i < c.n → c.nm i = c.nm i) :: (∀ (i : Nat), i < c.n → c.K i = c.K i) :: (∀ (i : Nat), i < c.n → c.Q i = c.Q i) :: (∀ (i : Nat), i < c.n → c.M i = c.M i) :: (∀ (i : Nat), i < c.n → c.T i = c.T i) :: (∀ (i : Nat), i < c.n → c.E0 i = c.E0 i) :: (∀ (i : Nat), i < c.n → c.E1 i = c.E1 i) :: (c.m = c.m) :: (∀ (i : Nat), i < c.m → c.P0 i = c.P0 i) :: (∀ (i : Nat), i < c.m → c.P1 i = c.P1 i) :: (s.nN = s.nN) :: (∀ (i : Nat), i < s.nN → s.X i = s.X i) :: (∀ (i : Nat), i < s.nN → s.Y i = s.Y i) :: (∀ (i : Nat), i < s.nN → s.Z i = s.Z i) :: (s.nM = s.nM) :: (∀ (i : Nat), i < s.nM → s.K i = s.K i) :: (∀ (i : Nat), i < s.nM → s.A i = s.A i) :: (∀ (i : Nat), i < s.nM → s.B i = s.B i) :: r
theorem checkParts_c (c : Cat) (s : Scf) (n : Nat) (l : Nat → Int) (hn : n ≤ 1000000) (hcn : c.n ≤ 1000000) : FnC prog 59 [catD c, scfD s, lsI n l] (dI (jcE c s n l)) := by
  refine FnC_owed hmix (A59_checkParts_c c s n l) (V := .ite ((n:Int) != (s.nM:Int)) (.done [(11:Int) = jcE c s n l]) (.loop Nat (fun a => a ≤ n ∧ ∀ (j : Nat), j < a → cpE c s l j = 0) (0:Int).toNat (((0:Int) = (↑(0:Int).toNat : Int)) :: (checkParts_cr0 c s n l [])) fun i => .ite (decide ((i:Int) < (n:Int))) (.need [(0:Int) ≤ (i:Int) ∧ (i:Int) < (n:Int), i64In ((c.n:Int) - 1), FnC prog 24 [(dI (l (i:Int).toNat)), (dI (0:Int)), (dI ((c.n:Int) - 1))] ((dB (decide ((0:Int) ≤ l (i:Int).toNat ∧ l (i:Int).toNat ≤ (c.n:Int) - 1))))] (.ite (!decide ((0:Int) ≤ l (i:Int).toNat ∧ l (i:Int).toNat ≤ (c.n:Int) - 1)) (.done [(6:Int) = jcE c s n l]) (.need [(0:Int) ≤ (i:Int) ∧ (i:Int) < (n:Int), (0:Int) ≤ l (i:Int).toNat ∧ l (i:Int).toNat < (c.n:Int), (0:Int) ≤ (i:Int) ∧ (i:Int) < (s.nM:Int)] (.ite (c.K (l (i:Int).toNat).toNat != s.K (i:Int).toNat) (.done [(3:Int) = jcE c s n l]) (.need [i64In ((i:Int) + 1)] (.done (((i:Int) + 1 = (↑((i:Int) + 1).toNat : Int)) :: (checkParts_cr0 c s n l [Int.toNat ((i:Int) + 1) ≤ n ∧ ∀ (j : Nat), j < ((i:Int) + 1).toNat → cpE c s l j = 0, n - ((i:Int) + 1).toNat < n - i])))))))) (.done [(0:Int) = jcE c s n l]))) (by kernel_rfl) ?_
  simp only [VT.holds, AllT, checkParts_cr0, Sq]
  refine ⟨fun h => by rw [jcE, if_pos (by omega)], fun h => ?_⟩
  obtain rfl : n = s.nM := by omega
  refine ⟨rfl, ⟨Nat.zero_le _, fun j hj => absurd hj (Nat.not_lt_zero j)⟩, fun i ⟨hi, hb⟩ => ⟨fun hlt => ⟨⟨by omega, by unfold i64In; omega, within3_c _ _ _⟩, fun h => ?_, fun h => ⟨⟨by omega, by omega, by omega⟩, fun h2 => ?_, fun h2 => ⟨by unfold i64In; omega, by omega, ⟨by omega, fun j hj => ?_⟩, by omega⟩⟩⟩, fun hge => ?_⟩⟩
  · have e : cpE c s l i = 6 := by rw [cpE, if_pos (by omega)]
    rw [jcE, if_neg (fun h => h rfl), firstE_at hb (by rw [e]; decide) (by omega), e]
  · have e : cpE c s l i = 3 := by rw [cpE, if_neg (by omega), if_pos h2]
    rw [jcE, if_neg (fun h => h rfl), firstE_at hb (by rw [e]; decide) (by omega), e]
  · rcases Nat.lt_or_ge j i with h9 | h9
    · exact hb j h9
    · obtain rfl : j = i := by omega
      rw [cpE, if_neg (by omega), if_neg (fun h => h h2)]
  · obtain rfl : i = s.nM := by omega
    rw [jcE, if_neg (fun h => h rfl), firstE_none hb]
noncomputable def A144_hosts_c (c : Cat) (s : Scf) (n : Nat) (l : Nat → Int) (i : Nat) : Ann := { orc := [], loops := [(0, { ι := Nat, keep := [2, 3, 4, 5], boxes := [4, 5], ts := fun _ m => [(12, dI (m : Int))], rw := fun _ m => [(10, 1, (upL c s l m i).length, [fun q => dI ((upL c s l m i).getD q 0)]), (11, 1, (lwL c s l m i).length, [fun q => dI ((lwL c s l m i).getD q 0)])], inv := fun _ m => m ≤ s.nM, mu := fun _ m => s.nM - m, rd := fun _ σ => (iOf (σ.get 12)).toNat })], cuts := [] }
noncomputable abbrev hosts_cr0 (c : Cat) (s : Scf) (i : Nat) (r : List Prop) : List Prop := (c.n = c.n) :: (∀ (i : Nat), i < c.n → c.nm i = c.nm i) :: (∀ (i : Nat), i < c.n → c.K i = c.K i) :: (∀ (i : Nat), i < c.n → c.Q i = c.Q i) :: (∀ (i : Nat), i < c.n → c.M i = c.M i) :: (∀ (i : Nat), i < c.n → c.T i = c.T i) :: (∀ (i : Nat), i < c.n → c.E0 i = c.E0 i) :: (∀ (i : Nat), i < c.n → c.E1 i = c.E1 i) :: (c.m = c.m) :: (∀ (i : Nat), i < c.m → c.P0 i = c.P0 i) :: (∀ (i : Nat), i < c.m → c.P1 i = c.P1 i) :: (s.nN = s.nN) :: (∀ (i : Nat), i < s.nN → s.X i = s.X i) :: (∀ (i : Nat), i < s.nN → s.Y i = s.Y i) :: (∀ (i : Nat), i < s.nN → s.Z i = s.Z i) :: (s.nM = s.nM) :: (∀ (i : Nat), i < s.nM → s.K i = s.K i) :: (∀ (i : Nat), i < s.nM → s.A i = s.A i) :: (∀ (i : Nat), i < s.nM → s.B i = s.B i) :: r
theorem hosts_c (c : Cat) (s : Scf) (n : Nat) (l : Nat → Int) (i : Nat) (hm : s.nM ≤ 4000) (hn : s.nM ≤ n) (hl : ∀ m, m < s.nM → 0 ≤ l m ∧ l m < c.n) : FnC prog 144 [catD c, scfD s, lsI n l, dI (i : Int)] (.tup [.lst (upN c s l i) [fun q => dI (upX c s l i q)], .lst (lwN c s l i) [fun q => dI (lwX c s l i q)]]) := by
  refine FnC_owed hmix (A144_hosts_c c s n l i) (V := .loop Nat (fun a => a ≤ s.nM) (0:Int).toNat (((0:Int) = (↑(0:Int).toNat : Int)) :: (((0:Nat) = 0) :: ((nat_lit 0 = 0) :: (((0:Nat) = 0) :: ((nat_lit 0 = 0) :: ((n = n) :: ((∀ i < n, l i = l i) :: (((i:Int) = (i:Int)) :: ((nat_lit 0 = 0) :: ((nat_lit 0 = 0) :: (hosts_cr0 c s i []))))))))))) fun i_1 => .ite (decide ((i_1:Int) < (s.nM:Int))) (.need [(0:Int) ≤ (i_1:Int) ∧ (i_1:Int) < (s.nM:Int)] (.ite (s.K (i_1:Int).toNat != 0) (.need [i64In ((i_1:Int) + 1)] (.done (((i_1:Int) + 1 = (↑((i_1:Int) + 1).toNat : Int)) :: (((0:Nat) = 0) :: ((List.length (upL c s l i_1 i) = List.length (upL c s l ((i_1:Int) + 1).toNat i)) :: (((0:Nat) = 0) :: ((List.length (lwL c s l i_1 i) = List.length (lwL c s l ((i_1:Int) + 1).toNat i)) :: ((n = n) :: ((∀ i < n, l i = l i) :: (((i:Int) = (i:Int)) :: ((List.length (upL c s l i_1 i) = List.length (upL c s l ((i_1:Int) + 1).toNat i)) :: ((∀ i_2 < List.length (upL c s l ((i_1:Int) + 1).toNat i), List.getD (upL c s l i_1 i) i_2 (0:Int) = List.getD (upL c s l ((i_1:Int) + 1).toNat i) i_2 (0:Int)) :: ((List.length (lwL c s l i_1 i) = List.length (lwL c s l ((i_1:Int) + 1).toNat i)) :: ((∀ i_2 < List.length (lwL c s l ((i_1:Int) + 1).toNat i), List.getD (lwL c s l i_1 i) i_2 (0:Int) = List.getD (lwL c s l ((i_1:Int) + 1).toNat i) i_2 (0:Int)) :: (hosts_cr0 c s i [Int.toNat ((i_1:Int) + 1) ≤ s.nM, s.nM - ((i_1:Int) + 1).toNat < s.nM - i_1]))))))))))))))) (.ite (s.B (i_1:Int).toNat == (i:Int)) (.need [(0:Int) ≤ (i_1:Int) ∧ (i_1:Int) < (n:Int), (0:Int) ≤ l (i_1:Int).toNat ∧ l (i_1:Int).toNat < (c.n:Int), (0:Int) ≤
     (1:Int) ∧ (1:Int) < (↑(2:Nat) : Int), List.length (upL c s l i_1 i) ≤ List.length (upL c s l i_1 i), (List.length (upL c s l i_1 i) + 1) * (nat_lit 7 + 1) ≤ 140737488355328, (1:Nat) ≤ 1] (.ite (s.A (i_1:Int).toNat == (i:Int)) (.need [(0:Int) ≤ (i_1:Int) ∧ (i_1:Int) < (n:Int), (0:Int) ≤ l (i_1:Int).toNat ∧ l (i_1:Int).toNat < (c.n:Int), (0:Int) ≤ 0 ∧ (0:Int) < (↑(2:Nat) : Int), List.length (lwL c s l i_1 i) ≤ List.length (lwL c s l i_1 i), (List.length (lwL c s l i_1 i) + 1) * (nat_lit 7 + 1) ≤ 140737488355328, (1:Nat) ≤ 1] (.need [i64In ((i_1:Int) + 1)] (.done (((i_1:Int) + 1 = (↑((i_1:Int) + 1).toNat : Int)) :: (((0:Nat) = 0) :: ((List.length (upL c s l i_1 i) + 1 = List.length (upL c s l ((i_1:Int) + 1).toNat i)) :: (((0:Nat) = 0) :: ((List.length (lwL c s l i_1 i) + 1 = List.length (lwL c s l ((i_1:Int) + 1).toNat i)) :: ((n = n) :: ((∀ i < n, l i = l i) :: (((i:Int) = (i:Int)) :: ((List.length (upL c s l i_1 i) + 1 = List.length (upL c s l ((i_1:Int) + 1).toNat i)) :: ((∀ i_2 < List.length (upL c s l ((i_1:Int) + 1).toNat i), (if decide (i_2 < List.length (upL c s l i_1 i)) = true then List.getD (upL c s l i_1 i) i_2 (0:Int) else List.getD [c.E0 (l (i_1:Int).toNat).toNat, c.E1 (l (i_1:Int).toNat).toNat] (1:Int).toNat (0:Int)) = List.getD (upL c s l ((i_1:Int) + 1).toNat i) i_2 (0:Int)) :: ((List.length (lwL c s l i_1 i) + 1 = List.length (lwL c s l ((i_1:Int) + 1).toNat i)) :: ((∀ i_2 < List.length (lwL c s l ((i_1:Int) + 1).toNat i), (if decide (i_2 < List.length (lwL c s l i_1 i)) = true then List.getD (lwL c s l i_1 i) i_2 (0:Int)
     else List.getD [c.E0 (l (i_1:Int).toNat).toNat, c.E1 (l (i_1:Int).toNat).toNat] (0:Int).toNat (0:Int)) = List.getD (lwL c s l ((i_1:Int) + 1).toNat i) i_2 (0:Int)) :: (hosts_cr0 c s i [Int.toNat ((i_1:Int) + 1) ≤ s.nM, s.nM - ((i_1:Int) + 1).toNat < s.nM - i_1])))))))))))))))) (.need [i64In ((i_1:Int) + 1)] (.done (((i_1:Int) + 1 = (↑((i_1:Int) + 1).toNat : Int)) :: (((0:Nat) = 0) :: ((List.length (upL c s l i_1 i) + 1 = List.length (upL c s l ((i_1:Int) + 1).toNat i)) :: (((0:Nat) = 0) :: ((List.length (lwL c s l i_1 i) = List.length (lwL c s l ((i_1:Int) + 1).toNat i)) :: ((n = n) :: ((∀ i < n, l i = l i) :: (((i:Int) = (i:Int)) :: ((List.length (upL c s l i_1 i) + 1 = List.length (upL c s l ((i_1:Int) + 1).toNat i)) :: ((∀ i_2 < List.length (upL c s l ((i_1:Int) + 1).toNat i), (if decide (i_2 < List.length (upL c s l i_1 i)) = true then List.getD (upL c s l i_1 i) i_2 (0:Int) else List.getD [c.E0 (l (i_1:Int).toNat).toNat, c.E1 (l (i_1:Int).toNat).toNat] (1:Int).toNat (0:Int)) = List.getD (upL c s l ((i_1:Int) + 1).toNat i) i_2 (0:Int)) :: ((List.length (lwL c s l i_1 i) = List.length (lwL c s l ((i_1:Int) + 1).toNat i)) :: ((∀ i_2 < List.length (lwL c s l ((i_1:Int) + 1).toNat i), List.getD (lwL c s l i_1 i) i_2 (0:Int) = List.getD (lwL c s l ((i_1:Int) + 1).toNat i) i_2 (0:Int)) :: (hosts_cr0 c s i [Int.toNat ((i_1:Int) + 1) ≤ s.nM, s.nM - ((i_1:Int) + 1).toNat < s.nM - i_1]))))))))))))))))) (.ite (s.A (i_1:Int).toNat == (i:Int)) (.need [(0:Int) ≤ (i_1:Int) ∧ (i_1:Int) < (n:Int), (0:Int) ≤ l (i_1:Int).toNat ∧ l
     (i_1:Int).toNat < (c.n:Int), (0:Int) ≤ 0 ∧ (0:Int) < (↑(2:Nat) : Int), List.length (lwL c s l i_1 i) ≤ List.length (lwL c s l i_1 i), (List.length (lwL c s l i_1 i) + 1) * (nat_lit 7 + 1) ≤ 140737488355328, (1:Nat) ≤ 1] (.need [i64In ((i_1:Int) + 1)] (.done (((i_1:Int) + 1 = (↑((i_1:Int) + 1).toNat : Int)) :: (((0:Nat) = 0) :: ((List.length (upL c s l i_1 i) = List.length (upL c s l ((i_1:Int) + 1).toNat i)) :: (((0:Nat) = 0) :: ((List.length (lwL c s l i_1 i) + 1 = List.length (lwL c s l ((i_1:Int) + 1).toNat i)) :: ((n = n) :: ((∀ i < n, l i = l i) :: (((i:Int) = (i:Int)) :: ((List.length (upL c s l i_1 i) = List.length (upL c s l ((i_1:Int) + 1).toNat i)) :: ((∀ i_2 < List.length (upL c s l ((i_1:Int) + 1).toNat i), List.getD (upL c s l i_1 i) i_2 (0:Int) = List.getD (upL c s l ((i_1:Int) + 1).toNat i) i_2 (0:Int)) :: ((List.length (lwL c s l i_1 i) + 1 = List.length (lwL c s l ((i_1:Int) + 1).toNat i)) :: ((∀ i_2 < List.length (lwL c s l ((i_1:Int) + 1).toNat i), (if decide (i_2 < List.length (lwL c s l i_1 i)) = true then List.getD (lwL c s l i_1 i) i_2 (0:Int) else List.getD [c.E0 (l (i_1:Int).toNat).toNat, c.E1 (l (i_1:Int).toNat).toNat] (0:Int).toNat (0:Int)) = List.getD (lwL c s l ((i_1:Int) + 1).toNat i) i_2 (0:Int)) :: (hosts_cr0 c s i [Int.toNat ((i_1:Int) + 1) ≤ s.nM, s.nM - ((i_1:Int) + 1).toNat < s.nM - i_1])))))))))))))))) (.need [i64In ((i_1:Int) + 1)] (.done (((i_1:Int) + 1 = (↑((i_1:Int) + 1).toNat : Int)) :: (((0:Nat) = 0) :: ((List.length (upL c s l i_1 i) = List.length (upL c s l ((i_1:Int) + (1 :
     Int)).toNat i)) :: (((0:Nat) = 0) :: ((List.length (lwL c s l i_1 i) = List.length (lwL c s l ((i_1:Int) + 1).toNat i)) :: ((n = n) :: ((∀ i < n, l i = l i) :: (((i:Int) = (i:Int)) :: ((List.length (upL c s l i_1 i) = List.length (upL c s l ((i_1:Int) + 1).toNat i)) :: ((∀ i_2 < List.length (upL c s l ((i_1:Int) + 1).toNat i), List.getD (upL c s l i_1 i) i_2 (0:Int) = List.getD (upL c s l ((i_1:Int) + 1).toNat i) i_2 (0:Int)) :: ((List.length (lwL c s l i_1 i) = List.length (lwL c s l ((i_1:Int) + 1).toNat i)) :: ((∀ i_2 < List.length (lwL c s l ((i_1:Int) + 1).toNat i), List.getD (lwL c s l i_1 i) i_2 (0:Int) = List.getD (lwL c s l ((i_1:Int) + 1).toNat i) i_2 (0:Int)) :: (hosts_cr0 c s i [Int.toNat ((i_1:Int) + 1) ≤ s.nM, s.nM - ((i_1:Int) + 1).toNat < s.nM - i_1]))))))))))))))))))) (.done [List.length (upL c s l i_1 i) ≤ List.length (upL c s l i_1 i), List.length (lwL c s l i_1 i) ≤ List.length (lwL c s l i_1 i), List.length (upL c s l i_1 i) = upN c s l i, ∀ i_2 < upN c s l i, List.getD (upL c s l i_1 i) i_2 (0:Int) = upX c s l i i_2, List.length (lwL c s l i_1 i) = lwN c s l i, ∀ i_2 < lwN c s l i, List.getD (lwL c s l i_1 i) i_2 (0:Int) = lwX c s l i i_2])) (by kernel_rfl) ?_
  simp only [VT.holds, AllT, hosts_cr0, Sq]
  refine ⟨rfl, Nat.zero_le _, fun m hi => ⟨fun hlt => ?_, fun hge => ?_⟩⟩
  · have hlt : m < s.nM := by omega
    have h5 := hl m hlt
    have i64 : i64In ((m : Int) + 1) := by unfold i64In; omega
    have a1 := upL_len (c := c) (s := s) (l := l) (i := i) m
    have a2 := lwL_len (c := c) (s := s) (l := l) (i := i) m
    refine ⟨by omega, fun h => ?_, fun h => ⟨fun hB => ⟨⟨by omega, h5, by omega, Nat.le_refl _, by omega, Nat.le_refl _⟩, fun hA => ?_, fun hA => ?_⟩, fun hB => ⟨fun hA => ?_, fun hA => ?_⟩⟩⟩
    · obtain ⟨b1, b2⟩ := ap0 (up_no (c := c) (l := l) (i := i) (fun h' => h h'.1))
      obtain ⟨b3, b4⟩ := ap0 (lw_no (c := c) (l := l) (i := i) (fun h' => h h'.1))
      exact ⟨i64, by omega, b1, b3, b1, b2, b3, b4, by omega, by omega⟩
    · obtain ⟨b1, b2⟩ := ap1 (up_ok (c := c) (l := l) h hB)
      obtain ⟨b3, b4⟩ := ap1 (lw_ok (c := c) (l := l) h hA)
      exact ⟨⟨by omega, h5, by omega, Nat.le_refl _, by omega, Nat.le_refl _⟩, i64, by omega, b1, b3, b1, b2, b3, b4, by omega, by omega⟩
    · obtain ⟨b1, b2⟩ := ap1 (up_ok (c := c) (l := l) h hB)
      obtain ⟨b3, b4⟩ := ap0 (lw_no (c := c) (l := l) (i := i) (fun h' => hA h'.2))
      exact ⟨i64, by omega, b1, b3, b1, b2, b3, b4, by omega, by omega⟩
    · obtain ⟨b1, b2⟩ := ap0 (up_no (c := c) (l := l) (i := i) (fun h' => hB h'.2))
      obtain ⟨b3, b4⟩ := ap1 (lw_ok (c := c) (l := l) h hA)
      exact ⟨⟨by omega, h5, by omega, Nat.le_refl _, by omega, Nat.le_refl _⟩, i64, by omega, b1, b3, b1, b2, b3, b4, by omega, by omega⟩
    · obtain ⟨b1, b2⟩ := ap0 (up_no (c := c) (l := l) (i := i) (fun h' => hB h'.2))
      obtain ⟨b3, b4⟩ := ap0 (lw_no (c := c) (l := l) (i := i) (fun h' => hA h'.2))
      exact ⟨i64, by omega, b1, b3, b1, b2, b3, b4, by omega, by omega⟩
  · obtain rfl : m = s.nM := by omega
    exact ⟨Nat.le_refl _, Nat.le_refl _, rfl, fun _ _ => rfl, rfl, fun _ _ => rfl⟩
noncomputable def A145_joinsOne_c (c : Cat) (e : Int) (n : Nat) (A : Nat → Int) : Ann := { orc := [(4, [(6, .res fun q => dB (jnF c (aI q 1) (aI q 2)))])], loops := [(0, { ι := Nat, keep := [1, 2, 3], boxes := [3], ts := fun _ i => [(7, dI (i : Int))], inv := fun _ i => i ≤ n ∧ ∀ j, j < i → jnR c e A j = false, mu := fun _ i => n - i, rd := fun _ σ => (iOf (σ.get 7)).toNat })], cuts := [] }
noncomputable abbrev joinsOne_cr0 (c : Cat) (n : Nat) (A : Nat → Int) (r : List Prop) : List Prop := (n = n) :: (∀ (i : Nat), i < n → A i = A i) :: (c.n = c.n) :: (∀ (i : Nat), i < c.n → c.nm i = c.nm i) :: (∀ (i : Nat), i < c.n → c.K i = c.K i) :: (∀ (i : Nat), i < c.n → c.Q i = c.Q i) :: (∀ (i : Nat), i < c.n → c.M i = c.M i) :: (∀ (i : Nat), i < c.n → c.T i = c.T i) :: (∀ (i : Nat), i < c.n → c.E0 i = c.E0 i) :: (∀ (i : Nat), i < c.n → c.E1 i = c.E1 i) :: (c.m = c.m) :: (∀ (i : Nat), i < c.m → c.P0 i = c.P0 i) :: (∀ (i : Nat), i < c.m → c.P1 i = c.P1 i) :: r
theorem joinsOne_c (c : Cat) (e : Int) (n : Nat) (A : Nat → Int) (hm : c.m ≤ 1000000) (hn : n ≤ 1000000) : FnC prog 145 [catD c, dI e, lsI n A] (dB (anyN (jnR c e A) n)) := by
  refine FnC_owed hmix (A145_joinsOne_c c e n A) (V := .loop Nat (fun a => a ≤ n ∧ ∀ (j : Nat), j < a → jnR c e A j = false) (0:Int).toNat (((0:Int) = (↑(0:Int).toNat : Int)) :: ((e = e) :: (joinsOne_cr0 c n A []))) fun i => .ite (decide ((i:Int) < (n:Int))) (.need [(0:Int) ≤ (i:Int) ∧ (i:Int) < (n:Int), FnC prog 55 [.agg [.lst c.n [fun i => .val (.string (c.nm i)), fun i => (dI (c.K i)), fun i => (dI (c.Q i)), fun i => (dI (c.M i)), fun i => (dI (c.T i)), fun i => (dI (c.E0 i)), fun i => (dI (c.E1 i))], .lst c.m [fun i => (dI (c.P0 i)), fun i => (dI (c.P1 i))]], (dI e), (dI (A (i:Int).toNat))] ((dB (jnF c e (A (i:Int).toNat))))] (.ite (jnF c e (A (i:Int).toNat)) (.done [true = anyN (jnR c e A) n]) (.need [i64In ((i:Int) + 1)] (.done (((i:Int) + 1 = (↑((i:Int) + 1).toNat : Int)) :: ((e = e) :: (joinsOne_cr0 c n A [Int.toNat ((i:Int) + 1) ≤ n ∧ ∀ (j : Nat), j < ((i:Int) + 1).toNat → jnR c e A j = false, n - ((i:Int) + 1).toNat < n - i]))))))) (.done [false = anyN (jnR c e A) n])) (by kernel_rfl) ?_
  simp only [VT.holds, AllT, joinsOne_cr0, Sq]
  have hj : ∀ a b, FnC prog 55 [catD c, dI a, dI b] (dB (jnF c a b)) := fun a b => by rw [jn_any]; exact joinsR_c c a b hm
  refine ⟨rfl, ⟨Nat.zero_le _, fun j hj => absurd hj (Nat.not_lt_zero j)⟩, fun i ⟨hi, hb'⟩ => ⟨fun hlt => ?_, fun hge => ?_⟩⟩
  · have hlt : i < n := by omega
    refine ⟨⟨by omega, hj _ _⟩, fun h => (anyN_iff.2 ⟨i, hlt, h⟩).symm, fun h => ⟨by unfold i64In; omega, by omega, ⟨by omega, fun j hj => ?_⟩, by omega⟩⟩
    rcases Nat.lt_or_ge j i with h9 | h9
    · exact hb' j h9
    · obtain rfl : j = i := by omega
      exact h
  · obtain rfl : i = n := by omega
    exact (anyN_none hb').symm
noncomputable def A114_fitsR_c (c : Cat) (s : Scf) (n : Nat) (l : Nat → Int) (i : Nat) : Ann := { orc := [(1, [(4, .res fun _ => .tup [.lst (upN c s l i) [fun q => dI (upX c s l i q)], .lst (lwN c s l i) [fun q => dI (lwX c s l i q)]])]), (8, [(9, .res fun q => dB (jnF c (aI q 1) (aI q 2)))]), (15, [(6, .res fun q => .lst (endN (fI 0 (arg q 1)) (fI 1 (arg q 1)) (fI 2 (arg q 1))) [fun j => dI (endX s (fI 0 (arg q 1)) (fI 1 (arg q 1)) (fI 2 (arg q 1)) j)]), (8, .res fun q => dB (hasN (fun j => colI 0 (arg q 0) j) (aI q 1) (lenOf (arg q 0))))]), (19, [(3, .res fun q => dB (anyN (jnR c (aI q 1) (fun j => colI 0 (arg q 2) j)) (lenOf (arg q 2))))])], loops := [(0, { ι := Nat, keep := [2, 3, 4, 5, 9, 10], boxes := [4, 5], ts := fun _ a => [(11, dI (a : Int))], inv := fun _ a => a ≤ upN c s l i ∧ ∀ j, j < a → ∀ q, q < lwN c s l i → jnF c (upX c s l i j) (lwX c s l i q) = true, mu := fun _ a => upN c s l i - a, rd := fun _ σ => (iOf (σ.get 11)).toNat }), (2, { ι := Nat, keep := [2, 3, 4, 5, 9, 10, 11], boxes := [4, 5], ts := fun _ b => [(12, dI (b : Int))], inv := fun σ b => b ≤ lwN c s l i ∧ ∀ q, q < b → jnF c (upX c s l i (iOf (σ.get 11)).toNat) (lwX c s l i q) = true, mu := fun _ b => lwN c s l i - b, rd := fun _ σ => (iOf (σ.get 12)).toNat }), (4, { ι := Nat, keep := [2, 3, 4, 5], boxes := [4, 5], ts := fun _ m => [(14, dI (m : Int))], rw := fun _ m => [(13, 1, upN c s l i + lwN c s l i, [fun q => dI (allA c s l i q)])], inv := fun _ m => m ≤ s.nM ∧ ∀ k, k < m → okM c s l i k, mu := fun _ m => s.nM - m, rd := fun _ σ => (iOf (σ.get 14)).toNat })], cuts := [] }
noncomputable abbrev q_fitsR_c_0 (s : Scf) (i_2 : Nat) : Bool := !s.K (Int.toNat (i_2:Int)) == (0:Int)
noncomputable abbrev fitsR_cd0 (c : Cat) (i : Nat) : DV := .agg [.lst c.n [fun i => .val (.string (c.nm i)), fun i => (dI (c.K i)), fun i => (dI (c.Q i)), fun i => (dI (c.M i)), fun i => (dI (c.T i)), fun i => (dI (c.E0 i)), fun i => (dI (c.E1 i))], .lst c.m [fun i => (dI (c.P0 i)), fun i => (dI (c.P1 i))]]
noncomputable abbrev fitsR_cd1 (s : Scf) (i_2 : Nat) : DV := .lst (endN (s.K (Int.toNat (i_2:Int))) (s.A (Int.toNat (i_2:Int))) (s.B (Int.toNat (i_2:Int)))) [fun j => (dI (endX s (s.K (Int.toNat (i_2:Int))) (s.A (Int.toNat (i_2:Int))) (s.B (Int.toNat (i_2:Int))) j))]
noncomputable abbrev fitsR_cr0 (c : Cat) (s : Scf) (i : Nat) (r : List Prop) : List Prop := (c.n = c.n) :: (∀ (i : Nat), i < c.n → c.nm i = c.nm i) :: (∀ (i : Nat), i < c.n → c.K i = c.K i) :: (∀ (i : Nat), i < c.n → c.Q i = c.Q i) :: (∀ (i : Nat), i < c.n → c.M i = c.M i) :: (∀ (i : Nat), i < c.n → c.T i = c.T i) :: (∀ (i : Nat), i < c.n → c.E0 i = c.E0 i) :: (∀ (i : Nat), i < c.n → c.E1 i = c.E1 i) :: (c.m = c.m) :: (∀ (i : Nat), i < c.m → c.P0 i = c.P0 i) :: (∀ (i : Nat), i < c.m → c.P1 i = c.P1 i) :: (s.nN = s.nN) :: (∀ (i : Nat), i < s.nN → s.X i = s.X i) :: (∀ (i : Nat), i < s.nN → s.Y i = s.Y i) :: (∀ (i : Nat), i < s.nN → s.Z i = s.Z i) :: (s.nM = s.nM) :: (∀ (i : Nat), i < s.nM → s.K i = s.K i) :: (∀ (i : Nat), i < s.nM → s.A i = s.A i) :: (∀ (i : Nat), i < s.nM → s.B i = s.B i) :: r
noncomputable abbrev fitsR_cr1 (c : Cat) (s : Scf) (n : Nat) (l : Nat → Int) (i : Nat) (r : List Prop) : List Prop := ((0:Nat) = (0:Nat)) :: (upN c s l i + lwN c s l i = upN c s l i + lwN c s l i) :: (n = n) :: (∀ (i : Nat), i < n → l i = l i) :: ((i:Int) = (i:Int)) :: (upN c s l i + lwN c s l i = upN c s l i + lwN c s l i) :: (∀ (i_3 : Nat), i_3 < upN c s l i + lwN c s l i → allA c s l i i_3 = allA c s l i i_3) :: r
theorem fitsR_c (c : Cat) (s : Scf) (n : Nat) (l : Nat → Int) (i : Nat) (hc : ScfOK s) (hm : c.m ≤ 1000000) (hn : s.nM ≤ n) (hl : ∀ m, m < s.nM → 0 ≤ l m ∧ l m < c.n) : FnC prog 114 [catD c, scfD s, lsI n l, dI (i : Int)] (dB (!ndB c s l i)) := by
  refine FnC_owed hmix (A114_fitsR_c c s n l i) (V := .need [FnC prog 144 [(fitsR_cd0 c i), .agg [.lst s.nN [fun i => (dI (s.X i)), fun i => (dI (s.Y i)), fun i => (dI (s.Z i))], .lst s.nM [fun i => (dI (s.K i)), fun i => (dI (s.A i)), fun i => (dI (s.B i))]], .lst n [fun j => (dI (l j))], (dI (i:Int))] (.tup [.lst (upN c s l i) [fun q => (dI (upX c s l i q))], .lst (lwN c s l i) [fun q => (dI (lwX c s l i q))]])] (.loop Nat (fun a => a ≤ upN c s l i ∧ ∀ (j : Nat), j < a → ∀ (q : Nat), q < lwN c s l i → jnF c (upX c s l i j) (lwX c s l i q) = true) (0:Int).toNat (((0:Int) = (↑(0:Int).toNat : Int)) :: ((n = n) :: ((∀ i < n, l i = l i) :: (((i:Int) = (i:Int)) :: ((upN c s l i = upN c s l i) :: ((∀ i_1 < upN c s l i, upX c s l i i_1 = upX c s l i i_1) :: ((lwN c s l i = lwN c s l i) :: ((∀ i_1 < lwN c s l i, lwX c s l i i_1 = lwX c s l i i_1) :: (fitsR_cr0 c s i []))))))))) fun i_1 => .ite (decide ((i_1:Int) < (↑(upN c s l i) : Int))) (.loop Nat (fun a => a ≤ lwN c s l i ∧ ∀ (q : Nat), q < a → jnF c (upX c s l i (i_1:Int).toNat) (lwX c s l i q) = true) (0:Int).toNat (((0:Int) = (↑(0:Int).toNat : Int)) :: ((n = n) :: ((∀ i < n, l i = l i) :: (((i:Int) = (i:Int)) :: ((upN c s l i = upN c s l i) :: ((∀ i_2 < upN c s l i, upX c s l i i_2 = upX c s l i i_2) :: ((lwN c s l i = lwN c s l i) :: ((∀ i_2 < lwN c s l i, lwX c s l i i_2 = lwX c s l i i_2) :: (((i_1:Int) = (i_1:Int)) :: (fitsR_cr0 c s i [])))))))))) fun i_2 => .ite (decide ((i_2:Int) < (↑(lwN c s l i) : Int))) (.need [(0:Int) ≤ (i_1:Int) ∧ (i_1:Int) < (↑(upN c s l i) : Int), (0:Int) ≤ (i_2:Int) ∧ (i_2:Int) < (↑(lwN c s l i) : Int), FnC prog 55 [(fitsR_cd0 c i), (dI (upX c s l i (i_1:Int).toNat)), (dI (lwX c s l i (i_2:Int).toNat))] ((dB (jnF c (upX c s l i (i_1:Int).toNat) (lwX c s l i (i_2:Int).toNat))))] (.ite (!jnF c (upX c s l i (↑i_1 :
     Int).toNat) (lwX c s l i (i_2:Int).toNat)) (.done [false = !ndB c s l i]) (.need [i64In ((i_2:Int) + 1)] (.done (((i_2:Int) + 1 = (↑((i_2:Int) + 1).toNat : Int)) :: ((n = n) :: ((∀ i < n, l i = l i) :: (((i:Int) = (i:Int)) :: ((upN c s l i = upN c s l i) :: ((∀ i_3 < upN c s l i, upX c s l i i_3 = upX c s l i i_3) :: ((lwN c s l i = lwN c s l i) :: ((∀ i_3 < lwN c s l i, lwX c s l i i_3 = lwX c s l i i_3) :: (((i_1:Int) = (i_1:Int)) :: (fitsR_cr0 c s i [Int.toNat ((i_2:Int) + 1) ≤ lwN c s l i ∧ ∀ (q : Nat), q < ((i_2:Int) + 1).toNat → jnF c (upX c s l i (i_1:Int).toNat) (lwX c s l i q) = true, lwN c s l i - ((i_2:Int) + 1).toNat < lwN c s l i - i_2])))))))))))))) (.need [i64In ((i_1:Int) + 1)] (.done (((i_1:Int) + 1 = (↑((i_1:Int) + 1).toNat : Int)) :: ((n = n) :: ((∀ i < n, l i = l i) :: (((i:Int) = (i:Int)) :: ((upN c s l i = upN c s l i) :: ((∀ i_3 < upN c s l i, upX c s l i i_3 = upX c s l i i_3) :: ((lwN c s l i = lwN c s l i) :: ((∀ i_3 < lwN c s l i, lwX c s l i i_3 = lwX c s l i i_3) :: (fitsR_cr0 c s i [Int.toNat ((i_1:Int) + 1) ≤ upN c s l i ∧ ∀ (j : Nat), j < ((i_1:Int) + 1).toNat → ∀ (q : Nat), q < lwN c s l i → jnF c (upX c s l i j) (lwX c s l i q) = true, upN c s l i - ((i_1:Int) + 1).toNat < upN c s l i - i_1])))))))))))) (.need [(0:Nat) ≤ 0, ((0:Nat) + upN c s l i) * (nat_lit 7 + 1) ≤ 140737488355328, (0:Nat) + upN c s l i ≤ 0 + upN c s l i, ((0:Nat) + upN c s l i + lwN c s l i) * (nat_lit 7 + 1) ≤ 140737488355328] (.loop Nat (fun a => a ≤ s.nM ∧ ∀ (k : Nat), k < a → okM c s l i k) (0:Int).toNat (((0:Int) = (↑(0:Int).toNat : Int)) :: (((0:Nat) = 0) :: (((0:Nat) + upN c s l i + lwN c s l i = upN c s
     l i + lwN c s l i) :: ((n = n) :: ((∀ i < n, l i = l i) :: (((i:Int) = (i:Int)) :: (((0:Nat) + upN c s l i + lwN c s l i = upN c s l i + lwN c s l i) :: ((∀ i_2 < upN c s l i + lwN c s l i, (if decide (i_2 < 0 + upN c s l i) = true then if decide (i_2 < 0) = true then (0:Int) else upX c s l i (i_2 - 0) else lwX c s l i (i_2 - ((0:Nat) + upN c s l i))) = allA c s l i i_2) :: (fitsR_cr0 c s i []))))))))) fun i_2 => .ite (decide ((i_2:Int) < (s.nM:Int))) (.need [(0:Int) ≤ (i_2:Int) ∧ (i_2:Int) < (s.nM:Int)] (.need [ri ((q_fitsR_c_0 s i_2) = true), ri ((q_fitsR_c_0 s i_2) = true), (q_fitsR_c_0 s i_2) = true → FnC prog 135 [.agg [.lst s.nN [fun i => (dI (s.X i)), fun i => (dI (s.Y i)), fun i => (dI (s.Z i))], .lst s.nM [fun i => (dI (s.K i)), fun i => (dI (s.A i)), fun i => (dI (s.B i))]], .val (.agg (Array.mk [.int .i64 (s.K (i_2:Int).toNat), .int .i64 (s.A (i_2:Int).toNat), .int .i64 (s.B (i_2:Int).toNat)]))] ((fitsR_cd1 s i_2)), ri ((q_fitsR_c_0 s i_2) = true), ri ((q_fitsR_c_0 s i_2) = true), (q_fitsR_c_0 s i_2) = true → FnC prog 27 [(fitsR_cd1 s i_2), (dI (i:Int))] ((dB (hasN (endX s (s.K (i_2:Int).toNat) (s.A (i_2:Int).toNat) (s.B (i_2:Int).toNat)) (i:Int) (endN (s.K (i_2:Int).toNat) (s.A (i_2:Int).toNat) (s.B (i_2:Int).toNat))))), ri ((q_fitsR_c_0 s i_2) = true), (s.K (i_2:Int).toNat == 0) = false → (q_fitsR_c_0 s i_2) = true] (.ite (if (s.K (i_2:Int).toNat == 0) = true then true else !hasN (endX s (s.K (i_2:Int).toNat) (s.A (i_2:Int).toNat) (s.B (i_2:Int).toNat)) (i:Int) (endN (s.K (i_2:Int).toNat) (s.A (i_2:Int).toNat) (s.B (i_2:Int).toNat))) (.need [i64In ((i_2:Int) + (1
     : Int))] (.done (((i_2:Int) + 1 = (↑((i_2:Int) + 1).toNat : Int)) :: (fitsR_cr1 c s n l i (fitsR_cr0 c s i [Int.toNat ((i_2:Int) + 1) ≤ s.nM ∧ ∀ (k : Nat), k < ((i_2:Int) + 1).toNat → okM c s l i k, s.nM - ((i_2:Int) + 1).toNat < s.nM - i_2]))))) (.need [(0:Int) ≤ (i_2:Int) ∧ (i_2:Int) < (n:Int), (0:Int) ≤ l (i_2:Int).toNat ∧ l (i_2:Int).toNat < (c.n:Int), (0:Int) ≤ 0 ∧ (0:Int) < (↑(2:Nat) : Int)] (.need [ri (((i:Int) == s.B (i_2:Int).toNat) = true), ri (((i:Int) == s.B (i_2:Int).toNat) = true), ri (((i:Int) == s.B (i_2:Int).toNat) = true), ri (((i:Int) == s.B (i_2:Int).toNat) = true), ri (((i:Int) == s.B (i_2:Int).toNat) = true)] (.ite (if ((i:Int) == s.B (i_2:Int).toNat) = true then s.A (i_2:Int).toNat != s.B (i_2:Int).toNat else false) (.need [(0:Int) ≤ (i_2:Int) ∧ (i_2:Int) < (n:Int), (0:Int) ≤ l (i_2:Int).toNat ∧ l (i_2:Int).toNat < (c.n:Int), (0:Int) ≤ 1 ∧ (1:Int) < (↑(2:Nat) : Int)] (.need [upN c s l i + lwN c s l i ≤ upN c s l i + lwN c s l i, FnC prog 145 [(fitsR_cd0 c i), (dI (List.getD [c.E0 (l (i_2:Int).toNat).toNat, c.E1 (l (i_2:Int).toNat).toNat] (1:Int).toNat (0:Int))), .lst (upN c s l i + lwN c s l i) [fun i_3 => (dI (allA c s l i i_3))]] ((dB (anyN (jnR c (List.getD [c.E0 (l (i_2:Int).toNat).toNat, c.E1 (l (i_2:Int).toNat).toNat] (1:Int).toNat (0:Int)) (allA c s l i)) (upN c s l i + lwN c s l i))))] (.ite (!anyN (jnR c (List.getD [c.E0 (l (↑i_2 :
     Int).toNat).toNat, c.E1 (l (i_2:Int).toNat).toNat] (1:Int).toNat (0:Int)) (allA c s l i)) (upN c s l i + lwN c s l i)) (.done [false = !ndB c s l i]) (.need [i64In ((i_2:Int) + 1)] (.done (((i_2:Int) + 1 = (↑((i_2:Int) + 1).toNat : Int)) :: (fitsR_cr1 c s n l i (fitsR_cr0 c s i [Int.toNat ((i_2:Int) + 1) ≤ s.nM ∧ ∀ (k : Nat), k < ((i_2:Int) + 1).toNat → okM c s l i k, s.nM - ((i_2:Int) + 1).toNat < s.nM - i_2])))))))) (.need [upN c s l i + lwN c s l i ≤ upN c s l i + lwN c s l i, FnC prog 145 [(fitsR_cd0 c i), (dI (List.getD [c.E0 (l (i_2:Int).toNat).toNat, c.E1 (l (i_2:Int).toNat).toNat] (0:Int).toNat (0:Int))), .lst (upN c s l i + lwN c s l i) [fun i_3 => (dI (allA c s l i i_3))]] ((dB (anyN (jnR c (List.getD [c.E0 (l (i_2:Int).toNat).toNat, c.E1 (l (i_2:Int).toNat).toNat] (0:Int).toNat (0:Int)) (allA c s l i)) (upN c s l i + lwN c s l i))))] (.ite (!anyN (jnR c (List.getD [c.E0 (l (i_2:Int).toNat).toNat, c.E1 (l (i_2:Int).toNat).toNat] (0:Int).toNat (0:Int)) (allA c s l i)) (upN c s l i + lwN c s l i)) (.done [false = !ndB c s l i]) (.need [i64In ((i_2:Int) + 1)] (.done (((i_2:Int) + 1 = (↑((i_2:Int) + 1).toNat : Int)) :: (fitsR_cr1 c s n l i (fitsR_cr0 c s i [Int.toNat ((i_2:Int) + 1) ≤ s.nM ∧ ∀ (k : Nat), k < ((i_2:Int) + 1).toNat → okM c s l i k, s.nM - ((i_2:Int) + 1).toNat < s.nM - i_2]))))))))))))) (.done [true = !ndB c s l i]))))) (by kernel_rfl) ?_
  simp only [q_fitsR_c_0, VT.holds, AllT, Sq]
  have hj : ∀ a b, FnC prog 55 [catD c, dI a, dI b] (dB (jnF c a b)) := fun a b => by rw [jn_any]; exact joinsR_c c a b hm
  have hnM := hc.nM
  have hnN := hc.nN
  have a1 : upN c s l i ≤ 4000 := Nat.le_trans (upL_len s.nM) hnM
  have a2 : lwN c s l i ≤ 4000 := Nat.le_trans (lwL_len s.nM) hnM
  refine ⟨hosts_c c s n l i hnM hn hl, rfl, ⟨Nat.zero_le _, fun j hj => absurd hj (Nat.not_lt_zero j)⟩, fun a ⟨ha, hu⟩ => ⟨fun hlt => ⟨rfl, ⟨Nat.zero_le _, fun j hj => absurd hj (Nat.not_lt_zero j)⟩, fun b ⟨hb, hv⟩ => ⟨fun hlt2 => ⟨⟨by omega, by omega, hj _ _⟩, fun h => ?_, fun h => ⟨by unfold i64In; omega, by omega, ⟨by omega, fun q hq => ?_⟩, by omega⟩⟩, fun hge2 => ⟨by unfold i64In; omega, by omega, ⟨by omega, fun j hj q hq => ?_⟩, by omega⟩⟩⟩, fun hge => ⟨⟨Nat.le_refl _, by omega, by omega, by omega⟩, ⟨rfl, by omega, by omega, fun q hq => ?_⟩, ⟨Nat.zero_le _, fun j hj => absurd hj (Nat.not_lt_zero j)⟩, fun m ⟨hm', hb⟩ => ⟨fun hlt => ?_, fun hge2 => ?_⟩⟩⟩⟩
  · refine nd_bad fun h' => ?_
    have := h'.1 a (by omega) b (by omega)
    exact absurd (this.symm.trans h) (by decide)
  · rcases Nat.lt_or_ge q b with h9 | h9
    · exact hv q h9
    · obtain rfl : q = b := by omega
      exact h
  · rcases Nat.lt_or_ge j a with h9 | h9
    · exact hu j h9 q hq
    · obtain rfl : j = a := by omega
      exact hv q (by omega)
  · rw [Nat.zero_add, allA, catA, Nat.sub_zero]
    split
    · rw [if_neg (Nat.not_lt_zero q)]
    · rfl
  · have hlt : m < s.nM := by omega
    obtain ⟨hA, hB⟩ := hc.ends m hlt
    have i64 : i64In ((m : Int) + 1) := by unfold i64In; omega
    have hN : endN (s.K m) (s.A m) (s.B m) ≤ 4 := by
      unfold endN
      split
      · omega
      · split <;> omega
    refine ⟨by omega, ⟨fun _ => endsR_c s _ _ _ (by omega) hA hB, fun _ => has_i _ _ _ (Nat.le_trans hN (by decide))⟩, fun h => ⟨i64, by omega, ⟨by omega, fun k hk => ?_⟩, by omega⟩, fun ⟨hK, hT⟩ => ⟨⟨by omega, hl m hlt, by omega⟩, fun hE => ⟨⟨by omega, hl m hlt, by omega⟩, ?_⟩, fun hE => ?_⟩⟩
    · rcases Nat.lt_or_ge k m with h9 | h9
      · exact hb k h9
      · obtain rfl : k = m := by omega
        intro hK hT
        rcases h with h | h
        · exact absurd h hK
        · have := has_iff.2 hT
          exact absurd (this.symm.trans h) (by decide)
    · have hx : okM c s l i m ↔ anyN (jnR c (c.E1 (l m).toNat) (allA c s l i)) (upN c s l i + lwN c s l i) = true := by
        have e : enD c s l m i = c.E1 (l m).toNat := if_pos hE
        rw [okM, e, anyN_iff]
        exact ⟨fun h' => h' hK (has_iff.1 hT), fun h' _ _ => h'⟩
      refine ⟨⟨Nat.le_refl _, joinsOne_c c _ _ _ hm (by omega)⟩, fun h => nd_bad fun h' => ?_, fun h => ⟨i64, by omega, ⟨by omega, fun k hk => ?_⟩, by omega⟩⟩
      · have := hx.1 (h'.2 m hlt)
        exact absurd (this.symm.trans h) (by decide)
      · rcases Nat.lt_or_ge k m with h9 | h9
        · exact hb k h9
        · obtain rfl : k = m := by omega
          exact hx.2 h
    · have hx : okM c s l i m ↔ anyN (jnR c (c.E0 (l m).toNat) (allA c s l i)) (upN c s l i + lwN c s l i) = true := by
        have e : enD c s l m i = c.E0 (l m).toNat := if_neg (fun h' => h'.2 (hE h'.1))
        rw [okM, e, anyN_iff]
        exact ⟨fun h' => h' hK (has_iff.1 hT), fun h' _ _ => h'⟩
      refine ⟨⟨Nat.le_refl _, joinsOne_c c _ _ _ hm (by omega)⟩, fun h => nd_bad fun h' => ?_, fun h => ⟨i64, by omega, ⟨by omega, fun k hk => ?_⟩, by omega⟩⟩
      · have := hx.1 (h'.2 m hlt)
        exact absurd (this.symm.trans h) (by decide)
      · rcases Nat.lt_or_ge k m with h9 | h9
        · exact hb k h9
        · obtain rfl : k = m := by omega
          exact hx.2 h
  · obtain rfl : m = s.nM := by omega
    exact nd_ok ⟨fun j hj q hq => hu j (by omega) q hq, hb⟩
noncomputable def A60_jointsR_c (c : Cat) (s : Scf) (n : Nat) (l : Nat → Int) : Ann := { orc := [(5, [(4, .res fun q => dB (!ndB c s l (aI q 3).toNat))])], loops := [(0, { ι := Nat, keep := [2, 3, 4], boxes := [3, 4], ts := fun _ i => [(8, dI (i : Int))], rw := fun _ i => [(7, 1, flN (ndB c s l) i, [fun j => dI (flI (ndB c s l) i j)])], inv := fun _ i => i ≤ s.nN, mu := fun _ i => s.nN - i, rd := fun _ σ => (iOf (σ.get 8)).toNat })], cuts := [] }
noncomputable abbrev jointsR_cr0 (c : Cat) (s : Scf) (r : List Prop) : List Prop := (c.n = c.n) :: (∀ (i : Nat), i < c.n → c.nm i = c.nm i) :: (∀ (i : Nat), i < c.n → c.K i = c.K i) :: (∀ (i : Nat), i < c.n → c.Q i = c.Q i) :: (∀ (i : Nat), i < c.n → c.M i = c.M i) :: (∀ (i : Nat), i < c.n → c.T i = c.T i) :: (∀ (i : Nat), i < c.n → c.E0 i = c.E0 i) :: (∀ (i : Nat), i < c.n → c.E1 i = c.E1 i) :: (c.m = c.m) :: (∀ (i : Nat), i < c.m → c.P0 i = c.P0 i) :: (∀ (i : Nat), i < c.m → c.P1 i = c.P1 i) :: (s.nN = s.nN) :: (∀ (i : Nat), i < s.nN → s.X i = s.X i) :: (∀ (i : Nat), i < s.nN → s.Y i = s.Y i) :: (∀ (i : Nat), i < s.nN → s.Z i = s.Z i) :: (s.nM = s.nM) :: (∀ (i : Nat), i < s.nM → s.K i = s.K i) :: (∀ (i : Nat), i < s.nM → s.A i = s.A i) :: (∀ (i : Nat), i < s.nM → s.B i = s.B i) :: r
theorem jointsR_c (c : Cat) (s : Scf) (n : Nat) (l : Nat → Int) (hc : ScfOK s) (hm : c.m ≤ 1000000) (hn : s.nM ≤ n) (hl : ∀ m, m < s.nM → 0 ≤ l m ∧ l m < c.n) : FnC prog 60 [catD c, scfD s, lsI n l] (.lst (flN (ndB c s l) s.nN) [fun j => dI (flI (ndB c s l) s.nN j)]) := by
  refine FnC_owed hmix (A60_jointsR_c c s n l) (V := .loop Nat (fun a => a ≤ s.nN) (0:Int).toNat (((0:Int) = (↑(0:Int).toNat : Int)) :: (((0:Nat) = 0) :: ((flN (ndB c s l) (0:Int).toNat = 0) :: ((n = n) :: ((∀ i < n, l i = l i) :: ((flN (ndB c s l) (0:Int).toNat = 0) :: (jointsR_cr0 c s []))))))) fun i => .ite (decide ((i:Int) < (s.nN:Int))) (.need [FnC prog 114 [.agg [.lst c.n [fun i => .val (.string (c.nm i)), fun i => (dI (c.K i)), fun i => (dI (c.Q i)), fun i => (dI (c.M i)), fun i => (dI (c.T i)), fun i => (dI (c.E0 i)), fun i => (dI (c.E1 i))], .lst c.m [fun i => (dI (c.P0 i)), fun i => (dI (c.P1 i))]], .agg [.lst s.nN [fun i => (dI (s.X i)), fun i => (dI (s.Y i)), fun i => (dI (s.Z i))], .lst s.nM [fun i => (dI (s.K i)), fun i => (dI (s.A i)), fun i => (dI (s.B i))]], .lst n [fun j => (dI (l j))], (dI (i:Int))] ((dB !ndB c s l (i:Int).toNat))] (.ite (!!ndB c s l (i:Int).toNat) (.need [flN (ndB c s l) i ≤ flN (ndB c s l) i, (flN (ndB c s l) i + 1) * (nat_lit 7 + 1) ≤ 140737488355328, (1:Nat) ≤ 1] (.need [i64In ((i:Int) + 1)] (.done (((i:Int) + 1 = (↑((i:Int) + 1).toNat : Int)) :: (((0:Nat) = 0) :: ((flN (ndB c s l) i + 1 = flN (ndB c s l) ((i:Int) + 1).toNat) :: ((n = n) :: ((∀ i < n, l i = l i) :: ((flN (ndB c s l) i + 1 = flN (ndB c s l) ((i:Int) + 1).toNat) :: ((∀ i_1 < flN (ndB c s l) ((i:Int) + 1).toNat, (if decide (i_1 < flN (ndB c s l) i) = true then (↑(flI (ndB c s l) i i_1) : Int) else (i:Int)) = (↑(flI (ndB c s l) ((i:Int) + 1).toNat i_1) : Int)) :: (jointsR_cr0 c s [Int.toNat ((i:Int) + 1) ≤ s.nN, s.nN - ((i:Int) + 1).toNat < s.nN - i]))))))))))) (.need [i64In ((i:Int) + 1)] (.done (((i:Int) + 1 = (↑((i:Int) + 1).toNat : Int)) :: (((0:Nat)
     = 0) :: ((flN (ndB c s l) i = flN (ndB c s l) ((i:Int) + 1).toNat) :: ((n = n) :: ((∀ i < n, l i = l i) :: ((flN (ndB c s l) i = flN (ndB c s l) ((i:Int) + 1).toNat) :: ((∀ i_1 < flN (ndB c s l) ((i:Int) + 1).toNat, (↑(flI (ndB c s l) i i_1) : Int) = (↑(flI (ndB c s l) ((i:Int) + 1).toNat i_1) : Int)) :: (jointsR_cr0 c s [Int.toNat ((i:Int) + 1) ≤ s.nN, s.nN - ((i:Int) + 1).toNat < s.nN - i])))))))))))) (.done [flN (ndB c s l) i ≤ flN (ndB c s l) i, flN (ndB c s l) i = flN (ndB c s l) s.nN, ∀ i_1 < flN (ndB c s l) s.nN, (↑(flI (ndB c s l) i i_1) : Int) = (↑(flI (ndB c s l) s.nN i_1) : Int)])) (by kernel_rfl) ?_
  simp only [VT.holds, AllT, jointsR_cr0, Sq]
  have hnN := hc.nN
  refine ⟨⟨rfl, rfl, rfl⟩, Nat.zero_le _, fun i hi => ⟨fun hlt => ⟨fitsR_c c s n l i hc hm hn hl, fun h => ?_, fun h => ?_⟩, fun hge => ?_⟩⟩
  · have hle := flN_le (ndB c s l) i
    exact ⟨⟨Nat.le_refl _, by omega, Nat.le_refl _⟩, by unfold i64In; omega, by omega, (flN_yes h).symm, (flN_yes h).symm, fun q hq => flI_yes' h (fun q : Nat => (q : Int)) hq, by omega, by omega⟩
  · have hp : ¬ ndB c s l i = true := by rw [h]; decide
    exact ⟨by unfold i64In; omega, by omega, (flN_no hp).symm, (flN_no hp).symm, fun q _ => by rw [flI_no hp], by omega, by omega⟩
  · obtain rfl : i = s.nN := by omega
    exact ⟨Nat.le_refl _, rfl, fun _ _ => rfl⟩
end Go.Abs
