/- Contracts. -/
import Derived.Test.YtbemjdppfiabgaaK21
import Derived.Test.YtbemjdppfiabgaaK24
set_option linter.unusedVariables false
set_option linter.unusedSimpArgs false
set_option maxRecDepth 100000
namespace Go.Abs
open Go
/-- A catalogue and a scaffold read together. -/
def sEm : Scf := ⟨0, fun _ => 0, fun _ => 0, fun _ => 0, 0, fun _ => 0, fun _ => 0, fun _ => 0⟩
def cbS (c : Cat) (s : Scf) : Scf := if ctE c = 0 then s else sEm
def cbN (c : Cat) (s : Scf) : Nat := if ctE c = 0 then rdN s else 0
def cbE (c : Cat) (s : Scf) : Int := if ctE c = 0 then chkE s else ctE c
/-- The first part that fits a member. -/
def asX (c : Cat) (s : Scf) (i : Nat) : Int := ixF (ftP c (s.K i) (sqr s (s.A i) (s.B i))) c.n
def asG (c : Cat) (s : Scf) : Nat → Bool
  | 0 => true
  | i + 1 => asG c s i && decide (0 ≤ asX c s i)
def asE (c : Cat) (s : Scf) : Int := if cbE c s ≠ 0 then cbE c s else if asG c s s.nM = true then 0 else 6
def asN (c : Cat) (s : Scf) : Nat := if asE c s = 0 then s.nM else 0
theorem cbE_ok {c : Cat} {s : Scf} (h : cbE c s = 0) : ctE c = 0 ∧ chkE s = 0 := by
  unfold cbE at h
  split at h
  · rename_i h1; exact ⟨h1, h⟩
  · rename_i h1; exact absurd h h1
theorem asG_no {c : Cat} {s : Scf} {i : Nat} (h : asX c s i < 0) : ∀ {n : Nat}, i < n → asG c s n = false
  | 0, hn => absurd hn (Nat.not_lt_zero i)
  | n + 1, hn => by
    rw [asG]
    by_cases e : i = n
    · subst e
      rw [decide_eq_false (by omega), Bool.and_false]
    · rw [asG_no h (by omega), Bool.false_and]
abbrev capJ (d : DV) (k j : Nat) : Int := match d with
  | .clo _ caps => match caps[k]? with
    | some (.cptr cs) => match cs[j]? with
      | some x => iOf x
      | none => 0
    | _ => 0
  | _ => 0
noncomputable def A111_both_c (c : Cat) (s : Scf) : Ann := { orc := [(1, [(1, .res fun _ => dI (ctE c))]), (4, [(1, .res fun _ => rdD s)])], loops := [], cuts := [] }
theorem both_c (c : Cat) (s : Scf)  : FnC prog 111 [catD c, scfD s] (.tup [frmD (cbS c s) (cbN c s), dI (cbE c s)]) := by
  refine FnC_owed hmix (A111_both_c c s) (V := .need [FnC prog 42 [.agg [.lst c.n [fun i => .val (.string (c.nm i)), fun i => (dI (c.K i)), fun i => (dI (c.Q i)), fun i => (dI (c.M i)), fun i => (dI (c.T i)), fun i => (dI (c.E0 i)), fun i => (dI (c.E1 i))], .lst c.m [fun i => (dI (c.P0 i)), fun i => (dI (c.P1 i))]]] ((dI (ctE c)))] (.ite (ctE c != 0) (.done [(cbS c s).nN = 0, (cbS c s).nM = 0, ∀ (l : List Int), atH (cbS c s) (cbN c s) l = false, ctE c = cbE c s]) (.need [FnC prog 74 [.agg [.lst s.nN [fun i => (dI (s.X i)), fun i => (dI (s.Y i)), fun i => (dI (s.Z i))], .lst s.nM [fun i => (dI (s.K i)), fun i => (dI (s.A i)), fun i => (dI (s.B i))]]] (.tup [.agg [.lst s.nN [fun i => (dI (s.X i)), fun i => (dI (s.Y i)), fun i => (dI (s.Z i))], .lst s.nM [fun i => (dI (s.K i)), fun i => (dI (s.A i)), fun i => (dI (s.B i))], DV.mp (KS.ints 3) (fun (l : List Int) => atH s (rdN s) l) fun (l : List Int) => (dI (atL s (rdN s) l))], (dI (chkE s))])] (.done [s.nN = (cbS c s).nN, ∀ i < (cbS c s).nN, s.X i = (cbS c s).X i, ∀ i < (cbS c s).nN, s.Y i = (cbS c s).Y i, ∀ i < (cbS c s).nN, s.Z i = (cbS c s).Z i, s.nM = (cbS c s).nM, ∀ i < (cbS c s).nM, s.K i = (cbS c s).K i, ∀ i < (cbS c s).nM, s.A i = (cbS c s).A i, ∀ i < (cbS c s).nM, s.B i = (cbS c s).B i, ∀ (l : List Int), atH s (rdN s) l = atH (cbS c s) (cbN c s) l, ∀ (l : List Int), atH (cbS c s) (cbN c s) l = true → atL s (rdN s) l = atL (cbS c s) (cbN c s) l, chkE s = cbE c s])))) (by kernel_rfl) ?_
  simp only [VT.holds, AllT, Sq]
  refine ⟨checkCat_c c, fun h => ?_, fun h => ⟨read_c s, ?_⟩⟩
  · have e1 : cbS c s = sEm := if_neg h
    have e2 : cbN c s = 0 := if_neg h
    rw [e1, e2]
    exact ⟨rfl, rfl, fun l => (atH_0 l).symm, (if_neg h).symm⟩
  · have e1 : cbS c s = s := if_pos h
    have e2 : cbN c s = rdN s := if_pos h
    rw [e1, e2]
    exact ⟨rfl, fun _ _ => rfl, fun _ _ => rfl, fun _ _ => rfl, rfl, fun _ _ => rfl, fun _ _ => rfl, fun _ _ => rfl, fun _ => rfl, fun _ _ => rfl, (if_pos h).symm⟩
noncomputable def A112_asgC_c (s : ByteArray) (k q m t e0 e1 k' a' b' q' : Int) : Ann := { orc := [], loops := [], cuts := [] }
theorem asgC_c (s : ByteArray) (k q m t e0 e1 k' a' b' q' : Int)  : FnC prog 112 [ptD s k q m t e0 e1, .cptr [dI k', dI a', dI b'], .cptr [dI q']] (dB (ftB2 k q k' q')) := by
  refine FnC_owed hmix (A112_asgC_c s k q m t e0 e1 k' a' b' q') (V := .need [ri ((k == k') = true), ri ((k == k') = true), ri ((k == k') = true), ri ((k == k') = true)] (.done [(if (k == k') = true then q == q' else false) = ftB2 k q k' q'])) (by kernel_rfl) ?_
  simp only [VT.holds, AllT, Sq]
  unfold ftB2
  rw [Bool.decide_and]
  rfl
noncomputable def A102_indexA_c (c : Cat) (k a b q : Int) : Ann := { orc := [(4, [(5, .res fun p => dB (ftB2 (fI 1 (arg p 0)) (fI 2 (arg p 0)) k q))])], loops := [(0, { ι := Nat, keep := [0, 1, 7], boxes := [], ts := fun _ i => [(8, dI (i : Int))], inv := fun _ i => i ≤ c.n ∧ ∀ j, j < i → ftP c k q j = false, mu := fun _ i => c.n - i, rd := fun _ σ => (iOf (σ.get 8)).toNat })], cuts := [] }
noncomputable abbrev indexA_cr0 (c : Cat) (r : List Prop) : List Prop := (c.n = c.n) :: (∀ (i : Nat), i < c.n → c.nm i = c.nm i) :: (∀ (i : Nat), i < c.n → c.K i = c.K i) :: (∀ (i : Nat), i < c.n → c.Q i = c.Q i) :: (∀ (i : Nat), i < c.n → c.M i = c.M i) :: (∀ (i : Nat), i < c.n → c.T i = c.T i) :: (∀ (i : Nat), i < c.n → c.E0 i = c.E0 i) :: (∀ (i : Nat), i < c.n → c.E1 i = c.E1 i) :: r
theorem indexA_c (c : Cat) (k a b q : Int) (hn : c.n ≤ 1000000) : FnC prog 102 [prtsD c, .clo 112 [.cptr [dI k, dI a, dI b], .cptr [dI q]]] (dI (ixF (ftP c k q) c.n)) := by
  refine FnC_owed hmix (A102_indexA_c c k a b q) (V := .loop Nat (fun a => a ≤ c.n ∧ ∀ (j : Nat), j < a → ftP c k q j = false) (0:Int).toNat (((0:Int) = (↑(0:Int).toNat : Int)) :: (indexA_cr0 c [k = k, a = a, b = b, q = q, (c.n:Int) = (c.n:Int)])) fun i => .ite (decide ((i:Int) < (c.n:Int))) (.need [(0:Int) ≤ (i:Int) ∧ (i:Int) < (c.n:Int), FnC prog (112 : FuncId) [.val (.agg (Array.mk [.string (c.nm (i:Int).toNat), .int .i64 (c.K (i:Int).toNat), .int .i64 (c.Q (i:Int).toNat), .int .i64 (c.M (i:Int).toNat), .int .i64 (c.T (i:Int).toNat), .int .i64 (c.E0 (i:Int).toNat), .int .i64 (c.E1 (i:Int).toNat)])), .cptr [(dI k), (dI a), (dI b)], .cptr [(dI q)]] ((dB (ftB2 (c.K (i:Int).toNat) (c.Q (i:Int).toNat) k q)))] (.ite (ftB2 (c.K (i:Int).toNat) (c.Q (i:Int).toNat) k q) (.done [(i:Int) = ixF (ftP c k q) c.n]) (.need [i64In ((i:Int) + 1)] (.done (((i:Int) + 1 = (↑((i:Int) + 1).toNat : Int)) :: (indexA_cr0 c [k = k, a = a, b = b, q = q, (c.n:Int) = (c.n:Int), Int.toNat ((i:Int) + 1) ≤ c.n ∧ ∀ (j : Nat), j < ((i:Int) + 1).toNat → ftP c k q j = false, c.n - ((i:Int) + 1).toNat < c.n - i])))))) (.done [(-1:Int) = ixF (ftP c k q) c.n])) (by kernel_rfl) ?_
  simp only [VT.holds, AllT, indexA_cr0, Sq]
  refine ⟨rfl, ⟨Nat.zero_le _, fun j hj => absurd hj (Nat.not_lt_zero j)⟩, fun i ⟨hi, hb'⟩ => ⟨fun hlt => ?_, fun hge => ?_⟩⟩
  · have hlt : i < c.n := by omega
    refine ⟨⟨⟨by omega, by omega⟩, asgC_c _ _ _ _ _ _ _ _ _ _ _⟩, fun h => ?_, fun h => ⟨by unfold i64In; omega, by omega, ⟨by omega, fun j hj => ?_⟩, by omega⟩⟩
    · exact (ixF_at hb' h hlt).symm
    · rcases Nat.lt_or_ge j i with h9 | h9
      · exact hb' j h9
      · obtain rfl : j = i := by omega
        exact h
  · obtain rfl : i = c.n := by omega
    exact (ixF_none hb').symm
noncomputable def A56_Assign_c (c : Cat) (s : Scf) : Ann := { orc := [(1, [(2, .res fun _ => .tup [frmD (cbS c s) (cbN c s), dI (cbE c s)])]), (8, [(2, .res fun q => dI (sqr s (fI 1 (arg q 1)) (fI 2 (arg q 1))))]), (9, [(3, .res fun q => dI (ixF (ftP c (capJ (arg q 1) 0 0) (capJ (arg q 1) 1 0)) c.n))])], loops := [(0, { ι := Nat, keep := [2, 3, 6, 23, 24], boxes := [2, 3, 6], ts := fun _ i => [(25, dI (i : Int))], rw := fun _ i => [(8, 1, i, [fun j => dI (asX c s j)])], inv := fun _ i => i ≤ s.nM ∧ asG c s i = true, mu := fun _ i => s.nM - i, rd := fun _ σ => (iOf (σ.get 25)).toNat })], cuts := [] }
noncomputable abbrev Assign_cd0 (c : Cat) (s : Scf) : DV := .agg [.lst (cbS c s).nN [fun i => (dI ((cbS c s).X i)), fun i => (dI ((cbS c s).Y i)), fun i => (dI ((cbS c s).Z i))], .lst (cbS c s).nM [fun i => (dI ((cbS c s).K i)), fun i => (dI ((cbS c s).A i)), fun i => (dI ((cbS c s).B i))], DV.mp (KS.ints (3:Nat)) (fun (l : List Int) => atH (cbS c s) (cbN c s) l) fun (l : List Int) => (dI (atL (cbS c s) (cbN c s) l))]
noncomputable abbrev Assign_cr0 (c : Cat) (s : Scf) (r : List Prop) : List Prop := (c.n = c.n) :: (∀ (i : Nat), i < c.n → c.nm i = c.nm i) :: (∀ (i : Nat), i < c.n → c.K i = c.K i) :: (∀ (i : Nat), i < c.n → c.Q i = c.Q i) :: (∀ (i : Nat), i < c.n → c.M i = c.M i) :: (∀ (i : Nat), i < c.n → c.T i = c.T i) :: (∀ (i : Nat), i < c.n → c.E0 i = c.E0 i) :: (∀ (i : Nat), i < c.n → c.E1 i = c.E1 i) :: (c.m = c.m) :: (∀ (i : Nat), i < c.m → c.P0 i = c.P0 i) :: (∀ (i : Nat), i < c.m → c.P1 i = c.P1 i) :: (s.nN = s.nN) :: (∀ (i : Nat), i < s.nN → s.X i = s.X i) :: (∀ (i : Nat), i < s.nN → s.Y i = s.Y i) :: (∀ (i : Nat), i < s.nN → s.Z i = s.Z i) :: (s.nM = s.nM) :: (∀ (i : Nat), i < s.nM → s.K i = s.K i) :: (∀ (i : Nat), i < s.nM → s.A i = s.A i) :: (∀ (i : Nat), i < s.nM → s.B i = s.B i) :: ((cbS c s).nN = (cbS c s).nN) :: (∀ (i : Nat), i < (cbS c s).nN → (cbS c s).X i = (cbS c s).X i) :: (∀ (i : Nat), i < (cbS c s).nN → (cbS c s).Y i = (cbS c s).Y i) :: (∀ (i : Nat), i < (cbS c s).nN → (cbS c s).Z i = (cbS c s).Z i) :: ((cbS c s).nM = (cbS c s).nM) :: (∀ (i : Nat), i < (cbS c s).nM → (cbS c s).K i = (cbS c s).K i) :: (∀ (i : Nat), i < (cbS c s).nM → (cbS c s).A i = (cbS c s).A i) :: (∀ (i : Nat), i < (cbS c s).nM → (cbS c s).B i = (cbS c s).B i) :: r
theorem Assign_c (c : Cat) (s : Scf)  : FnC prog 56 [catD c, scfD s] (.tup [.lst (asN c s) [fun i => dI (asX c s i)], dI (asE c s)]) := by
  refine FnC_owed hmix (A56_Assign_c c s) (V := .need [FnC prog 111 [.agg [.lst c.n [fun i => .val (.string (c.nm i)), fun i => (dI (c.K i)), fun i => (dI (c.Q i)), fun i => (dI (c.M i)), fun i => (dI (c.T i)), fun i => (dI (c.E0 i)), fun i => (dI (c.E1 i))], .lst c.m [fun i => (dI (c.P0 i)), fun i => (dI (c.P1 i))]], .agg [.lst s.nN [fun i => (dI (s.X i)), fun i => (dI (s.Y i)), fun i => (dI (s.Z i))], .lst s.nM [fun i => (dI (s.K i)), fun i => (dI (s.A i)), fun i => (dI (s.B i))]]] (.tup [(Assign_cd0 c s), (dI (cbE c s))])] (.ite (cbE c s != 0) (.done [asN c s = 0, cbE c s = asE c s]) (.loop Nat (fun a => a ≤ s.nM ∧ asG c s a = true) (0:Int).toNat (((0:Int) = (↑(0:Int).toNat : Int)) :: (((0:Nat) = 0) :: ((Int.toNat (0:Int) = 0) :: ((s.nM = s.nM) :: ((∀ i < s.nM, s.K i = s.K i) :: ((∀ i < s.nM, s.A i = s.A i) :: ((∀ i < s.nM, s.B i = s.B i) :: (((s.nM:Int) = (s.nM:Int)) :: ((Int.toNat (0:Int) = 0) :: (Assign_cr0 c s [∀ (l : List Int), atH (cbS c s) (cbN c s) l = atH (cbS c s) (cbN c s) l, ∀ (l : List Int), atH (cbS c s) (cbN c s) l = true → atL (cbS c s) (cbN c s) l = atL (cbS c s) (cbN c s) l])))))))))) fun i => .ite (decide ((i:Int) < (s.nM:Int))) (.need [(0:Int) ≤ (i:Int) ∧ (i:Int) < (s.nM:Int)] (.need [FnC prog 91 [(Assign_cd0 c s), .val (.agg (Array.mk [.int .i64 (s.K (i:Int).toNat), .int .i64 (s.A (i:Int).toNat), .int .i64 (s.B (i:Int).toNat)]))] ((dI (sqr s (s.A (i:Int).toNat) (s.B (i:Int).toNat))))] (.need [FnC prog 102 [.lst c.n [fun i => .val (.string (c.nm i)), fun i => (dI (c.K i)), fun i => (dI (c.Q i)), fun i => (dI (c.M i)), fun i => (dI (c.T i)), fun i => (dI (c.E0 i)), fun i => (dI (c.E1 i))], .clo (112:Nat) [.cptr [(dI (s.K (i:Int).toNat)), (dI (s.A (i:Int).toNat)), (dI (s.B (i:Int).toNat))], .cptr [(dI (sqr s (s.A (i:Int).toNat) (s.B (i:Int).toNat)))]]] ((dI
     (ixF (ftP c (s.K (i:Int).toNat) (sqr s (s.A (i:Int).toNat) (s.B (i:Int).toNat))) c.n)))] (.ite (decide (ixF (ftP c (s.K (i:Int).toNat) (sqr s (s.A (i:Int).toNat) (s.B (i:Int).toNat))) c.n < 0)) (.done [asN c s = 0, (6:Int) = asE c s]) (.need [i ≤ i, (i + 1) * (nat_lit 7 + 1) ≤ 140737488355328, (1:Nat) ≤ 1] (.need [i64In ((i:Int) + 1)] (.done (((i:Int) + 1 = (↑((i:Int) + 1).toNat : Int)) :: (((0:Nat) = 0) :: ((i + 1 = ((i:Int) + 1).toNat) :: ((s.nM = s.nM) :: ((∀ i < s.nM, s.K i = s.K i) :: ((∀ i < s.nM, s.A i = s.A i) :: ((∀ i < s.nM, s.B i = s.B i) :: (((s.nM:Int) = (s.nM:Int)) :: ((i + 1 = ((i:Int) + 1).toNat) :: ((∀ i_1 < ((i:Int) + 1).toNat, (if decide (i_1 < i) = true then asX c s i_1 else ixF (ftP c (s.K (i:Int).toNat) (sqr s (s.A (i:Int).toNat) (s.B (i:Int).toNat))) c.n) = asX c s i_1) :: (Assign_cr0 c s [∀ (l : List Int), atH (cbS c s) (cbN c s) l = atH (cbS c s) (cbN c s) l, ∀ (l : List Int), atH (cbS c s) (cbN c s) l = true → atL (cbS c s) (cbN c s) l = atL (cbS c s) (cbN c s) l, Int.toNat ((i:Int) + 1) ≤ s.nM ∧ asG c s ((i:Int) + 1).toNat = true, s.nM - ((i:Int) + 1).toNat < s.nM - i])))))))))))))))))) (.done [i ≤ i, i = asN c s, ∀ i < asN c s, asX c s i = asX c s i, (0:Int) = asE c s])))) (by kernel_rfl) ?_
  simp only [VT.holds, AllT, Assign_cd0, Assign_cr0, Sq]
  refine ⟨both_c c s, fun h => ?_, fun h0 => ⟨rfl, ⟨Nat.zero_le _, rfl⟩, fun i ⟨hi, hg⟩ => ⟨fun hlt => ?_, fun hge => ?_⟩⟩⟩
  · have e : asE c s = cbE c s := if_pos h
    exact ⟨by rw [asN, e, if_neg h], e.symm⟩
  · have hlt : i < s.nM := by omega
    obtain ⟨h1, h2⟩ := cbE_ok h0
    have hc := chk_facts h2
    have hm := hc.nM
    obtain ⟨hA, hB⟩ := hc.ends i hlt
    have e1 : cbS c s = s := if_pos h1
    have e2 : cbN c s = s.nN := by rw [cbN, if_pos h1, rdN_ok h2]
    have hn : c.n ≤ 1000000 := by have := ct_n2 h1; omega
    rw [e1, e2]
    refine ⟨⟨by omega, by omega⟩, square_c s _ _ _ hA hB hc, indexA_c c _ _ _ _ hn, fun h => ?_, fun h => ⟨⟨Nat.le_refl _, by omega, Nat.le_refl _⟩, by unfold i64In; omega, by omega, fun j hj => ?_, ⟨hlt, by rw [asG, hg]; exact decide_eq_true (by show 0 ≤ ixF _ _; omega)⟩, by omega⟩⟩
    · have e : asE c s = 6 := by rw [asE, if_neg (fun h => h h0), if_neg (by rw [asG_no h hlt]; decide)]
      exact ⟨by rw [asN, e, if_neg (by decide)], e.symm⟩
    · by_cases h9 : j < i
      · rw [if_pos h9]
      · rw [if_neg h9]
        obtain rfl : j = i := by omega
        rfl
  · obtain rfl : i = s.nM := by omega
    have e : asE c s = 0 := by rw [asE, if_neg (fun h => h h0), if_pos hg]
    exact ⟨Nat.le_refl _, by rw [asN, if_pos e], e.symm⟩
end Go.Abs
