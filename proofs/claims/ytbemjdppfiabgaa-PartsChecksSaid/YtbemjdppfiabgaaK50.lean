/- Contracts. -/
import Derived.Test.YtbemjdppfiabgaaK47
import Derived.Test.YtbemjdppfiabgaaK49
set_option linter.unusedVariables false
set_option linter.unusedSimpArgs false
set_option maxRecDepth 100000
namespace Go.Abs
open Go
theorem sq_swap (p q : Int) : (p - q) * (p - q) = (q - p) * (q - p) := by
  have e : p - q = -(q - p) := by omega
  rw [e, Int.neg_mul_neg]
noncomputable def A30_checkQ_c (s : Scf) : Ann := { orc := [(1, [(1, .res fun q => rdD s)])], loops := [], cuts := [] }
theorem checkQ_c (s : Scf)  : FnC prog 30 [scfD s] (dI (chkE s)) := by
  refine FnC_owed hmix (A30_checkQ_c s) (V := .need [FnC prog 74 [.agg [.lst s.nN [fun i => (dI (s.X i)), fun i => (dI (s.Y i)), fun i => (dI (s.Z i))], .lst s.nM [fun i => (dI (s.K i)), fun i => (dI (s.A i)), fun i => (dI (s.B i))]]] (.tup [.agg [.lst s.nN [fun i => (dI (s.X i)), fun i => (dI (s.Y i)), fun i => (dI (s.Z i))], .lst s.nM [fun i => (dI (s.K i)), fun i => (dI (s.A i)), fun i => (dI (s.B i))], DV.mp (KS.ints 3) (fun (l : List Int) => atH s (rdN s) l) fun (l : List Int) => (dI (atL s (rdN s) l))], (dI (chkE s))])] (.done [chkE s = chkE s])) (by kernel_rfl) ?_
  simp only [VT.holds, AllT, Sq]
  exact read_c s
noncomputable def A32_squareR_c (s : Scf) (k a b : Int) : Ann := { orc := [], loops := [], cuts := [] }
theorem squareR_c (s : Scf) (k a b : Int) (ha : 0 ≤ a ∧ a < s.nN) (hb : 0 ≤ b ∧ b < s.nN) (hc : ScfOK s) : FnC prog 32 [scfD s, dM k a b] (dI (sqr s a b)) := by
  refine FnC_owed hmix (A32_squareR_c s k a b) (V := .need [(0:Int) ≤ a ∧ a < (s.nN:Int), (0:Int) ≤ b ∧ b < (s.nN:Int)] (.need [i64In (s.X a.toNat - s.X b.toNat), i64In (s.X a.toNat - s.X b.toNat), i64In ((s.X a.toNat - s.X b.toNat) * (s.X a.toNat - s.X b.toNat)), i64In (s.Y a.toNat - s.Y b.toNat), i64In (s.Y a.toNat - s.Y b.toNat), i64In ((s.Y a.toNat - s.Y b.toNat) * (s.Y a.toNat - s.Y b.toNat)), i64In ((s.X a.toNat - s.X b.toNat) * (s.X a.toNat - s.X b.toNat) + (s.Y a.toNat - s.Y b.toNat) * (s.Y a.toNat - s.Y b.toNat)), i64In (s.Z a.toNat - s.Z b.toNat), i64In (s.Z a.toNat - s.Z b.toNat), i64In ((s.Z a.toNat - s.Z b.toNat) * (s.Z a.toNat - s.Z b.toNat)), i64In ((s.X a.toNat - s.X b.toNat) * (s.X a.toNat - s.X b.toNat) + (s.Y a.toNat - s.Y b.toNat) * (s.Y a.toNat - s.Y b.toNat) + (s.Z a.toNat - s.Z b.toNat) * (s.Z a.toNat - s.Z b.toNat))] (.done [(s.X a.toNat - s.X b.toNat) * (s.X a.toNat - s.X b.toNat) + (s.Y a.toNat - s.Y b.toNat) * (s.Y a.toNat - s.Y b.toNat) + (s.Z a.toNat - s.Z b.toNat) * (s.Z a.toNat - s.Z b.toNat) = sqr s a b]))) (by kernel_rfl) ?_
  simp only [VT.holds, AllT, Sq]
  have ea : a.toNat < s.nN := by omega
  have eb : b.toNat < s.nN := by omega
  obtain ⟨⟨x1, y1, z1⟩, _⟩ := hc.node _ ea
  obtain ⟨⟨x2, y2, z2⟩, _⟩ := hc.node _ eb
  have x1 := inC_bd x1
  have y1 := inC_bd y1
  have z1 := inC_bd z1
  have x2 := inC_bd x2
  have y2 := inC_bd y2
  have z2 := inC_bd z2
  have hx := sq_bd x1 x2
  have hy := sq_bd y1 y2
  have hz := sq_bd z1 z2
  refine ⟨⟨ha, hb⟩, ⟨by unfold i64In; omega, by unfold i64In; omega, by unfold i64In; omega, by unfold i64In; omega, by unfold i64In; omega, by unfold i64In; omega, by unfold i64In; omega, by unfold i64In; omega, by unfold i64In; omega, by unfold i64In; omega, by unfold i64In; omega⟩, ?_⟩
  rw [sqr, sq_swap (s.X a.toNat), sq_swap (s.Y a.toNat), sq_swap (s.Z a.toNat)]
noncomputable def A5_checks_c (s : Scf) (i : Int) : Ann := { orc := [(1, [(0, .res fun _ => dB true)]), (3, [(1, .res fun _ => dB (fewF s))]), (5, [(1, .res fun _ => dI (chkE s))]), (6, [(2, .res fun _ => .tup [dI (sqV s i), dI (sqE s i)])]), (7, [(1, .res fun _ => .tup [dI (cpV s : Int), dI (chkE s)])]), (8, [(1, .res fun _ => dI (chkE s))]), (12, [(5, .res fun _ => dI (cpN s : Int))]), (14, [(5, .res fun _ => dB (decide (0 ≤ i ∧ i ≤ (s.nM : Int) - 1)))]), (16, [(10, .res fun q => dI (sqr s (fI 1 (arg q 1)) (fI 2 (arg q 1))))])], loops := [], cuts := [] }
noncomputable abbrev checks_cd0 (s : Scf) (i : Int) : DV := .agg [.lst s.nN [fun i => (dI (s.X i)), fun i => (dI (s.Y i)), fun i => (dI (s.Z i))], .lst s.nM [fun i => (dI (s.K i)), fun i => (dI (s.A i)), fun i => (dI (s.B i))]]
theorem checks_c (s : Scf) (i : Int)  : FnC prog 5 [scfD s, dI i] (dB true) := by
  refine FnC_owed hmix (A5_checks_c s i) (V := .need [FnC prog 15 [] ((dB true))] (.ite (!true) (.done [false = true]) (.need [FnC prog 16 [(checks_cd0 s i)] ((dB (decide (s.nN ≤ 40 ∧ s.nM ≤ 120))))] (.ite (!decide (s.nN ≤ 40 ∧ s.nM ≤ 120)) (.done [true = true]) (.need [FnC prog 19 [(checks_cd0 s i)] ((dI (chkE s)))] (.need [FnC prog 28 [(checks_cd0 s i), (dI i)] (.tup [(dI (sqV s i)), (dI (sqE s i))])] (.need [FnC prog 29 [(checks_cd0 s i)] (.tup [(dI (↑(cpV s) : Int)), (dI (chkE s))])] (.need [FnC prog 30 [(checks_cd0 s i)] ((dI (chkE s)))] (.ite (chkE s != chkE s) (.done [false = true]) (.ite (chkE s != 0) (.need [ri ((sqE s i == chkE s) = true), ri ((sqE s i == chkE s) = true), ri ((sqE s i == chkE s) = true), ri ((if (sqE s i == chkE s) = true then chkE s == chkE s else false) = true), ri ((if (sqE s i == chkE s) = true then chkE s == chkE s else false) = true), ri ((if (if (sqE s i == chkE s) = true then chkE s == chkE s else false) = true then sqV s i == 0 else false) = true), ri ((if (if (sqE s i == chkE s) = true then chkE s == chkE s else false) = true then sqV s i == 0 else false) = true)] (.done [(if (if (if (sqE s i == chkE s) = true then chkE s == chkE s else false) = true then sqV s i == 0 else false) = true then (↑(cpV s) : Int) == 0 else false) = true])) (.need [ri ((!chkE s != 0) = true), (!chkE s != 0) = true → FnC prog 31 [(checks_cd0 s i)] ((dI (↑(cpN s) : Int))), ri ((!chkE s != 0) = true), ri ((!chkE s != 0) = true), (chkE s != 0) = false → (!chkE s != 0) = true] (.ite (if (chkE s != 0) = true then true else (↑(cpV s) : Int) != (↑(cpN s) : Int)) (.done [false = true]) (.need [i64In ((s.nM:Int) - 1), FnC prog 24 [(dI i), (dI (0:Int)), (dI ((s.nM:Int) - 1))] ((dB (decide ((0:Int) ≤ i ∧ i ≤ (s.nM:Int) - 1))))] (.ite (!decide ((0:Int) ≤ i ∧ i ≤ (s.nM:Int) - 1)) (.need [ri ((sqE s i == 6) = true), ri ((sqE s i == 6) = true)] (.done [(if (sqE s i == 6) = true then sqV s i == 0 else false) = true])) (.need [ri ((sqE s i == 0) = true), ri ((sqE s i == 0) = true), ri ((sqE s i == 0) = true), (sqE s i == 0) = true → (0:Int) ≤ i ∧ i < (s.nM:Int), ri ((sqE s i == 0) = true), ri ((sqE s i == 0) = true), ri ((sqE s i == 0) = true), (sqE s i == 0) = true → FnC prog 32 [(checks_cd0 s i), .val (.agg (Array.mk [.int .i64 (s.K i.toNat), .int .i64 (s.A i.toNat), .int .i64 (s.B i.toNat)]))] ((dI (sqr s (s.A i.toNat) (s.B i.toNat)))), ri ((sqE s i == 0) = true), ri ((sqE s i == 0) = true), ri ((sqE s i == 0) = true)] (.done [(if (sqE s i == 0) = true then sqV s i == sqr s (s.A i.toNat) (s.B i.toNat) else false) = true])))))))))))))))) (by kernel_rfl) ?_
  simp only [VT.holds, AllT, checks_cd0, Sq]
  refine ⟨awake_c, fun h => (by cases h), fun _ => ⟨few_c s, fun ⟨h1, h2⟩ => ⟨check_c s, Square_c s i, Components_c s, checkQ_c s, fun h => absurd trivial h, fun _ => ⟨fun h => ⟨⟨by rw [sqE, if_pos h], by rw [sqV, if_neg (fun h' => h h'.1)]⟩, by rw [cpV, if_neg h]; rfl⟩, fun h0 => ?_⟩⟩⟩⟩
  have hc := chk_facts h0
  have ec : cpV s = cpN s := by rw [cpV, if_pos h0]
  refine ⟨fun _ => componentsR_c s hc, fun h => ?_, fun _ => ⟨⟨by unfold i64In; omega, within3_c _ _ _⟩, fun ho => ?_, fun hi => ?_⟩⟩
  · rcases h with h | h
    · exact absurd h0 h
    · rw [ec] at h; exact absurd rfl h
  · have h9 : ¬ okI s i = true := by rw [okI, decide_eq_true_eq]; omega
    exact ⟨by rw [sqE, if_neg (by rw [h0]; simp), if_neg h9], by rw [sqV, if_neg (fun h' => h9 h'.2)]⟩
  · have h9 : okI s i = true := by rw [okI, decide_eq_true_eq]; omega
    obtain ⟨hA, hB⟩ := hc.ends i.toNat (by omega)
    exact ⟨⟨fun _ => ⟨by omega, by omega⟩, fun _ => squareR_c s _ _ _ hA hB hc⟩, by rw [sqE, if_neg (by rw [h0]; simp), if_pos h9], by rw [sqV, if_pos ⟨h0, h9⟩]⟩
end Go.Abs
