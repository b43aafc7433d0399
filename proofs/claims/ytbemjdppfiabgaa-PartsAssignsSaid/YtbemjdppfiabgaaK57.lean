/- Contracts. -/
import Derived.Test.YtbemjdppfiabgaaK56
import Derived.Test.YtbemjdppfiabgaaK21
set_option linter.unusedVariables false
set_option linter.unusedSimpArgs false
set_option maxRecDepth 100000
namespace Go.Abs
open Go
abbrev jtI (c : Cat) (s : Scf) (l : Nat → Int) (j : Nat) : Int := flI (ndB c s l) s.nN j
theorem asE_is {c : Cat} {s : Scf} (h : cbE c s = 0) : asE c s = if asG c s s.nM = true then 0 else 6 := by rw [asE, if_neg (fun h' => h' h)]
theorem jc_in {c : Cat} {s : Scf} {n : Nat} {l : Nat → Int} (h : jcE c s n l = 0) : n = s.nM ∧ ∀ m, m < s.nM → 0 ≤ l m ∧ l m < c.n := by
  unfold jcE at h
  split at h
  · cases h
  · rename_i h1
    refine ⟨by omega, fun m hm => ?_⟩
    have := firstE_zero h m hm
    unfold cpE at this
    split at this
    · cases this
    · omega
theorem same_self (n : Nat) (A : Nat → Int) : sameN n A n A = true := decide_eq_true ⟨rfl, fun _ _ => rfl⟩
noncomputable def A11_assigns_c (c : Cat) (s : Scf) (n : Nat) (l : Nat → Int) : Ann := { orc := [(1, [(0, .res fun _ => dB true)]), (3, [(1, .res fun _ => dB (fewF s)), (5, .res fun _ => dB (decide (c.n ≤ 70 ∧ c.m ≤ 210)))]), (5, [(2, .res fun _ => .tup [.lst (asN c s) [fun i => dI (asX c s i)], dI (asE c s)])]), (6, [(3, .res fun _ => lsI n l), (4, .res fun _ => .tup [.lst (jtN c s n l) [fun j => dI (flI (ndB c s l) s.nN j)], dI (jnE c s n l)])]), (7, [(1, .res fun _ => dI (ctE c))]), (9, [(1, .res fun _ => dI (chkE s))]), (12, [(2, .res fun _ => .tup [.lst (asM c s) [fun i => dI (asX c s i)], dB (asG c s s.nM)])]), (13, [(19, .res fun _ => dB (sameN (asN c s) (asX c s) (asM c s) (asX c s)))]), (15, [(3, .res fun _ => dI (jcE c s n l))]), (18, [(7, .res fun _ => .lst (flN (ndB c s l) s.nN) [fun j => dI (flI (ndB c s l) s.nN j)]), (8, .res fun _ => dB (sameN (jtN c s n l) (jtI c s l) (flN (ndB c s l) s.nN) (jtI c s l)))])], loops := [], cuts := [] }
noncomputable abbrev q_assigns_c_0 (c : Cat) (s : Scf) : Bool := !asG c s s.nM && !asE c s != (6:Int)
noncomputable abbrev q_assigns_c_1 (c : Cat) : Bool := decide (c.n ≤ (70:Nat) ∧ c.m ≤ (210:Nat))
noncomputable abbrev q_assigns_c_2 (s : Scf) : Bool := decide (s.nN ≤ (40:Nat) ∧ s.nM ≤ (120:Nat))
noncomputable abbrev q_assigns_c_3 (s : Scf) (c : Cat) : Bool := !if (!(q_assigns_c_2 s)) = true then true else !(q_assigns_c_1 c)
noncomputable abbrev q_assigns_c_4 (c : Cat) (s : Scf) (n : Nat) (l : Nat → Int) : Bool := if (asE c s == ctE c) = true then jnE c s n l == ctE c else false
noncomputable abbrev q_assigns_c_5 (c : Cat) (s : Scf) (n : Nat) (l : Nat → Int) : Bool := if (asE c s == chkE s) = true then jnE c s n l == chkE s else false
noncomputable abbrev q_assigns_c_6 (c : Cat) (s : Scf) (n : Nat) (l : Nat → Int) : Bool := if (q_assigns_c_5 c s n l) = true then (↑(asN c s) : Int) == (0:Int) else false
noncomputable abbrev q_assigns_c_7 (c : Cat) (s : Scf) (n : Nat) (l : Nat → Int) : Bool := if (q_assigns_c_4 c s n l) = true then (↑(asN c s) : Int) == (0:Int) else false
noncomputable abbrev q_assigns_c_8 (c : Cat) (s : Scf) : Bool := if (!asG c s s.nM) = true then if (asE c s != (6:Int)) = true then true else (↑(asN c s) : Int) != (0:Int) else false
noncomputable abbrev q_assigns_c_9 (c : Cat) (s : Scf) : Bool := !if (!asG c s s.nM) = true then if (asE c s != (6:Int)) = true then true else (↑(asN c s) : Int) != (0:Int) else false
noncomputable abbrev assigns_cd0 (c : Cat) : DV := .agg [.lst c.n [fun i => .val (.string (c.nm i)), fun i => (dI (c.K i)), fun i => (dI (c.Q i)), fun i => (dI (c.M i)), fun i => (dI (c.T i)), fun i => (dI (c.E0 i)), fun i => (dI (c.E1 i))], .lst c.m [fun i => (dI (c.P0 i)), fun i => (dI (c.P1 i))]]
noncomputable abbrev assigns_cd1 (s : Scf) : DV := .agg [.lst s.nN [fun i => (dI (s.X i)), fun i => (dI (s.Y i)), fun i => (dI (s.Z i))], .lst s.nM [fun i => (dI (s.K i)), fun i => (dI (s.A i)), fun i => (dI (s.B i))]]
theorem assigns_c (c : Cat) (s : Scf) (n : Nat) (l : Nat → Int)  : FnC prog 11 [catD c, scfD s, lsI n l] (dB true) := by
  refine FnC_owed hmix (A11_assigns_c c s n l) (V := .need [FnC prog 15 [] ((dB true))] (.ite (!true) (.done [false = true]) (.need [FnC prog 16 [(assigns_cd1 s)] ((dB ((q_assigns_c_2 s)))), ri ((!!(q_assigns_c_2 s)) = true), (!!(q_assigns_c_2 s)) = true → FnC prog 39 [(assigns_cd0 c)] ((dB ((q_assigns_c_1 c)))), ri ((!!(q_assigns_c_2 s)) = true), (!(q_assigns_c_2 s)) = false → (!!(q_assigns_c_2 s)) = true, ri ((q_assigns_c_3 s c) = true), ri ((q_assigns_c_3 s c) = true), (if (!(q_assigns_c_2 s)) = true then true else !(q_assigns_c_1 c)) = false → (q_assigns_c_3 s c) = true] (.ite (if (if (!(q_assigns_c_2 s)) = true then true else !(q_assigns_c_1 c)) = true then true else decide ((n:Int) > 130)) (.done [true = true]) (.need [FnC prog 56 [(assigns_cd0 c), (assigns_cd1 s)] (.tup [.lst (asN c s) [fun i => (dI (asX c s i))], (dI (asE c s))])] (.need [FnC prog 45 [.lst n [fun j => (dI (l j))]] (.lst n [fun j => (dI (l j))]), FnC prog 57 [(assigns_cd0 c), (assigns_cd1 s), .lst n [fun j => (dI (l j))]] (.tup [.lst (jtN c s n l) [fun j => (dI (↑(flI (ndB c s l) s.nN j) : Int))], (dI (jnE c s n l))])] (.need [FnC prog 40 [(assigns_cd0 c)] ((dI (ctE c)))] (.ite (ctE c == 0) (.need [FnC prog 19 [(assigns_cd1 s)] ((dI (chkE s)))] (.ite (chkE s != 0) (.need [ri ((asE c s == chkE s) = true), ri ((asE c s == chkE s) = true), ri ((asE c s == chkE s) = true), ri ((q_assigns_c_5 c s n l) = true), ri ((q_assigns_c_5 c s n l) = true), ri ((q_assigns_c_5 c s n l) = true), ri ((q_assigns_c_6 c s n l) = true), ri ((q_assigns_c_6 c s n l) = true), ri ((q_assigns_c_6 c s n l) = true)] (.done [(if (q_assigns_c_6 c s n l)
     = true then (↑(jtN c s n l) : Int) == 0 else false) = true])) (.need [FnC prog 58 [(assigns_cd0 c), (assigns_cd1 s)] (.tup [.lst (asM c s) [fun i => (dI (asX c s i))], (dB (asG c s s.nM))])] (.need [ri ((!asG c s s.nM) = true), ri ((!asG c s s.nM) = true), ri ((q_assigns_c_0 c s) = true), ri ((q_assigns_c_0 c s) = true), ri ((!asG c s s.nM) = true), (!asG c s s.nM) = true → (asE c s != 6) = false → (q_assigns_c_0 c s) = true, ri ((!asG c s s.nM) = true), ri ((q_assigns_c_9 c s) = true), ri (((q_assigns_c_9 c s) && asG c s s.nM) = true), ri (((q_assigns_c_9 c s) && asG c s s.nM) = true), ri (((q_assigns_c_9 c s) && asG c s s.nM && !asE c s != 0) = true), ri (((q_assigns_c_9 c s) && asG c s s.nM && !asE c s != 0) = true), ((q_assigns_c_9 c s) && asG c s s.nM && !asE c s != 0) = true → FnC prog 20 [.lst (asN c s) [fun i => (dI (asX c s i))], .lst (asM c s) [fun i => (dI (asX c s i))]] ((dB (sameN (asN c s) (asX c s) (asM c s) (asX c s)))), ri (((q_assigns_c_9 c s) && asG c s s.nM && !asE c s != 0) = true), ri (((q_assigns_c_9 c s) && asG c s s.nM) = true), ((q_assigns_c_9 c s) && asG c s s.nM) = true → (asE c s != 0) = false → ((q_assigns_c_9 c s) && asG c s s.nM && !asE c s != 0) = true, ri ((q_assigns_c_9 c s) = true), (q_assigns_c_9 c s) = true → asG c s s.nM = true → ((q_assigns_c_9 c s) && asG c s s.nM) = true, (q_assigns_c_8 c s) = false → (q_assigns_c_9 c s) = true] (.ite (if
     (q_assigns_c_8 c s) = true then true else if asG c s s.nM = true then if (asE c s != 0) = true then true else !sameN (asN c s) (asX c s) (asM c s) (asX c s) else false) (.done [false = true]) (.need [FnC prog 59 [(assigns_cd0 c), (assigns_cd1 s), .lst n [fun j => (dI (l j))]] ((dI (jcE c s n l)))] (.ite (jcE c s n l != 0) (.need [ri ((jnE c s n l == jcE c s n l) = true), ri ((jnE c s n l == jcE c s n l) = true), ri ((jnE c s n l == jcE c s n l) = true)] (.done [(if (jnE c s n l == jcE c s n l) = true then (↑(jtN c s n l) : Int) == 0 else false) = true])) (.need [ri ((jnE c s n l == 0) = true), ri ((jnE c s n l == 0) = true), ri ((jnE c s n l == 0) = true), (jnE c s n l == 0) = true → FnC prog 60 [(assigns_cd0 c), (assigns_cd1 s), .lst n [fun j => (dI (l j))]] (.lst (flN (ndB c s l) s.nN) [fun j => (dI (↑(flI (ndB c s l) s.nN j) : Int))]), ri ((jnE c s n l == 0) = true), ri ((jnE c s n l == 0) = true), (jnE c s n l == 0) = true → FnC prog 20 [.lst (jtN c s n l) [fun j => (dI (↑(flI (ndB c s l) s.nN j) : Int))], .lst (flN (ndB c s l) s.nN) [fun j => (dI (↑(flI (ndB c s l) s.nN j) : Int))]] ((dB (sameN (jtN c s n l) (fun j => (↑(flI (ndB c s l) s.nN j) : Int)) (flN (ndB c s l) s.nN) fun j => (↑(flI (ndB c s l) s.nN j) : Int)))), ri ((jnE c s n l == 0) = true)] (.done [(if (jnE c s n l == 0) = true then sameN (jtN c s n l) (fun j => (↑(flI (ndB c s l) s.nN j) : Int)) (flN (ndB c s l) s.nN) fun j => (↑(flI (ndB c s l) s.nN j) : Int) else false) = true]))))))))) (.ite (ctE c != 0) (.need [ri ((asE c s == ctE c) = true), ri ((asE c s == ctE c) = true), ri ((asE c s == ctE c) = true), ri ((q_assigns_c_4 c s n l) = true), ri ((q_assigns_c_4 c s n l) = true), ri ((q_assigns_c_4 c s n l) = true), ri ((q_assigns_c_7 c s n l) = true), ri ((q_assigns_c_7 c s n l) = true), ri ((q_assigns_c_7 c s n l) = true)] (.done [(if (q_assigns_c_7 c s n l) = true then (↑(jtN c s n l) : Int) == 0 else false) = true])) (.need [FnC prog 58 [(assigns_cd0 c), (assigns_cd1 s)] (.tup [.lst (asM c s) [fun i => (dI (asX c s i))], (dB (asG c s s.nM))])] (.need [ri ((!asG c s s.nM) = true), ri ((!asG c s s.nM) = true), ri ((q_assigns_c_0 c s) = true), ri ((q_assigns_c_0 c s) = true), ri ((!asG c s s.nM) = true), (!asG c s s.nM) = true → (asE c s != 6) = false → (q_assigns_c_0 c s) = true, ri ((!asG c s s.nM) = true), ri ((q_assigns_c_9 c s) = true), ri (((q_assigns_c_9 c s) && asG c s s.nM) = true), ri (((q_assigns_c_9 c s) && asG c s s.nM) = true), ri (((q_assigns_c_9 c s) && asG c s s.nM && !asE c s != 0) = true), ri (((q_assigns_c_9 c s) && asG c s s.nM && !asE c s != 0) = true), ((q_assigns_c_9 c s) && asG c s s.nM && !asE c s != 0) = true → FnC prog 20 [.lst (asN c s) [fun i => (dI (asX c s i))], .lst (asM c s) [fun i => (dI (asX c s i))]] ((dB (sameN (asN c s) (asX c s) (asM c s) (asX c s)))), ri (((q_assigns_c_9 c s) && asG c s s.nM && !asE c s != 0) = true), ri (((q_assigns_c_9 c s) && asG c s s.nM) = true), ((q_assigns_c_9 c s) && asG c s s.nM) = true → (asE c s != 0) = false → ((q_assigns_c_9 c s) && asG c s s.nM && !asE c s != 0) = true, ri ((q_assigns_c_9 c s) = true), (q_assigns_c_9 c s) = true → asG c s s.nM = true → ((q_assigns_c_9 c s) && asG c s s.nM) = true, (q_assigns_c_8 c s) = false → (q_assigns_c_9 c s) = true] (.ite (if (q_assigns_c_8 c s) = true then true else if asG c s s.nM = true then if (asE c s != 0) = true then true else !sameN (asN c s) (asX c s) (asM c s) (asX c s) else false) (.done [false = true]) (.need [FnC prog 59 [(assigns_cd0 c), (assigns_cd1 s), .lst n [fun j => (dI (l j))]] ((dI (jcE c s n l)))] (.ite (jcE c s n l != 0) (.need [ri ((jnE c s n l == jcE c s n l) = true), ri ((jnE c s n l == jcE c s n l) = true), ri ((jnE c s n l == jcE c s n l) = true)] (.done [(if (jnE c s n l == jcE c s n l) = true then (↑(jtN c s n l) : Int) == 0 else false) = true])) (.need [ri ((jnE c s n l == 0) = true), ri ((jnE c s n l == 0) = true), ri ((jnE c s n l == 0) = true), (jnE c s n l == 0) = true → FnC prog 60 [(assigns_cd0 c), (assigns_cd1 s), .lst n [fun j => (dI (l j))]] (.lst (flN (ndB c s l) s.nN) [fun j => (dI (↑(flI (ndB c s l) s.nN j) : Int))]), ri ((jnE c s n l == 0) = true), ri ((jnE c s n l == 0) = true), (jnE c s n l == 0) = true → FnC prog 20 [.lst (jtN c s n l) [fun j => (dI (↑(flI (ndB c s l) s.nN j) : Int))], .lst (flN (ndB c s l) s.nN) [fun j => (dI (↑(flI (ndB c s l) s.nN j) : Int))]] ((dB (sameN (jtN c s n l) (fun
     j => (↑(flI (ndB c s l) s.nN j) : Int)) (flN (ndB c s l) s.nN) fun j => (↑(flI (ndB c s l) s.nN j) : Int)))), ri ((jnE c s n l == 0) = true)] (.done [(if (jnE c s n l == 0) = true then sameN (jtN c s n l) (fun j => (↑(flI (ndB c s l) s.nN j) : Int)) (flN (ndB c s l) s.nN) fun j => (↑(flI (ndB c s l) s.nN j) : Int) else false) = true])))))))))))))))) (by kernel_rfl) ?_
  simp only [q_assigns_c_0, q_assigns_c_1, q_assigns_c_2, q_assigns_c_3, q_assigns_c_4, q_assigns_c_5, q_assigns_c_6, q_assigns_c_7, q_assigns_c_8, q_assigns_c_9, VT.holds, AllT, Sq]
  refine ⟨awake_c, fun h => (by cases h), fun _ => ⟨⟨few_c s, fun _ => short_c c⟩, fun ⟨hs, hn⟩ => ?_⟩⟩
  have hs2 : s.nN ≤ 40 ∧ s.nM ≤ 120 := Classical.byContradiction fun h => hs (Or.inl h)
  have hs3 : c.n ≤ 70 ∧ c.m ≤ 210 := Classical.byContradiction fun h => hs (Or.inr h)
  have hn : n ≤ 130 := by omega
  refine ⟨Assign_c c s, ⟨copyInts_c n l (by omega), Joints_c c s n l (by omega)⟩, checkCatR_c c, fun h0 => ⟨check_c s, fun hk => ?_, fun hk => ?_⟩, fun h0 => ⟨fun _ => ?_, fun h => absurd h h0⟩⟩
  · have e : cbE c s = chkE s := by rw [cbE, if_pos h0]
    have e1 : asE c s = chkE s := by rw [asE, if_pos (by rw [e]; exact hk), e]
    have e2 : jnE c s n l = chkE s := by rw [jnE, if_pos (by rw [e]; exact hk), e]
    exact ⟨⟨⟨e1, e2⟩, by rw [asN, e1, if_neg hk]; rfl⟩, by rw [jtN, e2, if_neg hk]; rfl⟩
  · have e : cbE c s = 0 := by rw [cbE, if_pos h0, hk]
    have hc := chk_facts hk
    have eA := asE_is e
    have eN : asN c s = asM c s := by
      rw [asN, asM, eA]
      cases asG c s s.nM <;> rfl
    have eJ : jnE c s n l = jcE c s n l := if_neg (fun h' => h' e)
    refine ⟨assignR_c c s hc (by omega), ⟨fun h1 h2 => ⟨h1, h2⟩, fun _ => ints_c _ _ _ _ (by unfold asN; split <;> omega), fun h1 h2 => ⟨h1, h2⟩, fun h1 h2 => ⟨h1, h2⟩⟩, fun h => ?_, fun _ => ⟨checkParts_c c s n l (by omega) (by omega), fun h => ⟨eJ, by rw [jtN, eJ, if_neg h]; rfl⟩, fun hj => ?_⟩⟩
    · exfalso
      rcases h with ⟨h1, h2⟩ | ⟨h1, h2⟩
      · rw [h1, if_neg (by decide)] at eA
        rcases h2 with h2 | h2
        · exact h2 eA
        · exact h2 (by rw [asN, eA, if_neg (by decide)]; rfl)
      · rw [h1, if_pos rfl] at eA
        rcases h2 with h2 | h2
        · exact h2 eA
        · rw [eN, same_self] at h2; cases h2
    · obtain ⟨e9, hl⟩ := jc_in hj
      have e8 : jnE c s n l = 0 := by rw [eJ, hj]
      have e7 : jtN c s n l = flN (ndB c s l) s.nN := by rw [jtN, if_pos e8]
      have hle := flN_le (ndB c s l) s.nN
      exact ⟨⟨fun _ => jointsR_c c s n l hc (by omega) (by omega) hl, fun _ => ints_c _ _ _ _ (by omega)⟩, e8, by rw [e7]; exact same_self _ _⟩
  · have e : cbE c s = ctE c := by rw [cbE, if_neg h0]
    have e1 : asE c s = ctE c := by rw [asE, if_pos (by rw [e]; exact h0), e]
    have e2 : jnE c s n l = ctE c := by rw [jnE, if_pos (by rw [e]; exact h0), e]
    exact ⟨⟨⟨e1, e2⟩, by rw [asN, e1, if_neg h0]; rfl⟩, by rw [jtN, e2, if_neg h0]; rfl⟩
end Go.Abs
