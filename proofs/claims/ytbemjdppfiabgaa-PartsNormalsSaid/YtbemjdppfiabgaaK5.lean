/- Contracts. -/
import Derived.Test.YtbemjdppfiabgaaK4
set_option linter.unusedVariables false
set_option linter.unusedSimpArgs false
set_option maxRecDepth 100000
namespace Go.Abs
open Go
/-- A side's two nodes, the lesser one first. -/
def mn (a b : Int) : Int := min a b
def mx (a b : Int) : Int := max a b
def hd0 (l : List Nat) : Nat := l.headD 0
theorem hd0_one (x : Nat) : hd0 [x] = x := rfl
def keyS (s : Scf) (x : Nat) : List Int := [mn (sdA s x) (sdB s x), mx (sdA s x) (sdB s x)]
/-- How many of the first x sides have two nodes. -/
def cntL (s : Scf) : Nat → List Int → Int
  | 0, _ => 0
  | x + 1, l => cntL s x l + if l = keyS s x then 1 else 0
def cntH (s : Scf) (x : Nat) (l : List Int) : Bool := decide (0 < cntL s x l)
/-- How many of the first, and which, are chosen. -/
def flN (p : Nat → Bool) : Nat → Nat
  | 0 => 0
  | k + 1 => flN p k + if p k = true then 1 else 0
def flI (p : Nat → Bool) : Nat → Nat → Nat
  | 0, _ => 0
  | k + 1, q => if p k = true ∧ flN p k = q then k else flI p k q
def nSd (s : Scf) : Nat := 4 * dkN s s.nM
def opnP (s : Scf) (x : Nat) : Bool := decide (cntL s (nSd s) (keyS s x) = 1)
abbrev prD (a b : Int) : DV := DV.val (Value.agg #[Value.int .i64 (mn a b), Value.int .i64 (mx a b)])
abbrev sdE (s : Scf) (x : Nat) : List Value := [Value.agg #[Value.int .i64 (sdD s x), Value.int .i64 (sdA s x), Value.int .i64 (sdB s x)]]
abbrev opnD (s : Scf) (x : Nat) : List (Nat → DV) := [fun j => dI (sdD s (flI (opnP s) x j)), fun j => dI (sdA s (flI (opnP s) x j)), fun j => dI (sdB s (flI (opnP s) x j))]
theorem cnt_bd (s : Scf) (l : List Int) : ∀ x : Nat, 0 ≤ cntL s x l ∧ cntL s x l ≤ x
  | 0 => ⟨Int.le_refl _, Int.le_refl _⟩
  | x + 1 => by
    have := cnt_bd s l x
    rw [cntL]
    split <;> omega
theorem cnt_if (s : Scf) (x : Nat) (l : List Int) : (if cntH s x l = true then cntL s x l else 0) = cntL s x l := by
  have := cnt_bd s l x
  by_cases h : 0 < cntL s x l
  · rw [if_pos (by rw [cntH]; exact decide_eq_true h)]
  · rw [if_neg (by rw [cntH, decide_eq_true_eq]; exact h)]; omega
theorem cntH_step (s : Scf) (x : Nat) (l : List Int) : putHas [mn (sdA s x) (sdB s x), mx (sdA s x) (sdB s x)] (cntH s x) l = cntH s (x + 1) l := by
  have := cnt_bd s l x
  unfold putHas cntH
  rw [cntL, keyS]
  by_cases h : l = [mn (sdA s x) (sdB s x), mx (sdA s x) (sdB s x)]
  · rw [if_pos h, decide_eq_true h, Bool.true_or, eq_comm, decide_eq_true_eq]; omega
  · rw [if_neg h, decide_eq_false h, Bool.false_or, Int.add_zero]
theorem dkN_le (s : Scf) : ∀ n, dkN s n ≤ n
  | 0 => Nat.le_refl _
  | n + 1 => by have := dkN_le s n; rw [dkN]; split <;> omega
theorem flN_le (p : Nat → Bool) : ∀ n, flN p n ≤ n
  | 0 => Nat.le_refl _
  | n + 1 => by have := flN_le p n; rw [flN]; split <;> omega
theorem flN_yes {p : Nat → Bool} {k : Nat} (h : p k = true) : flN p (k + 1) = flN p k + 1 := by rw [flN, if_pos h]
theorem flN_no {p : Nat → Bool} {k : Nat} (h : ¬ p k = true) : flN p (k + 1) = flN p k := by rw [flN, if_neg h, Nat.add_zero]
theorem flI_no {p : Nat → Bool} {k : Nat} (h : ¬ p k = true) (j : Nat) : flI p (k + 1) j = flI p k j := by rw [flI, if_neg (fun h' => h h'.1)]
theorem flI_yes {p : Nat → Bool} {k : Nat} (h : p k = true) {α : Type} (f : Nat → α) {j : Nat} (hj : j < flN p (k + 1)) : (if decide (j < flN p k) = true then f (flI p k j) else f k) = f (flI p (k + 1) j) := by
  rw [flN_yes h] at hj
  rw [flI]
  by_cases h1 : j < flN p k
  · rw [if_pos (by simpa using h1), if_neg (fun h' => by omega)]
  · rw [if_neg (by simpa using h1), if_pos ⟨h, by omega⟩]
noncomputable def A94_open_c (s : Scf) : Ann := { orc := [(4, [(5, .res fun q => prD (aI q 0) (aI q 1))]), (8, [(5, .res fun q => prD (aI q 0) (aI q 1))])], loops := [], cuts := [], rngs := [(0, { N := 4 * dkN s s.nM, enc := fun x => sdE s x, keep := [1, 2, 3], boxes := [1, 3], mo := fun _ l => [(3, some 0, .map (.ints 2) (cntH s (hd0 l)) (fun q => dI (cntL s (hd0 l) q)) none)], inv := fun _ _ => True }),
  (2, { N := 4 * dkN s s.nM, enc := fun x => sdE s x, keep := [1, 2, 3, 5], boxes := [1, 3], mo := fun _ _ => [(3, some 0, .map (.ints 2) (cntH s (nSd s)) (fun q => dI (cntL s (nSd s) q)) none)], bx := fun σ l => [(5, [.row 3 (σ.nx + 50) 0 (flN (opnP s) (hd0 l))])], rb := fun _ l => [(5, 0, 3, flN (opnP s) (hd0 l), opnD s (hd0 l))], inv := fun _ _ => True })] }
abbrev q_open_c_0 (i : Nat) (s : Scf) (x : Nat) : Bool := decide (i < flN (opnP s) (hd0 [x]))
abbrev open_cd0 (s : Scf) : DV := .agg [.lst s.nN [fun i => (dI (s.X i)), fun i => (dI (s.Y i)), fun i => (dI (s.Z i))], .lst s.nM [fun i => (dI (s.K i)), fun i => (dI (s.A i)), fun i => (dI (s.B i))], DV.mp (KS.ints (3 : Nat)) (fun (l : List Int) => atH s s.nN l) fun (l : List Int) => (dI (atL s s.nN l))]
abbrev open_cr0 (s : Scf) (r : List Prop) : List Prop := (s.nN = s.nN) :: (∀ (i : Nat), i < s.nN → s.X i = s.X i) :: (∀ (i : Nat), i < s.nN → s.Y i = s.Y i) :: (∀ (i : Nat), i < s.nN → s.Z i = s.Z i) :: (s.nM = s.nM) :: (∀ (i : Nat), i < s.nM → s.K i = s.K i) :: (∀ (i : Nat), i < s.nM → s.A i = s.A i) :: (∀ (i : Nat), i < s.nM → s.B i = s.B i) :: r
theorem open_c (s : Scf) (hc : ScfOK s) : FnC prog 94 [frmD s s.nN] (.lst (flN (opnP s) (nSd s)) (opnD s (nSd s))) := by
  refine FnC_owed hmix (A94_open_c s) (V := .need ((SeqB prog (76 : Nat) [(open_cd0 s)] ((4 : Nat) * dkN s s.nM) fun k => [.agg (Array.mk [.int .i64 (sdD s k), .int .i64 (sdA s k), .int .i64 (sdB s k)])]) :: ((∀ (k : Nat), k < (4 : Nat) * dkN s s.nM → (1 : Nat) = (1 : Nat)) :: ((Value.slice none (0 : Nat) (0 : Nat) = Value.slice none (0 : Nat) (0 : Nat)) :: ((∀ (l : List Int), false = cntH s (hd0 [(0 : Nat)]) l) :: ((∀ (l : List Int), cntH s (hd0 [(0 : Nat)]) l = true → (0 : Int) = cntL s (hd0 [(0 : Nat)]) l) :: (open_cr0 s [∀ (l : List Int), atH s s.nN l = atH s s.nN l, ∀ (l : List Int), atH s s.nN l = true → atL s s.nN l = atL s s.nN l, True])))))) (.cut Nat (fun x => True ∧ x < (4 : Nat) * dkN s s.nM) (.cut Unit (fun (u : Unit) => True) (.done []) fun (u : Unit) => .need ((SeqB prog (76 : Nat) [(open_cd0 s)] ((4 : Nat) * dkN s s.nM) fun k => [.agg (Array.mk [.int .i64 (sdD s k), .int .i64 (sdA s k), .int .i64 (sdB s k)])]) :: ((∀ (k : Nat), k < (4 : Nat) * dkN s s.nM → (1 : Nat) = (1 : Nat)) :: ((Value.slice none (0 : Nat) (0 : Nat) = Value.slice none (0 : Nat) (0 : Nat)) :: ((flN (opnP s) (hd0 [(0 : Nat)]) = (0 : Nat)) :: ((∀ (l : List Int), cntH s (hd0 [(4 : Nat) * dkN s s.nM]) l = cntH s (nSd s) l) :: ((∀ (l : List Int), cntH s (nSd s) l = true → cntL s (hd0 [(4 : Nat) * dkN s s.nM]) l = cntL s (nSd s) l) :: (((0 : Nat) = (0 : Nat)) :: ((flN (opnP s) (hd0 [(0 : Nat)]) = (0 : Nat)) :: (open_cr0 s [∀ (l : List Int), atH s s.nN l = atH s s.nN l, ∀ (l : List Int), atH s s.nN l = true → atL s s.nN l = atL s s.nN l, True]))))))))) (.cut Nat (fun x => True ∧ x < (4 : Nat) * dkN s s.nM) (.cut Unit (fun (u : Unit) => True) (.done []) fun (u : Unit) => .done [flN (opnP s) (hd0 [(4 : Nat) * dkN s s.nM]) ≤ flN (opnP s) (hd0 [(4 : Nat) * dkN s s.nM]), flN (opnP s) (hd0 [(4 : Nat) * dkN s s.nM]) = flN (opnP s) (nSd s), ∀ (i : Nat), i < flN (opnP s) (nSd s) → sdD s (flI (opnP s) (hd0 [(4 : Nat) * dkN s s.nM]) i) = sdD s (flI (opnP s) (nSd s) i), ∀ (i : Nat), i < flN (opnP s) (nSd s) → sdA s (flI (opnP s) (hd0 [(4 :
     Nat) * dkN s s.nM]) i) = sdA s (flI (opnP s) (nSd s) i), ∀ (i : Nat), i < flN (opnP s) (nSd s) → sdB s (flI (opnP s) (hd0 [(4 : Nat) * dkN s s.nM]) i) = sdB s (flI (opnP s) (nSd s) i)]) fun x => .need [FnC prog (77 : Nat) [(dI (sdA s x)), (dI (sdB s x))] (.val (.agg (Array.mk [.int .i64 (mn (sdA s x) (sdB s x)), .int .i64 (mx (sdA s x) (sdB s x))])))] (.ite ((if cntH s (nSd s) [mn (sdA s x) (sdB s x), mx (sdA s x) (sdB s x)] = true then cntL s (nSd s) [mn (sdA s x) (sdB s x), mx (sdA s x) (sdB s x)] else (0 : Int)) == (1 : Int)) (.need [flN (opnP s) (hd0 [x]) ≤ flN (opnP s) (hd0 [x]), (flN (opnP s) (hd0 [x]) + (1 : Nat)) * (nat_lit 23 + (1 : Nat)) ≤ (140737488355328 : Nat), (1 : Nat) ≤ (1 : Nat)] (.done ((Value.slice none (0 : Nat) (0 : Nat) = Value.slice none (0 : Nat) (0 : Nat)) :: ((flN (opnP s) (hd0 [x]) + (1 : Nat) = flN (opnP s) (hd0 [x + (1 : Nat)])) :: ((∀ (i : Nat), i < flN (opnP s) (hd0 [x + (1 : Nat)]) → (if (q_open_c_0 i s x) = true then sdD s (flI (opnP s) (hd0 [x]) i) else sdD s x) = sdD s (flI (opnP s) (hd0 [x + (1 : Nat)]) i)) :: ((∀ (i : Nat), i < flN (opnP s) (hd0 [x + (1 : Nat)]) → (if (q_open_c_0 i s x) = true then sdA s (flI (opnP s) (hd0 [x]) i) else sdA s x) = sdA s (flI (opnP s) (hd0 [x + (1 : Nat)]) i)) :: ((∀ (i : Nat), i < flN (opnP s) (hd0 [x + (1 : Nat)]) → (if (q_open_c_0 i s x) = true then sdB s (flI (opnP s) (hd0 [x]) i) else sdB s x) = sdB s (flI (opnP s) (hd0 [x + (1 : Nat)]) i)) :: ((∀ (l : List Int), cntH s (nSd s) l = cntH s (nSd s) l) :: ((∀ (l : List Int), cntH s (nSd s) l = true → cntL s (nSd s) l = cntL s (nSd s) l) :: (((0 : Nat) = (0 : Nat)) :: ((flN (opnP s) (hd0 [x]) + (1 : Nat) = flN (opnP s) (hd0 [x + (1 : Nat)])) :: (open_cr0 s [∀ (l : List Int), atH s s.nN l = atH s s.nN l, ∀ (l : List Int), atH s s.nN l = true → atL s s.nN l = atL s s.nN l, True])))))))))))) (.done ((Value.slice none (0 : Nat) (0 : Nat) = Value.slice none (0 : Nat) (0 : Nat)) :: ((flN (opnP s) (hd0 [x]) = flN (opnP s) (hd0 [x + (1 : Nat)])) :: ((∀
     (i : Nat), i < flN (opnP s) (hd0 [x + (1 : Nat)]) → sdD s (flI (opnP s) (hd0 [x]) i) = sdD s (flI (opnP s) (hd0 [x + (1 : Nat)]) i)) :: ((∀ (i : Nat), i < flN (opnP s) (hd0 [x + (1 : Nat)]) → sdA s (flI (opnP s) (hd0 [x]) i) = sdA s (flI (opnP s) (hd0 [x + (1 : Nat)]) i)) :: ((∀ (i : Nat), i < flN (opnP s) (hd0 [x + (1 : Nat)]) → sdB s (flI (opnP s) (hd0 [x]) i) = sdB s (flI (opnP s) (hd0 [x + (1 : Nat)]) i)) :: ((∀ (l : List Int), cntH s (nSd s) l = cntH s (nSd s) l) :: ((∀ (l : List Int), cntH s (nSd s) l = true → cntL s (nSd s) l = cntL s (nSd s) l) :: (((0 : Nat) = (0 : Nat)) :: ((flN (opnP s) (hd0 [x]) = flN (opnP s) (hd0 [x + (1 : Nat)])) :: (open_cr0 s [∀ (l : List Int), atH s s.nN l = atH s s.nN l, ∀ (l : List Int), atH s s.nN l = true → atL s s.nN l = atL s s.nN l, True])))))))))))))) fun x => .need [FnC prog (77 : Nat) [(dI (sdA s x)), (dI (sdB s x))] (.val (.agg (Array.mk [.int .i64 (mn (sdA s x) (sdB s x)), .int .i64 (mx (sdA s x) (sdB s x))]))), i64In ((if cntH s (hd0 [x]) [mn (sdA s x) (sdB s x), mx (sdA s x) (sdB s x)] = true then cntL s (hd0 [x]) [mn (sdA s x) (sdB s x), mx (sdA s x) (sdB s x)] else (0 : Int)) + (1 : Int)), Eff.mk ((dI (if putHas [mn (sdA s x) (sdB s x), mx (sdA s x) (sdB s x)] (cntH s (hd0 [x])) [mn (sdA s x) (sdB s x), mx (sdA s x) (sdB s x)] = true then if decide ([mn (sdA s x) (sdB s x), mx (sdA s x) (sdB s x)] = [mn (sdA s x) (sdB s x), mx (sdA s x) (sdB s x)]) = true then if cntH s (hd0 [x]) [mn (sdA s x) (sdB s x), mx (sdA s x) (sdB s x)] = true then cntL s (hd0 [x]) [mn (sdA s x) (sdB s x), mx (sdA s x) (sdB s x)] else (0 : Int) else cntL s (hd0 [x]) [mn (sdA s x) (sdB s x), mx (sdA s x) (sdB s x)] else (0 : Int)))) [] [] = Eff.mk ((dI (if cntH s (hd0 [x]) [mn (sdA s x) (sdB s x), mx (sdA s x) (sdB s x)] = true then cntL s (hd0 [x]) [mn (sdA s x) (sdB s x), mx (sdA s x) (sdB s x)] else (0 : Int)))) [] []] (.done ((Value.slice none (0 : Nat) (0 : Nat) = Value.slice none (0 : Nat) (0 : Nat)) :: ((∀ (l : List Int), putHas [mn
     (sdA s x) (sdB s x), mx (sdA s x) (sdB s x)] (cntH s (hd0 [x])) l = cntH s (hd0 [x + (1 : Nat)]) l) :: ((∀ (l : List Int), cntH s (hd0 [x + (1 : Nat)]) l = true → (if decide (l = [mn (sdA s x) (sdB s x), mx (sdA s x) (sdB s x)]) = true then (if cntH s (hd0 [x]) [mn (sdA s x) (sdB s x), mx (sdA s x) (sdB s x)] = true then cntL s (hd0 [x]) [mn (sdA s x) (sdB s x), mx (sdA s x) (sdB s x)] else (0 : Int)) + (1 : Int) else if decide (l = [mn (sdA s x) (sdB s x), mx (sdA s x) (sdB s x)]) = true then if cntH s (hd0 [x]) [mn (sdA s x) (sdB s x), mx (sdA s x) (sdB s x)] = true then cntL s (hd0 [x]) [mn (sdA s x) (sdB s x), mx (sdA s x) (sdB s x)] else (0 : Int) else cntL s (hd0 [x]) l) = cntL s (hd0 [x + (1 : Nat)]) l) :: (open_cr0 s [∀ (l : List Int), atH s s.nN l = atH s s.nN l, ∀ (l : List Int), atH s s.nN l = true → atL s s.nN l = atL s s.nN l, True]))))))) (by kernel_rfl) ?_
  simp only [q_open_c_0, VT.holds, AllT, imp_self, implies_true, and_true, true_and, toNat_succ, toNat_add2, toNat_zero', Int.toNat_natCast, Bool.if_true_left, Bool.if_false_right, Bool.decide_eq_true, Bool.or_eq_true, Bool.or_eq_false_iff, Bool.and_eq_true, Bool.and_eq_false_imp, Bool.not_eq_true', Bool.not_eq_false', Bool.not_not, bne_iff_ne, bne_eq_false_iff_eq, beq_iff_eq, beq_eq_false_iff_ne, decide_eq_true_eq, decide_eq_false_iff_not, ne_eq, hd0_one]
  have hS := sides_s s hc
  have hn := dkN_le s s.nM
  have hm := hc.nM
  refine ⟨⟨hS, fun l => rfl, fun l h => by cases h⟩, fun _ _ => ⟨⟨hS, rfl, fun _ => rfl, fun _ _ => rfl, rfl⟩, fun _ _ => ⟨Nat.le_refl _, rfl, fun _ _ => rfl, fun _ _ => rfl, fun _ _ => rfl⟩, fun i hi => ⟨pairOf_c _ _, fun h => ?_, fun h => ?_⟩⟩, fun i hi => ⟨⟨pairOf_c _ _, ?_, ?_⟩, cntH_step s i, fun l _ => ?_⟩⟩
  · have hp : opnP s i = true := by
      rw [cnt_if] at h
      rw [opnP, decide_eq_true_eq]; exact h
    have := flN_le (opnP s) i
    exact ⟨⟨Nat.le_refl _, by omega, Nat.le_refl _⟩, (flN_yes hp).symm, fun j hj => flI_yes hp (sdD s) hj, fun j hj => flI_yes hp (sdA s) hj, fun j hj => flI_yes hp (sdB s) hj, (flN_yes hp).symm⟩
  · have hp : ¬ opnP s i = true := by
      rw [cnt_if] at h
      rw [opnP, decide_eq_true_eq]; exact h
    exact ⟨(flN_no hp).symm, fun j _ => by rw [flI_no hp], fun j _ => by rw [flI_no hp], fun j _ => by rw [flI_no hp], (flN_no hp).symm⟩
  · show i64In ((if cntH s i [mn (sdA s i) (sdB s i), mx (sdA s i) (sdB s i)] = true then cntL s i [mn (sdA s i) (sdB s i), mx (sdA s i) (sdB s i)] else 0) + 1)
    rw [cnt_if]
    have := cnt_bd s [mn (sdA s i) (sdB s i), mx (sdA s i) (sdB s i)] i
    unfold i64In
    omega
  · unfold putHas
    rw [decide_eq_true rfl, Bool.true_or]
    rfl
  · show (if l = [mn (sdA s i) (sdB s i), mx (sdA s i) (sdB s i)] then (if cntH s i [mn (sdA s i) (sdB s i), mx (sdA s i) (sdB s i)] = true then cntL s i [mn (sdA s i) (sdB s i), mx (sdA s i) (sdB s i)] else 0) + 1 else if l = [mn (sdA s i) (sdB s i), mx (sdA s i) (sdB s i)] then (if cntH s i [mn (sdA s i) (sdB s i), mx (sdA s i) (sdB s i)] = true then cntL s i [mn (sdA s i) (sdB s i), mx (sdA s i) (sdB s i)] else 0) else cntL s i l) = _
    rw [cnt_if, cntL, keyS]
    split
    · rename_i h; rw [h]
    · rw [Int.add_zero]
end Go.Abs
