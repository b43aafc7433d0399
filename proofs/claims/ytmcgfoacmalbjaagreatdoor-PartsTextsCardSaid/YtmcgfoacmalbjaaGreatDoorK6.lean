/- Contracts. Contracts. -/
import Derived.Test.YtmcgfoacmalbjaaGreatDoorK4
import Derived.Test.YtmcgfoacmalbjaaGreatDoorAbsV
section
set_option maxRecDepth 100000
namespace Go.Abs
open Go
def mn (a b : Int) : Int := min a b
def mx (a b : Int) : Int := max a b
def hd0 (l : List Nat) : Nat := l.headD 0
theorem hd0_one (x : Nat) : hd0 [x] = x := rfl
def keyS (s : Scf) (x : Nat) : List Int := [mn (sdA s x) (sdB s x), mx (sdA s x) (sdB s x)]
def cntL (s : Scf) : Nat → List Int → Int
  | 0, _ => 0
  | x + 1, l => cntL s x l + if l = keyS s x then 1 else 0
def cntH (s : Scf) (x : Nat) (l : List Int) : Bool := decide (0 < cntL s x l)
def flN (p : Nat → Bool) : Nat → Nat
  | 0 => 0
  | k + 1 => flN p k + if p k = true then 1 else 0
def flI (p : Nat → Bool) : Nat → Nat → Nat
  | 0, _ => 0
  | k + 1, q => if p k = true ∧ flN p k = q then k else flI p k q
def nSd (s : Scf) : Nat := 4 * dkN s s.nM
def opnP (s : Scf) (x : Nat) : Bool := decide (cntL s (nSd s) (keyS s x) = 1)
abbrev prD (a b : Int) : DV := DV.val (Value.agg #[Value.int .i64 (mn a b), Value.int .i64 (mx a b)])
abbrev sdE (s : Scf) (x : Nat) : List Value := [Value.agg #[Value.int .i64 (sdD s x), Value.int .i64 (sdA s x), Value.int .i64 (sdB s x)]]
abbrev opnD (s : Scf) (x : Nat) : List (Nat → DV) := [fun j => dI (sdD s (flI (opnP s) x j)), fun j => dI (sdA s (flI (opnP s) x j)), fun j => dI (sdB s (flI (opnP s) x j))]
theorem cnt_bd (s : Scf) (l : List Int) : ∀ x : Nat, 0 ≤ cntL s x l ∧ cntL s x l ≤ x
  | 0 => ⟨Int.le_refl _, Int.le_refl _⟩
  | x + 1 => by
    have := cnt_bd s l x
    rw [cntL]
    split <;> omega
theorem cnt_if (s : Scf) (x : Nat) (l : List Int) : (if cntH s x l = true then cntL s x l else 0) = cntL s x l := by
  have := cnt_bd s l x
  by_cases h : 0 < cntL s x l
  · rw [if_pos (by rw [cntH]; exact decide_eq_true h)]
  · rw [if_neg (by rw [cntH, decide_eq_true_eq]; exact h)]; omega
theorem cntH_step (s : Scf) (x : Nat) (l : List Int) : putHas [mn (sdA s x) (sdB s x), mx (sdA s x) (sdB s x)] (cntH s x) l = cntH s (x + 1) l := by
  have := cnt_bd s l x
  unfold putHas cntH
  rw [cntL, keyS]
  by_cases h : l = [mn (sdA s x) (sdB s x), mx (sdA s x) (sdB s x)]
  · rw [if_pos h, decide_eq_true h, Bool.true_or, eq_comm, decide_eq_true_eq]; omega
  · rw [if_neg h, decide_eq_false h, Bool.false_or, Int.add_zero]
theorem dkN_le (s : Scf) : ∀ n, dkN s n ≤ n
  | 0 => Nat.le_refl _
  | n + 1 => by have := dkN_le s n; rw [dkN]; split <;> omega
theorem flN_le (p : Nat → Bool) : ∀ n, flN p n ≤ n
  | 0 => Nat.le_refl _
  | n + 1 => by have := flN_le p n; rw [flN]; split <;> omega
theorem flN_yes {p : Nat → Bool} {k : Nat} (h : p k = true) : flN p (k + 1) = flN p k + 1 := by rw [flN, if_pos h]
theorem flN_no {p : Nat → Bool} {k : Nat} (h : ¬ p k = true) : flN p (k + 1) = flN p k := by rw [flN, if_neg h, Nat.add_zero]
theorem flI_no {p : Nat → Bool} {k : Nat} (h : ¬ p k = true) (j : Nat) : flI p (k + 1) j = flI p k j := by rw [flI, if_neg (fun h' => h h'.1)]
theorem flI_yes {p : Nat → Bool} {k : Nat} (h : p k = true) {α : Type} (f : Nat → α) {j : Nat} (hj : j < flN p (k + 1)) : (if decide (j < flN p k) = true then f (flI p k j) else f k) = f (flI p (k + 1) j) := by
  rw [flN_yes h] at hj
  rw [flI]
  by_cases h1 : j < flN p k
  · rw [if_pos (by simpa using h1), if_neg (fun h' => by omega)]
  · rw [if_neg (by simpa using h1), if_pos ⟨h, by omega⟩]
noncomputable def A34_open_c (s : Scf) : Ann := { orc := [(4, [(5, .res fun q => prD (aI q 0) (aI q 1))]), (8, [(5, .res fun q => prD (aI q 0) (aI q 1))])], loops := [], cuts := [], rngs := [(0, { N := 4 * dkN s s.nM, enc := fun x => sdE s x, keep := [1, 2, 3], boxes := [1, 3], mo := fun _ l => [(3, some 0, .map (.ints 2) (cntH s (hd0 l)) (fun q => dI (cntL s (hd0 l) q)) none)], inv := fun _ _ => True }),
  (2, { N := 4 * dkN s s.nM, enc := fun x => sdE s x, keep := [1, 2, 3, 5], boxes := [1, 3], mo := fun _ _ => [(3, some 0, .map (.ints 2) (cntH s (nSd s)) (fun q => dI (cntL s (nSd s) q)) none)], bx := fun σ l => [(5, [.row 3 (σ.nx + 50) 0 (flN (opnP s) (hd0 l))])], rb := fun _ l => [(5, 0, 3, flN (opnP s) (hd0 l), opnD s (hd0 l))], inv := fun _ _ => True })] }
noncomputable abbrev qdc (i : Nat) (s : Scf) (x : Nat) : Bool := decide (i < flN (opnP s) (hd0 [x]))
noncomputable abbrev open_cd0 (s : Scf) : DV := .agg [.lst s.nN [fun i => (dI (s.X i)), fun i => (dI (s.Y i)), fun i => (dI (s.Z i))], .lst s.nM [fun i => (dI (s.K i)), fun i => (dI (s.A i)), fun i => (dI (s.B i))], DV.mp (KS.ints (3:Nat)) (fun (l : List Int) => atH s s.nN l) fun (l : List Int) => (dI (atL s s.nN l))]
noncomputable abbrev open_cr0 (s : Scf) (r : List Prop) : List Prop := (s.nN = s.nN) :: (∀ (i : Nat), i < s.nN → s.X i = s.X i) :: (∀ (i : Nat), i < s.nN → s.Y i = s.Y i) :: (∀ (i : Nat), i < s.nN → s.Z i = s.Z i) :: (s.nM = s.nM) :: (∀ (i : Nat), i < s.nM → s.K i = s.K i) :: (∀ (i : Nat), i < s.nM → s.A i = s.A i) :: (∀ (i : Nat), i < s.nM → s.B i = s.B i) :: r
theorem open_c (s : Scf) (hc : ScfOK s) : FnC prog 34 [frmD s s.nN] (.lst (flN (opnP s) (nSd s)) (opnD s (nSd s))) := by
  refine FnC_owed hmix (A34_open_c s) (V := .need ((SeqB prog 36 [(open_cd0 s)] ((4:Nat) * dkN s s.nM) fun k => [.agg (Array.mk [.int .i64 (sdD s k), .int .i64 (sdA s k), .int .i64 (sdB s k)])]) :: ((∀ (k : Nat), k < 4 * dkN s s.nM → (1:Nat) = 1) :: ((Value.slice none 0 (0:Nat) = Value.slice none 0 (0:Nat)) :: ((∀ (l : List Int), false = cntH s (hd0 [(0:Nat)]) l) :: ((∀ (l : List Int), cntH s (hd0 [(0:Nat)]) l = true → (0:Int) = cntL s (hd0 [(0:Nat)]) l) :: (open_cr0 s [∀ (l : List Int), atH s s.nN l = atH s s.nN l, ∀ (l : List Int), atH s s.nN l = true → atL s s.nN l = atL s s.nN l, True])))))) (.cut Nat (fun x => True ∧ x < 4 * dkN s s.nM) (.cut Unit (fun (u : Unit) => True) (.done []) fun (u : Unit) => .need ((SeqB prog 36 [(open_cd0 s)] ((4:Nat) * dkN s s.nM) fun k => [.agg (Array.mk [.int .i64 (sdD s k), .int .i64 (sdA s k), .int .i64 (sdB s k)])]) :: ((∀ (k : Nat), k < 4 * dkN s s.nM → (1:Nat) = 1) :: ((Value.slice none 0 (0:Nat) = Value.slice none 0 (0:Nat)) :: ((flN (opnP s) (hd0 [(0:Nat)]) = 0) :: ((∀ (l : List Int), cntH s (hd0 [(4:Nat) * dkN s s.nM]) l = cntH s (nSd s) l) :: ((∀ (l : List Int), cntH s (nSd s) l = true → cntL s (hd0 [(4:Nat) * dkN s s.nM]) l = cntL s (nSd s) l) :: (((0:Nat) = 0) :: ((flN (opnP s) (hd0 [(0:Nat)]) = 0) :: (open_cr0 s [∀ (l : List Int), atH s s.nN l = atH s s.nN l, ∀ (l : List Int), atH s s.nN l = true → atL s s.nN l = atL s s.nN l, True]))))))))) (.cut Nat (fun x => True ∧ x < 4 * dkN s s.nM) (.cut Unit (fun (u : Unit) => True) (.done []) fun (u : Unit) => .done [flN (opnP s) (hd0 [(4:Nat) * dkN s s.nM]) ≤ flN (opnP s) (hd0 [(4:Nat) * dkN s s.nM]), flN (opnP s) (hd0 [(4:Nat) * dkN s s.nM]) = flN (opnP s) (nSd s), ∀ i < flN (opnP s) (nSd s), sdD s (flI (opnP s) (hd0 [(4:Nat) * dkN s s.nM]) i) = sdD s (flI (opnP s) (nSd s) i), ∀ i < flN (opnP s) (nSd s), sdA s (flI (opnP s) (hd0 [(4 :
     Nat) * dkN s s.nM]) i) = sdA s (flI (opnP s) (nSd s) i), ∀ i < flN (opnP s) (nSd s), sdB s (flI (opnP s) (hd0 [(4:Nat) * dkN s s.nM]) i) = sdB s (flI (opnP s) (nSd s) i)]) fun x => .need [FnC prog 37 [(dI (sdA s x)), (dI (sdB s x))] (.val (.agg (Array.mk [.int .i64 (mn (sdA s x) (sdB s x)), .int .i64 (mx (sdA s x) (sdB s x))])))] (.ite ((if cntH s (nSd s) [mn (sdA s x) (sdB s x), mx (sdA s x) (sdB s x)] = true then cntL s (nSd s) [mn (sdA s x) (sdB s x), mx (sdA s x) (sdB s x)] else (0:Int)) == 1) (.need [flN (opnP s) (hd0 [x]) ≤ flN (opnP s) (hd0 [x]), (flN (opnP s) (hd0 [x]) + 1) * (nat_lit 23 + 1) ≤ 140737488355328, (1:Nat) ≤ 1] (.done ((Value.slice none 0 (0:Nat) = Value.slice none 0 (0:Nat)) :: ((flN (opnP s) (hd0 [x]) + 1 = flN (opnP s) (hd0 [x + 1])) :: ((∀ i < flN (opnP s) (hd0 [x + 1]), (if (qdc i s x) = true then sdD s (flI (opnP s) (hd0 [x]) i) else sdD s x) = sdD s (flI (opnP s) (hd0 [x + 1]) i)) :: ((∀ i < flN (opnP s) (hd0 [x + 1]), (if (qdc i s x) = true then sdA s (flI (opnP s) (hd0 [x]) i) else sdA s x) = sdA s (flI (opnP s) (hd0 [x + 1]) i)) :: ((∀ i < flN (opnP s) (hd0 [x + 1]), (if (qdc i s x) = true then sdB s (flI (opnP s) (hd0 [x]) i) else sdB s x) = sdB s (flI (opnP s) (hd0 [x + 1]) i)) :: ((∀ (l : List Int), cntH s (nSd s) l = cntH s (nSd s) l) :: ((∀ (l : List Int), cntH s (nSd s) l = true → cntL s (nSd s) l = cntL s (nSd s) l) :: (((0:Nat) = 0) :: ((flN (opnP s) (hd0 [x]) + 1 = flN (opnP s) (hd0 [x + 1])) :: (open_cr0 s [∀ (l : List Int), atH s s.nN l = atH s s.nN l, ∀ (l : List Int), atH s s.nN l = true → atL s s.nN l = atL s s.nN l, True])))))))))))) (.done ((Value.slice none 0 (0:Nat) = Value.slice none 0 (0:Nat)) :: ((flN (opnP s) (hd0 [x]) = flN (opnP s) (hd0 [x + 1])) :: ((∀
     (i : Nat), i < flN (opnP s) (hd0 [x + 1]) → sdD s (flI (opnP s) (hd0 [x]) i) = sdD s (flI (opnP s) (hd0 [x + 1]) i)) :: ((∀ i < flN (opnP s) (hd0 [x + 1]), sdA s (flI (opnP s) (hd0 [x]) i) = sdA s (flI (opnP s) (hd0 [x + 1]) i)) :: ((∀ i < flN (opnP s) (hd0 [x + 1]), sdB s (flI (opnP s) (hd0 [x]) i) = sdB s (flI (opnP s) (hd0 [x + 1]) i)) :: ((∀ (l : List Int), cntH s (nSd s) l = cntH s (nSd s) l) :: ((∀ (l : List Int), cntH s (nSd s) l = true → cntL s (nSd s) l = cntL s (nSd s) l) :: (((0:Nat) = 0) :: ((flN (opnP s) (hd0 [x]) = flN (opnP s) (hd0 [x + 1])) :: (open_cr0 s [∀ (l : List Int), atH s s.nN l = atH s s.nN l, ∀ (l : List Int), atH s s.nN l = true → atL s s.nN l = atL s s.nN l, True])))))))))))))) fun x => .need [FnC prog 37 [(dI (sdA s x)), (dI (sdB s x))] (.val (.agg (Array.mk [.int .i64 (mn (sdA s x) (sdB s x)), .int .i64 (mx (sdA s x) (sdB s x))]))), i64In ((if cntH s (hd0 [x]) [mn (sdA s x) (sdB s x), mx (sdA s x) (sdB s x)] = true then cntL s (hd0 [x]) [mn (sdA s x) (sdB s x), mx (sdA s x) (sdB s x)] else (0:Int)) + 1), Eff.mk ((dI (if putHas [mn (sdA s x) (sdB s x), mx (sdA s x) (sdB s x)] (cntH s (hd0 [x])) [mn (sdA s x) (sdB s x), mx (sdA s x) (sdB s x)] = true then if decide ([mn (sdA s x) (sdB s x), mx (sdA s x) (sdB s x)] = [mn (sdA s x) (sdB s x), mx (sdA s x) (sdB s x)]) = true then if cntH s (hd0 [x]) [mn (sdA s x) (sdB s x), mx (sdA s x) (sdB s x)] = true then cntL s (hd0 [x]) [mn (sdA s x) (sdB s x), mx (sdA s x) (sdB s x)] else (0:Int) else cntL s (hd0 [x]) [mn (sdA s x) (sdB s x), mx (sdA s x) (sdB s x)] else (0:Int)))) [] [] = Eff.mk ((dI (if cntH s (hd0 [x]) [mn (sdA s x) (sdB s x), mx (sdA s x) (sdB s x)] = true then cntL s (hd0 [x]) [mn (sdA s x) (sdB s x), mx (sdA s x) (sdB s x)] else (0:Int)))) [] []] (.done ((Value.slice none 0 (0:Nat) = Value.slice none 0 (0:Nat)) :: ((∀ (l : List Int), putHas [mn
     (sdA s x) (sdB s x), mx (sdA s x) (sdB s x)] (cntH s (hd0 [x])) l = cntH s (hd0 [x + 1]) l) :: ((∀ (l : List Int), cntH s (hd0 [x + 1]) l = true → (if decide (l = [mn (sdA s x) (sdB s x), mx (sdA s x) (sdB s x)]) = true then (if cntH s (hd0 [x]) [mn (sdA s x) (sdB s x), mx (sdA s x) (sdB s x)] = true then cntL s (hd0 [x]) [mn (sdA s x) (sdB s x), mx (sdA s x) (sdB s x)] else (0:Int)) + 1 else if decide (l = [mn (sdA s x) (sdB s x), mx (sdA s x) (sdB s x)]) = true then if cntH s (hd0 [x]) [mn (sdA s x) (sdB s x), mx (sdA s x) (sdB s x)] = true then cntL s (hd0 [x]) [mn (sdA s x) (sdB s x), mx (sdA s x) (sdB s x)] else (0:Int) else cntL s (hd0 [x]) l) = cntL s (hd0 [x + 1]) l) :: (open_cr0 s [∀ (l : List Int), atH s s.nN l = atH s s.nN l, ∀ (l : List Int), atH s s.nN l = true → atL s s.nN l = atL s s.nN l, True]))))))) (by kernel_rfl) ?_
  simp only [qdc, VT.holds, AllT, Sq, hd0_one]
  have hS := sides_s s hc
  have hn := dkN_le s s.nM
  have hm := hc.nM
  refine ⟨⟨hS, fun l => rfl, fun l h => by cases h⟩, fun _ _ => ⟨⟨hS, rfl, fun _ => rfl, fun _ _ => rfl, rfl⟩, fun _ _ => ⟨Nat.le_refl _, rfl, fun _ _ => rfl, fun _ _ => rfl, fun _ _ => rfl⟩, fun i hi => ⟨pairOf_c _ _, fun h => ?_, fun h => ?_⟩⟩, fun i hi => ⟨⟨pairOf_c _ _, ?_, ?_⟩, cntH_step s i, fun l _ => ?_⟩⟩
  · have hp : opnP s i = true := by
      rw [cnt_if] at h
      rw [opnP, decide_eq_true_eq]; exact h
    have := flN_le (opnP s) i
    exact ⟨⟨Nat.le_refl _, by omega, Nat.le_refl _⟩, (flN_yes hp).symm, fun j hj => flI_yes hp (sdD s) hj, fun j hj => flI_yes hp (sdA s) hj, fun j hj => flI_yes hp (sdB s) hj, (flN_yes hp).symm⟩
  · have hp : ¬ opnP s i = true := by
      rw [cnt_if] at h
      rw [opnP, decide_eq_true_eq]; exact h
    exact ⟨(flN_no hp).symm, fun j _ => by rw [flI_no hp], fun j _ => by rw [flI_no hp], fun j _ => by rw [flI_no hp], (flN_no hp).symm⟩
  · show i64In ((if cntH s i [mn (sdA s i) (sdB s i), mx (sdA s i) (sdB s i)] = true then cntL s i [mn (sdA s i) (sdB s i), mx (sdA s i) (sdB s i)] else 0) + 1)
    rw [cnt_if]
    have := cnt_bd s [mn (sdA s i) (sdB s i), mx (sdA s i) (sdB s i)] i
    unfold i64In
    omega
  · unfold putHas
    rw [decide_eq_true rfl, Bool.true_or]
    rfl
  · show (if l = [mn (sdA s i) (sdB s i), mx (sdA s i) (sdB s i)] then (if cntH s i [mn (sdA s i) (sdB s i), mx (sdA s i) (sdB s i)] = true then cntL s i [mn (sdA s i) (sdB s i), mx (sdA s i) (sdB s i)] else 0) + 1 else if l = [mn (sdA s i) (sdB s i), mx (sdA s i) (sdB s i)] then (if cntH s i [mn (sdA s i) (sdB s i), mx (sdA s i) (sdB s i)] = true then cntL s i [mn (sdA s i) (sdB s i), mx (sdA s i) (sdB s i)] else 0) else cntL s i l) = _
    rw [cnt_if, cntL, keyS]
    split
    · rename_i h; rw [h]
    · rw [Int.add_zero]
end Go.Abs
end
section
set_option maxRecDepth 100000
namespace Go.Abs
open Go
def okI (s : Scf) (i : Int) : Bool := decide (0 ≤ i ∧ i < s.nM)
def sqV (s : Scf) (i : Int) : Int := if chkE s = 0 ∧ okI s i = true then sqr s (s.A i.toNat) (s.B i.toNat) else 0
def sqE (s : Scf) (i : Int) : Int := if chkE s ≠ 0 then chkE s else if okI s i = true then 0 else 6
def sdN (s : Scf) : Nat := if chkE s = 0 then flN (opnP s) (nSd s) else 0
abbrev rdD (s : Scf) : DV := .tup [frmD s (rdN s), dI (chkE s)]
def lesR (a b c d : Int) : Bool := decide (a * d < c * b)
def cA (a b : Int) : Int := if a > b then -a else a
def cB (a b : Int) : Int := if a > b then -b else b
def cL (a b lo hi : Int) : Int := if a > b then -hi else lo
def cH (a b lo hi : Int) : Int := if a > b then -lo else hi
def cutB (a b lo hi : Int) : Bool := if a = b then (decide (a > lo) && decide (a < hi)) else true
def cF1 (n d a b lo hi : Int) : Int := if a = b then n else if lesR n d (cL a b lo hi - cA a b) (cB a b - cA a b) = true then cL a b lo hi - cA a b else n
def cF2 (n d a b lo hi : Int) : Int := if a = b then d else if lesR n d (cL a b lo hi - cA a b) (cB a b - cA a b) = true then cB a b - cA a b else d
def cT1 (n d a b lo hi : Int) : Int := if a = b then n else if lesR (cH a b lo hi - cA a b) (cB a b - cA a b) n d = true then cH a b lo hi - cA a b else n
def cT2 (n d a b lo hi : Int) : Int := if a = b then d else if lesR (cH a b lo hi - cA a b) (cB a b - cA a b) n d = true then cB a b - cA a b else d
abbrev d2 (a b : Int) : DV := .val (.agg #[.int .i64 a, .int .i64 b])
abbrev bd6 (x : Int) : Prop := -1000000 ≤ x ∧ x ≤ 1000000
abbrev bd7 (x : Int) : Prop := -2000000 ≤ x ∧ x ≤ 2000000
theorem mul_bd {x y : Int} (hx : bd7 x) (hy : bd7 y) : -4000000000000 ≤ x * y ∧ x * y ≤ 4000000000000 := by
  obtain ⟨h1, h2⟩ := hx
  obtain ⟨h3, h4⟩ := hy
  have a1 : 0 ≤ (x + 2000000) * (y + 2000000) := Int.mul_nonneg (by omega) (by omega)
  have a2 : 0 ≤ (2000000 - x) * (2000000 - y) := Int.mul_nonneg (by omega) (by omega)
  have a3 : 0 ≤ (x + 2000000) * (2000000 - y) := Int.mul_nonneg (by omega) (by omega)
  have a4 : 0 ≤ (2000000 - x) * (y + 2000000) := Int.mul_nonneg (by omega) (by omega)
  rw [Int.add_mul, Int.mul_add, Int.mul_add] at a1
  rw [Int.sub_mul, Int.mul_sub, Int.mul_sub] at a2
  rw [Int.add_mul, Int.mul_sub, Int.mul_sub] at a3
  rw [Int.sub_mul, Int.mul_add, Int.mul_add] at a4
  rw [Int.mul_comm x 2000000] at *
  omega
noncomputable def A13_Square_c (s : Scf) (i : Int) : Ann := { orc := [(1, [(1, .res fun q => rdD s)]), (6, [(6, .res fun q => dI (sqr s (fI 1 (arg q 1)) (fI 2 (arg q 1))))])], loops := [], cuts := [] }
noncomputable abbrev Square_cd0 (s : Scf) (i : Int) : DV := .agg [.lst s.nN [fun i => (dI (s.X i)), fun i => (dI (s.Y i)), fun i => (dI (s.Z i))], .lst s.nM [fun i => (dI (s.K i)), fun i => (dI (s.A i)), fun i => (dI (s.B i))], DV.mp (KS.ints (3:Nat)) (fun (l : List Int) => atH s (rdN s) l) fun (l : List Int) => (dI (atL s (rdN s) l))]
theorem Square_c (s : Scf) (i : Int)  : FnC prog 13 [scfD s, dI i] (.tup [dI (sqV s i), dI (sqE s i)]) := by
  refine FnC_owed hmix (A13_Square_c s i) (V := .need [FnC prog 32 [scfD s] (.tup [(Square_cd0 s i), (dI (chkE s))])] (.ite (chkE s != 0) (.done [(0:Int) = sqV s i, chkE s = sqE s i]) (.need [ri ((!decide (i < 0)) = true), ri ((!decide (i < 0)) = true), ri ((!decide (i < 0)) = true), ri ((!decide (i < 0)) = true), decide (i < 0) = false → (!decide (i < 0)) = true] (.ite (if decide (i < 0) = true then true else decide (i ≥ (s.nM:Int))) (.done [(0:Int) = sqV s i, (6:Int) = sqE s i]) (.need [(0:Int) ≤ i ∧ i < (s.nM:Int), FnC prog 33 [(Square_cd0 s i), .val (.agg (Array.mk [.int .i64 (s.K i.toNat), .int .i64 (s.A i.toNat), .int .i64 (s.B i.toNat)]))] ((dI (sqr s (s.A i.toNat) (s.B i.toNat))))] (.done [sqr s (s.A i.toNat) (s.B i.toNat) = sqV s i, (0:Int) = sqE s i])))))) (by kernel_rfl) ?_
  simp only [VT.holds, AllT, Square_cd0, Sq]
  refine ⟨read_c s, fun h => ⟨by rw [sqV, if_neg (fun h' => h h'.1)], by rw [sqE, if_pos h]⟩, fun h => ⟨fun h1 => ?_, fun h1 => ?_⟩⟩
  · have h2 : ¬ okI s i = true := by rw [okI, decide_eq_true_eq]; omega
    exact ⟨by rw [sqV, if_neg (fun h' => h2 h'.2)], by rw [sqE, if_neg (by rw [h]; simp), if_neg h2]⟩
  · have h2 : okI s i = true := by rw [okI, decide_eq_true_eq]; omega
    have hc := chk_facts h
    obtain ⟨hA, hB⟩ := hc.ends i.toNat (by omega)
    refine ⟨⟨by omega, ?_⟩, by rw [sqV, if_pos ⟨h, h2⟩], by rw [sqE, if_neg (by rw [h]; simp), if_pos h2]⟩
    rw [rdN_ok h]
    exact square_c s _ _ _ hA hB hc
noncomputable def A14_Sides_c (s : Scf) : Ann := { orc := [(1, [(1, .res fun q => rdD s)]), (4, [(1, .res fun q => .lst (flN (opnP s) (nSd s)) (opnD s (nSd s)))])], loops := [], cuts := [] }
noncomputable abbrev Sides_cd0 (s : Scf) : DV := .agg [.lst s.nN [fun i => (dI (s.X i)), fun i => (dI (s.Y i)), fun i => (dI (s.Z i))], .lst s.nM [fun i => (dI (s.K i)), fun i => (dI (s.A i)), fun i => (dI (s.B i))], DV.mp (KS.ints (3:Nat)) (fun (l : List Int) => atH s (rdN s) l) fun (l : List Int) => (dI (atL s (rdN s) l))]
theorem Sides_c (s : Scf)  : FnC prog 14 [scfD s] (.tup [.lst (sdN s) (opnD s (nSd s)), dI (chkE s)]) := by
  refine FnC_owed hmix (A14_Sides_c s) (V := .need [FnC prog 32 [scfD s] (.tup [(Sides_cd0 s), (dI (chkE s))])] (.ite (chkE s != 0) (.done [sdN s = 0, chkE s = chkE s]) (.need [FnC prog 34 [(Sides_cd0 s)] (.lst (flN (opnP s) (nSd s)) [fun j => (dI (sdD s (flI (opnP s) (nSd s) j))), fun j => (dI (sdA s (flI (opnP s) (nSd s) j))), fun j => (dI (sdB s (flI (opnP s) (nSd s) j)))])] (.done [flN (opnP s) (nSd s) = sdN s, ∀ i < sdN s, sdD s (flI (opnP s) (nSd s) i) = sdD s (flI (opnP s) (nSd s) i), ∀ i < sdN s, sdA s (flI (opnP s) (nSd s) i) = sdA s (flI (opnP s) (nSd s) i), ∀ i < sdN s, sdB s (flI (opnP s) (nSd s) i) = sdB s (flI (opnP s) (nSd s) i), (0:Int) = chkE s])))) (by kernel_rfl) ?_
  simp only [VT.holds, AllT, Sides_cd0, Sq]
  refine ⟨read_c s, fun h => by rw [sdN, if_neg h], fun h => ⟨?_, by rw [sdN, if_pos h], h.symm⟩⟩
  rw [rdN_ok h]
  exact open_c s (chk_facts h)
noncomputable def A70_less_c (a b c d : Int) : Ann := { orc := [], loops := [], cuts := [] }
theorem less_c (a b c d : Int) (ha : bd7 a) (hb : bd7 b) (hc : bd7 c) (hd : bd7 d) : FnC prog 70 [d2 a b, d2 c d] (dB (lesR a b c d)) := by
  refine FnC_owed hmix (A70_less_c a b c d) (V := .need [i64In (a * d), i64In (c * b)] (.done [decide (a * d < c * b) = lesR a b c d])) (by kernel_rfl) ?_
  simp only [VT.holds, AllT, Sq]
  have h1 := mul_bd ha hd
  have h2 := mul_bd hc hb
  exact ⟨⟨by unfold i64In; omega, by unfold i64In; omega⟩, rfl⟩
noncomputable def A69_cut_c (n d tn td a b lo hi : Int) : Ann := { orc := [(6, [(4, .res fun q => dB (lesR (fI 0 (arg q 0)) (fI 1 (arg q 0)) (fI 0 (arg q 1)) (fI 1 (arg q 1))))]), (9, [(4, .res fun q => dB (lesR (fI 0 (arg q 0)) (fI 1 (arg q 0)) (fI 0 (arg q 1)) (fI 1 (arg q 1))))])], loops := [], cuts := [] }
theorem cut_c (n d tn td a b lo hi : Int) (hn : bd7 n) (hd : bd7 d) (htn : bd7 tn) (htd : bd7 td) (ha : bd6 a) (hb : bd6 b) (hlo : bd6 lo) (hhi : bd6 hi) : FnW prog 69 [.box [dI n, dI d] [dI (cF1 n d a b lo hi), dI (cF2 n d a b lo hi)], .box [dI tn, dI td] [dI (cT1 tn td a b lo hi), dI (cT2 tn td a b lo hi)], .arg (dI a), .arg (dI b), .arg (dI lo), .arg (dI hi)] (dB (cutB a b lo hi)) := by
  refine FnW_owed hmix (A69_cut_c n d tn td a b lo hi) (V := VT.ite (a == b)
        (VT.need
          [decide (a > lo) = true → decide (a > lo) = true, decide (a > lo) = true → decide (a > lo) = true,
            decide (a > lo) = true → decide (a > lo) = true]
          (VT.done
            [n = cF1 n d a b lo hi, d = cF2 n d a b lo hi, tn = cT1 tn td a b lo hi, td = cT2 tn td a b lo hi,
              (if decide (a > lo) = true then decide (a < hi) else false) = cutB a b lo hi]))
        (VT.ite (decide (a > b))
          (VT.need [i64In (-a), i64In (-b), i64In (-hi), i64In (-lo)]
            (VT.need [i64In (-hi - -a), i64In (-b - -a)]
              (VT.need
                [FnC prog 70
                    [DV.val (Value.agg (Array.mk [Value.int IntKind.i64 n, Value.int IntKind.i64 d])),
                      DV.val (Value.agg (Array.mk [Value.int IntKind.i64 (-hi - -a), Value.int IntKind.i64 (-b - -a)]))]
                    (DV.val (Value.bool (lesR n d (-hi - -a) (-b - -a))))]
                (VT.ite (lesR n d (-hi - -a) (-b - -a))
                  (VT.need [i64In (-lo - -a), i64In (-b - -a)]
                    (VT.need
                      [FnC prog 70
                          [DV.val
                              (Value.agg (Array.mk [Value.int IntKind.i64 (-lo - -a), Value.int IntKind.i64 (-b - -a)])),
                            DV.val (Value.agg (Array.mk [Value.int IntKind.i64 tn, Value.int IntKind.i64 td]))]
                          (DV.val (Value.bool (lesR (-lo - -a) (-b - -a) tn td)))]
                      (VT.ite (lesR (-lo - -a) (-b - -a) tn td)
                        (VT.done
                          [-hi - -a = cF1 n d a b lo hi, -b - -a = cF2 n d a b lo hi, -lo - -a = cT1 tn td a b lo hi,
                            -b - -a = cT2 tn td a b lo hi, true = cutB a b lo hi])
                        (VT.done
                          [-hi - -a = cF1 n d a b lo hi, -b - -a = cF2 n d a b lo hi, tn = cT1 tn td a b lo hi,
                            td = cT2 tn td a b lo hi, true = cutB a b lo hi]))))
                  (VT.need [i64In (-lo - -a), i64In (-b - -a)]
                    (VT.need
                      [FnC prog 70
                          [DV.val
                              (Value.agg (Array.mk [Value.int IntKind.i64 (-lo - -a), Value.int IntKind.i64 (-b - -a)])),
                            DV.val (Value.agg (Array.mk [Value.int IntKind.i64 tn, Value.int IntKind.i64 td]))]
                          (DV.val (Value.bool (lesR (-lo - -a) (-b - -a) tn td)))]
                      (VT.ite (lesR (-lo - -a) (-b - -a) tn td)
                        (VT.done
                          [n = cF1 n d a b lo hi, d = cF2 n d a b lo hi, -lo - -a = cT1 tn td a b lo hi,
                            -b - -a = cT2 tn td a b lo hi, true = cutB a b lo hi])
                        (VT.done
                          [n = cF1 n d a b lo hi, d = cF2 n d a b lo hi, tn = cT1 tn td a b lo hi, td = cT2 tn td a b lo hi,
                            true = cutB a b lo hi]))))))))
          (VT.need [i64In (lo - a), i64In (b - a)]
            (VT.need
              [FnC prog 70
                  [DV.val (Value.agg (Array.mk [Value.int IntKind.i64 n, Value.int IntKind.i64 d])),
                    DV.val (Value.agg (Array.mk [Value.int IntKind.i64 (lo - a), Value.int IntKind.i64 (b - a)]))]
                  (DV.val (Value.bool (lesR n d (lo - a) (b - a))))]
              (VT.ite (lesR n d (lo - a) (b - a))
                (VT.need [i64In (hi - a), i64In (b - a)]
                  (VT.need
                    [FnC prog 70
                        [DV.val (Value.agg (Array.mk [Value.int IntKind.i64 (hi - a), Value.int IntKind.i64 (b - a)])),
                          DV.val (Value.agg (Array.mk [Value.int IntKind.i64 tn, Value.int IntKind.i64 td]))]
                        (DV.val (Value.bool (lesR (hi - a) (b - a) tn td)))]
                    (VT.ite (lesR (hi - a) (b - a) tn td)
                      (VT.done
                        [lo - a = cF1 n d a b lo hi, b - a = cF2 n d a b lo hi, hi - a = cT1 tn td a b lo hi,
                          b - a = cT2 tn td a b lo hi, true = cutB a b lo hi])
                      (VT.done
                        [lo - a = cF1 n d a b lo hi, b - a = cF2 n d a b lo hi, tn = cT1 tn td a b lo hi,
                          td = cT2 tn td a b lo hi, true = cutB a b lo hi]))))
                (VT.need [i64In (hi - a), i64In (b - a)]
                  (VT.need
                    [FnC prog 70
                        [DV.val (Value.agg (Array.mk [Value.int IntKind.i64 (hi - a), Value.int IntKind.i64 (b - a)])),
                          DV.val (Value.agg (Array.mk [Value.int IntKind.i64 tn, Value.int IntKind.i64 td]))]
                        (DV.val (Value.bool (lesR (hi - a) (b - a) tn td)))]
                    (VT.ite (lesR (hi - a) (b - a) tn td)
                      (VT.done
                        [n = cF1 n d a b lo hi, d = cF2 n d a b lo hi, hi - a = cT1 tn td a b lo hi,
                          b - a = cT2 tn td a b lo hi, true = cutB a b lo hi])
                      (VT.done
                        [n = cF1 n d a b lo hi, d = cF2 n d a b lo hi, tn = cT1 tn td a b lo hi, td = cT2 tn td a b lo hi,
                          true = cutB a b lo hi]))))))))) (by kernel_rfl) ?_
  simp only [VT.holds, AllT, Sq]
  refine ⟨fun h => by simp only [cF1, cF2, cT1, cT2, cutB, if_pos h, and_self], fun h => ⟨fun hg => ⟨⟨by unfold i64In; omega, by unfold i64In; omega, by unfold i64In; omega, by unfold i64In; omega⟩, ⟨by unfold i64In; omega, by unfold i64In; omega⟩, less_c _ _ _ _ hn hd (by omega) (by omega), fun h1 => ⟨⟨by unfold i64In; omega, by unfold i64In; omega⟩, less_c _ _ _ _ (by omega) (by omega) htn htd, fun h2 => by simp only [cF1, cF2, cT1, cT2, cutB, cL, cH, cA, cB, if_neg h, if_pos hg, h1, h2, if_true, Bool.false_eq_true, if_false, and_self], fun h2 => by simp only [cF1, cF2, cT1, cT2, cutB, cL, cH, cA, cB, if_neg h, if_pos hg, h1, h2, if_true, Bool.false_eq_true, if_false, and_self]⟩, fun h1 => ⟨⟨by unfold i64In; omega, by unfold i64In; omega⟩, less_c _ _ _ _ (by omega) (by omega) htn htd, fun h2 => by simp only [cF1, cF2, cT1, cT2, cutB, cL, cH, cA, cB, if_neg h, if_pos hg, h1, h2, if_true, Bool.false_eq_true, if_false, and_self], fun h2 => by simp only [cF1, cF2, cT1, cT2, cutB, cL, cH, cA, cB, if_neg h, if_pos hg, h1, h2, if_true, Bool.false_eq_true, if_false, and_self]⟩⟩, fun hg => ⟨⟨by unfold i64In; omega, by unfold i64In; omega⟩, less_c _ _ _ _ hn hd (by omega) (by omega), fun h1 => ⟨⟨by unfold i64In; omega, by unfold i64In; omega⟩, less_c _ _ _ _ (by omega) (by omega) htn htd, fun h2 => by simp only [cF1, cF2, cT1, cT2, cutB, cL, cH, cA, cB, if_neg h, if_neg hg, h1, h2, if_true, Bool.false_eq_true, if_false, and_self], fun h2 => by simp only [cF1, cF2, cT1, cT2, cutB, cL, cH, cA, cB, if_neg h, if_neg hg, h1, h2, if_true, Bool.false_eq_true, if_false, and_self]⟩, fun h1 => ⟨⟨by unfold i64In; omega, by unfold i64In; omega⟩, less_c _ _ _ _ (by omega) (by omega) htn htd, fun h2 => by simp only [cF1, cF2, cT1, cT2, cutB, cL, cH, cA, cB, if_neg h, if_neg hg, h1, h2, if_true, Bool.false_eq_true, if_false, and_self], fun h2 => by simp only [cF1, cF2, cT1, cT2, cutB, cL, cH, cA, cB, if_neg h, if_neg hg, h1, h2, if_true, Bool.false_eq_true, if_false, and_self]⟩⟩⟩⟩
end Go.Abs
end
