/- Contracts. -/
import Derived.Test.YtomkiggacimmaaaGreatK22
import Derived.Test.YtomkiggacimmaaaGreatAbsVS
import Derived.Test.YtomkiggacimmaaaGreatAbsXN
set_option linter.unusedVariables false
set_option linter.unusedSimpArgs false
set_option maxRecDepth 100000
namespace Go.Abs
open Go
/-- A moved building; whether all stays in the field. -/
def mvB (b : Bld) (dx dy : Int) : Bld := ⟨b.name, b.nS, b.fl, b.N, fun i k => b.X i k + dx, fun i k => b.Y i k + dy, b.roof, b.nO, b.O, b.nB, fun i j => if j = 0 then b.B i 0 + dx else if j = 1 then b.B i 1 + dy else if j = 3 then b.B i 3 + dx else if j = 4 then b.B i 4 + dy else b.B i j⟩
abbrev stoV (b : Bld) (dx dy : Int) : List (Nat → DV) := [fun i => dI (b.fl i), fun i => pts (b.N i) (fun k => b.X i k + dx) (fun k => b.Y i k + dy)]
abbrev boxV (b : Bld) (dx dy : Int) : List (Nat → DV) := [fun i => dI (b.B i 0 + dx), fun i => dI (b.B i 1 + dy), fun i => dI (b.B i 2), fun i => dI (b.B i 3 + dx), fun i => dI (b.B i 4 + dy), fun i => dI (b.B i 5)]
abbrev bldV (b : Bld) (dx dy : Int) : DV := .agg [.val (.string b.name), .lst b.nS (stoV b dx dy), dI b.roof, .lst b.nO (opeC b), .lst b.nB (boxV b dx dy)]
def inP (x y : Int) : Bool := inF x && inF y
def gP (b : Bld) (dx dy : Int) (i : Nat) : Nat → Bool
  | 0 => true
  | k + 1 => gP b dx dy i k && inP (b.X i k + dx) (b.Y i k + dy)
def gS (b : Bld) (dx dy : Int) : Nat → Bool
  | 0 => true
  | i + 1 => gS b dx dy i && gP b dx dy i (b.N i)
def bxG (a b c d e f : Int) : Bool := decide (ckB a b c d e f = 0)
def gB (b : Bld) (dx dy : Int) : Nat → Bool
  | 0 => true
  | j + 1 => gB b dx dy j && bxG (b.B j 0 + dx) (b.B j 1 + dy) (b.B j 2) (b.B j 3 + dx) (b.B j 4 + dy) (b.B j 5)
def mvG (b : Bld) (dx dy : Int) : Bool := gS b dx dy b.nS && gB b dx dy b.nB
def gO (d : DV) : Bool := match d with
  | .cptr [.val (.bool b)] => b
  | _ => false
abbrev rM1 (dx dy : Int) : Orc := .wr fun l => ([.no, .no, .no, .box [dB (gO (arg l 3) && inP (fI 0 (arg l 0) + dx) (fI 1 (arg l 0) + dy))]], dP (fI 0 (arg l 0) + dx) (fI 1 (arg l 0) + dy))
abbrev rM2 (dx dy : Int) : Orc := .wr fun l => ([.no, .no, .no, .box [dB (gO (arg l 3) && bxG (fI 0 (arg l 0) + dx) (fI 1 (arg l 0) + dy) (fI 2 (arg l 0)) (fI 3 (arg l 0) + dx) (fI 4 (arg l 0) + dy) (fI 5 (arg l 0)))]], bx (fI 0 (arg l 0) + dx) (fI 1 (arg l 0) + dy) (fI 2 (arg l 0)) (fI 3 (arg l 0) + dx) (fI 4 (arg l 0) + dy) (fI 5 (arg l 0)))
abbrev cloM (f : Nat) (dx dy : Int) : DV := .clo f [.cptr [dI dx], .cptr [dI dy], .ptr 0 0]
theorem add_off0 (g k : Nat) : (⟨g, 0, none⟩ : Addr).add k = ⟨g, k, none⟩ := by rw [add_off, Nat.zero_add]
/-- A row of the callee's own make, told as a list that only is read. -/
theorem FnR_lst {P : Program} {f : FuncId} {args : List DV} {n : Nat} {cols : List (Nat → DV)} (h : FnR P f args n cols) : FnC P f args (.lst n cols) :=
  ⟨h.1, fun S w vs h1 h2 h3 => Calls.mono (h.2 S w vs h1 h2 h3) fun e w' ⟨v, he, hb, hr⟩ => ⟨v, he, by
    rcases hr with ⟨rfl, rfl⟩ | ⟨g, C, cv, T, rfl, hg, hh, hsz, hn, hc⟩
    · exact .lst (fun _ _ => undef) (Nat.le_refl _) (fun i j f hi => absurd hi (Nat.not_lt_zero i)) (fun h => absurd h (Nat.lt_irrefl 0)) (fun i j f hi => absurd hi (Nat.not_lt_zero i)) fun i j f hi => absurd hi (Nat.not_lt_zero i)
    · refine .lst (fun i j => (cv[i * cols.length + j]?).getD undef) hn (fun i j f hi hj => ?_) (fun _ => by simp) (fun i j f hi hj => ?_) fun i j f hi hj => ?_
      all_goals obtain ⟨u, hu, ho, hr⟩ := hc i j f hi hj
      · refine ⟨_, rfl, .inl ⟨?_, by rw [hu]; exact ho⟩, .inr (by rw [add_off0]; exact hg)⟩
        rw [add_off0, hu]
        show (match w'.heap[g]? with | some (.cells c _ _) => _ | _ => none) = _
        rw [hh]
        simpa using hu
      · rw [hu]; exact ho
      · rw [hu]; exact hr.mono (fun a u ⟨x, _, y⟩ => ⟨x, y⟩) (fun _ h => h) fun _ _ h => h.elim, hb⟩⟩
abbrev clO : Ann := { orc := [], loops := [], cuts := [] }
noncomputable def A49_clone_r (b : Bld) : Ann := { orc := [], loops := [], cuts := [], exts := [(1, nlE prog clO)] }
theorem clone_r (b : Bld) (hO : b.nO ≤ 1000) : FnR prog 49 [.lst b.nO (opeC b)] b.nO (opeC b) := by
  refine FnR_owed hmix (A49_clone_r b) (V := .cut Bool (fun (c : Bool) => c = true → b.nO = nat_lit 0) (.done []) fun (c : Bool) => .ite c (.done [b.nO = 0]) (.need [(0:Nat) ≤ 0, ((0:Nat) + b.nO) * (nat_lit 47 + 1) ≤ 140737488355328] (.done [(0:Nat) + b.nO = b.nO ∧ (0:Nat) + b.nO ≤ 0 + b.nO, ∀ i < b.nO, (if decide (i < 0) = true then (0:Int) else b.O (i - 0) (0:Nat)) = b.O i 0, ∀ i < b.nO, (if decide (i < 0) = true then (0:Int) else b.O (i - 0) (1:Nat)) = b.O i 1, ∀ i < b.nO, (if decide (i < 0) = true then (0:Int) else b.O (i - 0) (2:Nat)) = b.O i 2, ∀ i < b.nO, (if decide (i < 0) = true then (0:Int) else b.O (i - 0) (3:Nat)) = b.O i 3, ∀ i < b.nO, (if decide (i < 0) = true then (0:Int) else b.O (i - 0) (4:Nat)) = b.O i 4, ∀ i < b.nO, (if decide (i < 0) = true then (0:Int) else b.O (i - 0) (5:Nat)) = b.O i 5]))) (by kernel_rfl) ?_ (hx0 := extsOK_one rfl (nlE_ok hmix (extsOK_nil rfl)))
  simp only [VT.holds, AllT, Sq]
  refine fun i h => ⟨h, fun _ => ⟨⟨Nat.le_refl _, by omega⟩, ⟨Nat.zero_add _, Nat.le_refl _⟩, ?_, ?_, ?_, ?_, ?_, ?_⟩⟩
  all_goals intro j _; rw [if_neg (Nat.not_lt_zero j), Nat.sub_zero]
noncomputable def A22_move1_c (x y dx dy : Int) (g : Bool) : Ann := { orc := [(2, [(4, rIn), (9, rIn)])], loops := [], cuts := [] }
theorem move1_c (x y dx dy : Int) (g : Bool) (hx : i64In (x + dx)) (hy : i64In (y + dy)) : FnW prog 22 [.arg (dP x y), .arg (.cptr [dI dx]), .arg (.cptr [dI dy]), .box [dB g] [dB (g && inP (x + dx) (y + dy))]] (dP (x + dx) (y + dy)) := by
  refine FnW_owed hmix (A22_move1_c x y dx dy g) (V := VT.need [i64In (x + dx), i64In (y + dy)]
        (VT.need
          [g = true → g = true, g = true → g = true,
            g = true → FnC prog 23 [DV.val (Value.int IntKind.i64 (x + dx))] (DV.val (Value.bool (inF (x + dx)))),
            g = true → g = true,
            (if g = true then inF (x + dx) else false) = true → (if g = true then inF (x + dx) else false) = true,
            (if g = true then inF (x + dx) else false) = true → (if g = true then inF (x + dx) else false) = true,
            (if g = true then inF (x + dx) else false) = true →
              FnC prog 23 [DV.val (Value.int IntKind.i64 (y + dy))] (DV.val (Value.bool (inF (y + dy)))),
            (if g = true then inF (x + dx) else false) = true → (if g = true then inF (x + dx) else false) = true]
          (VT.done
            [(if (if g = true then inF (x + dx) else false) = true then inF (y + dy) else false) =
                (g && inP (x + dx) (y + dy)),
              x + dx = x + dx, y + dy = y + dy]))) (by kernel_rfl) ?_
  simp only [VT.holds, AllT, Sq]
  refine ⟨⟨hx, hy⟩, ⟨fun _ => inside_c _, fun _ => inside_c _⟩, ?_⟩
  unfold inP
  cases g <;> cases inF (x + dx) <;> cases inF (y + dy) <;> rfl
noncomputable def A24_move2_c (a b c d e f dx dy : Int) (g : Bool) : Ann := { orc := [(2, [(3, .res fun l => dI (ckB (fI 0 (arg l 0)) (fI 1 (arg l 0)) (fI 2 (arg l 0)) (fI 3 (arg l 0)) (fI 4 (arg l 0)) (fI 5 (arg l 0))))])], loops := [], cuts := [] }
theorem move2_c (a b c d e f dx dy : Int) (g : Bool) (ha : i64In (a + dx)) (hb : i64In (b + dy)) (hd : i64In (d + dx)) (he : i64In (e + dy)) : FnW prog 24 [.arg (bx a b c d e f), .arg (.cptr [dI dx]), .arg (.cptr [dI dy]), .box [dB g] [dB (g && bxG (a + dx) (b + dy) c (d + dx) (e + dy) f)]] (bx (a + dx) (b + dy) c (d + dx) (e + dy) f) := by
  refine FnW_owed hmix (A24_move2_c a b c d e f dx dy g) (V := VT.need [i64In (a + dx), i64In (d + dx), i64In (b + dy), i64In (e + dy)]
        (VT.need
          [g = true → g = true,
            g = true →
              FnC prog 25
                [DV.val
                    (Value.agg
                      (Array.mk
                        [Value.int IntKind.i64 (a + dx), Value.int IntKind.i64 (b + dy), Value.int IntKind.i64 c,
                          Value.int IntKind.i64 (d + dx), Value.int IntKind.i64 (e + dy), Value.int IntKind.i64 f]))]
                (DV.val (Value.int IntKind.i64 (ckB (a + dx) (b + dy) c (d + dx) (e + dy) f))),
            g = true → g = true, g = true → g = true]
          (VT.done
            [(if g = true then ckB (a + dx) (b + dy) c (d + dx) (e + dy) f == 0 else false) =
                (g && bxG (a + dx) (b + dy) c (d + dx) (e + dy) f),
              a + dx = a + dx, b + dy = b + dy, c = c, d + dx = d + dx, e + dy = e + dy, f = f]))) (by kernel_rfl) ?_
  simp only [VT.holds, AllT, Sq]
  refine ⟨⟨ha, hd, hb, he⟩, fun _ => checkBox_c _ _ _ _ _ _, ?_⟩
  unfold bxG
  rw [Bool.eq_iff_iff]
  simp
theorem clone_c (b : Bld) (hO : b.nO ≤ 1000) : FnC prog 49 [.lst b.nO (opeC b)] (.lst b.nO (opeC b)) := FnR_lst (clone_r b hO)
noncomputable def A21_changedM_c (b : Bld) (dx dy : Int) : Ann := { orc := [(1, [(6, .res fun _ => .lst b.nO (opeC b))]), (9, [(4, rM1 dx dy)]), (11, [(3, .frp)]), (16, [(4, rM2 dx dy)])], loops := [(0, { ι := Nat, keep := [1, 2, 3, 6, 7, 24, 25], boxes := [3, 6], ts := fun _ i => [(26, dI (i : Int))], bx := fun σ i => [(1, [dB (gS b dx dy i)]), (7, [.val (.string b.name), .row 2 (σ.nx + 50) 0 i, dI b.roof, .lst b.nO (opeC b), .val (.slice none 0 0)])], rb := fun _ i => [(7, 1, 2, i, stoV b dx dy)], inv := fun _ i => i ≤ b.nS, mu := fun _ i => b.nS - i, rd := fun _ σ => (iOf (σ.get 26)).toNat }), (2, { ι := Nat, keep := [1, 2, 3, 6, 7, 10, 24, 25, 26, 34, 35], boxes := [3, 6], ts := fun _ k => [(36, dI (k : Int))], bx := fun σ k => [(1, [dB (gS b dx dy (iOf (σ.get 26)).toNat && gP b dx dy (iOf (σ.get 26)).toNat k)]), (10, [dI (b.fl (iOf (σ.get 26)).toNat), .row 2 (σ.nx + 50) 0 k]), (7, [.val (.string b.name), .row 2 (σ.nx + 51) 0 (iOf (σ.get 26)).toNat, dI b.roof, .lst b.nO (opeC b), .val (.slice none 0 0)])], rb := fun σ k => [(10, 1, 2, k, [fun j => dI (b.X (iOf (σ.get 26)).toNat j + dx), fun j => dI (b.Y (iOf (σ.get 26)).toNat j + dy)]), (7, 1, 2, (iOf (σ.get 26)).toNat, stoV b dx dy)], inv := fun σ k => k ≤ b.N (iOf (σ.get 26)).toNat, mu := fun σ k => b.N (iOf (σ.get 26)).toNat - k, rd := fun _ σ => (iOf (σ.get 36)).toNat }), (4, { ι := Nat, keep := [1, 2, 3, 6, 7, 57, 58], boxes := [3, 6], ts := fun _ i => [(59, dI (i : Int))], bx := fun σ i => [(1, [dB (gS b dx dy b.nS && gB b dx dy i)]), (7, [.val (.string b.name), .row 2 (σ.nx + 50) 0 b.nS, dI b.roof, .lst b.nO (opeC b), .row 6 (σ.nx + 51) 0 i])], rb := fun _ i => [(7, 1, 2, b.nS, stoV b dx dy), (7, 4, 6, i, boxV b dx dy)], inv := fun _ i => i ≤ b.nB, mu := fun _ i => b.nB - i, rd := fun _ σ => (iOf (σ.get 59)).toNat })], cuts := [] }
theorem changedM_c (b : Bld) (dx dy : Int) (hS : b.nS ≤ 1000) (hO : b.nO ≤ 1000) (hB : b.nB ≤ 1000) (hN : ∀ i, i < b.nS → b.N i ≤ 1000) (hY : ∀ i, i < b.nS → inB (b.N i) (b.Y i)) (hX : ∀ i, i < b.nS → inB (b.N i) (b.X i)) (hC : ∀ i, i < b.nB → ∀ j, j < 6 → -1000000 ≤ b.B i j ∧ b.B i j ≤ 1000000) (hdx : -2000000 ≤ dx ∧ dx ≤ 2000000) (hdy : -2000000 ≤ dy ∧ dy ≤ 2000000) : FnS prog 21 [bld b, cloM 22 dx dy, cloM 24 dx dy] [dB true] [dB (mvG b dx dy)] (bldV b dx dy) := by
  refine FnS_owed hmix (A21_changedM_c b dx dy) (k := 1) (c := 2) (V := VT.need
        [FnC prog 49
            [DV.lst b.nO
                [fun (i : Nat) => DV.val (Value.int IntKind.i64 (b.O i 0)), fun (i : Nat) =>
                  DV.val (Value.int IntKind.i64 (b.O i 1)), fun (i : Nat) =>
                  DV.val (Value.int IntKind.i64 (b.O i 2)), fun (i : Nat) =>
                  DV.val (Value.int IntKind.i64 (b.O i 3)), fun (i : Nat) =>
                  DV.val (Value.int IntKind.i64 (b.O i 4)), fun (i : Nat) =>
                  DV.val (Value.int IntKind.i64 (b.O i 5))]]
            (DV.lst b.nO
              [fun (i : Nat) => DV.val (Value.int IntKind.i64 (b.O i 0)), fun (i : Nat) =>
                DV.val (Value.int IntKind.i64 (b.O i 1)), fun (i : Nat) =>
                DV.val (Value.int IntKind.i64 (b.O i 2)), fun (i : Nat) =>
                DV.val (Value.int IntKind.i64 (b.O i 3)), fun (i : Nat) =>
                DV.val (Value.int IntKind.i64 (b.O i 4)), fun (i : Nat) =>
                DV.val (Value.int IntKind.i64 (b.O i 5))])]
        (VT.loop Nat (fun (a : Nat) => a ≤ b.nS) (0:Int).toNat
          [(0:Int) = (↑(0:Int).toNat : Int), dx = dx, dy = dy, dx = dx, dy = dy, b.nS = b.nS,
            ∀ i < b.nS, b.fl i = b.fl i,
            ∀ (i : Nat),
              i < b.nS →
                b.N i = b.N i ∧
                  (∀ i_1 < b.N i, b.X i i_1 = b.X i i_1) ∧ ∀ i_1 < b.N i, b.Y i i_1 = b.Y i i_1,
            (b.nS:Int) = (b.nS:Int), Int.toNat (0:Int) = 0, true = gS b dx dy (0:Int).toNat,
            b.name = b.name, (0:Nat) = 0, Int.toNat (0:Int) = 0, b.roof = b.roof, b.nO = b.nO,
            ∀ i < b.nO, b.O i 0 = b.O i 0,
            ∀ i < b.nO, b.O i 1 = b.O i 1,
            ∀ i < b.nO, b.O i 2 = b.O i 2,
            ∀ i < b.nO, b.O i 3 = b.O i 3,
            ∀ i < b.nO, b.O i 4 = b.O i 4,
            ∀ i < b.nO, b.O i 5 = b.O i 5,
            Value.slice none 0 (0:Nat) = Value.slice none 0 (0:Nat), b.name = b.name, b.nS = b.nS,
            ∀ i < b.nS, b.fl i = b.fl i,
            ∀ (i : Nat),
              i < b.nS →
                b.N i = b.N i ∧
                  (∀ i_1 < b.N i, b.X i i_1 = b.X i i_1) ∧ ∀ i_1 < b.N i, b.Y i i_1 = b.Y i i_1,
            b.roof = b.roof, b.nO = b.nO, ∀ i < b.nO, b.O i 0 = b.O i 0,
            ∀ i < b.nO, b.O i 1 = b.O i 1,
            ∀ i < b.nO, b.O i 2 = b.O i 2,
            ∀ i < b.nO, b.O i 3 = b.O i 3,
            ∀ i < b.nO, b.O i 4 = b.O i 4,
            ∀ i < b.nO, b.O i 5 = b.O i 5, b.nB = b.nB,
            ∀ i < b.nB, b.B i 0 = b.B i 0,
            ∀ i < b.nB, b.B i 1 = b.B i 1,
            ∀ i < b.nB, b.B i 2 = b.B i 2,
            ∀ i < b.nB, b.B i 3 = b.B i 3,
            ∀ i < b.nB, b.B i 4 = b.B i 4,
            ∀ i < b.nB, b.B i 5 = b.B i 5, ByteArray.mk #[] = ByteArray.mk #[],
            Value.slice none 0 (0:Nat) = Value.slice none 0 (0:Nat), (0:Int) = 0,
            Value.slice none 0 (0:Nat) = Value.slice none 0 (0:Nat),
            Value.slice none 0 (0:Nat) = Value.slice none 0 (0:Nat)]
          fun (i : Nat) =>
          VT.ite (decide ((i:Int) < (b.nS:Int)))
            (VT.need [(0:Int) ≤ (i:Int) ∧ (i:Int) < (b.nS:Int)]
              (VT.loop Nat (fun (a : Nat) => a ≤ b.N (i:Int).toNat) (0:Int).toNat
                [(0:Int) = (↑(0:Int).toNat : Int), dx = dx, dy = dy, dx = dx, dy = dy, b.nS = b.nS,
                  ∀ i < b.nS, b.fl i = b.fl i,
                  ∀ (i : Nat),
                    i < b.nS →
                      b.N i = b.N i ∧
                        (∀ i_1 < b.N i, b.X i i_1 = b.X i i_1) ∧
                          ∀ i_1 < b.N i, b.Y i i_1 = b.Y i i_1,
                  (b.nS:Int) = (b.nS:Int), (i:Int) = (i:Int),
                  b.N (i:Int).toNat = b.N (i:Int).toNat,
                  ∀ (i_1 : Nat),
                    i_1 < b.N (i:Int).toNat → b.X (i:Int).toNat i_1 = b.X (i:Int).toNat i_1,
                  ∀ (i_1 : Nat),
                    i_1 < b.N (i:Int).toNat → b.Y (i:Int).toNat i_1 = b.Y (i:Int).toNat i_1,
                  (↑(b.N (i:Int).toNat) : Int) = (↑(b.N (i:Int).toNat) : Int),
                  Int.toNat (0:Int) = 0, i = (i:Int).toNat,
                  ∀ i_1 < (i:Int).toNat, b.fl i_1 = b.fl i_1,
                  ∀ (i_1 : Nat),
                    i_1 < (i:Int).toNat →
                      b.N i_1 = b.N i_1 ∧
                        (∀ i < b.N i_1, b.X i_1 i + dx = b.X i_1 i + dx) ∧
                          ∀ i < b.N i_1, b.Y i_1 i + dy = b.Y i_1 i + dy,
                  gS b dx dy i =
                    (gS b dx dy (i:Int).toNat && gP b dx dy (i:Int).toNat (0:Int).toNat),
                  b.fl (i:Int).toNat = b.fl (i:Int).toNat, (0:Nat) = 0,
                  Int.toNat (0:Int) = 0, b.name = b.name, (0:Nat) = 0, i = (i:Int).toNat,
                  b.roof = b.roof, b.nO = b.nO, ∀ i < b.nO, b.O i 0 = b.O i 0,
                  ∀ i < b.nO, b.O i 1 = b.O i 1,
                  ∀ i < b.nO, b.O i 2 = b.O i 2,
                  ∀ i < b.nO, b.O i 3 = b.O i 3,
                  ∀ i < b.nO, b.O i 4 = b.O i 4,
                  ∀ i < b.nO, b.O i 5 = b.O i 5,
                  Value.slice none 0 (0:Nat) = Value.slice none 0 (0:Nat), b.name = b.name, b.nS = b.nS,
                  ∀ i < b.nS, b.fl i = b.fl i,
                  ∀ (i : Nat),
                    i < b.nS →
                      b.N i = b.N i ∧
                        (∀ i_1 < b.N i, b.X i i_1 = b.X i i_1) ∧
                          ∀ i_1 < b.N i, b.Y i i_1 = b.Y i i_1,
                  b.roof = b.roof, b.nO = b.nO, ∀ i < b.nO, b.O i 0 = b.O i 0,
                  ∀ i < b.nO, b.O i 1 = b.O i 1,
                  ∀ i < b.nO, b.O i 2 = b.O i 2,
                  ∀ i < b.nO, b.O i 3 = b.O i 3,
                  ∀ i < b.nO, b.O i 4 = b.O i 4,
                  ∀ i < b.nO, b.O i 5 = b.O i 5, b.nB = b.nB,
                  ∀ i < b.nB, b.B i 0 = b.B i 0,
                  ∀ i < b.nB, b.B i 1 = b.B i 1,
                  ∀ i < b.nB, b.B i 2 = b.B i 2,
                  ∀ i < b.nB, b.B i 3 = b.B i 3,
                  ∀ i < b.nB, b.B i 4 = b.B i 4,
                  ∀ i < b.nB, b.B i 5 = b.B i 5, ByteArray.mk #[] = ByteArray.mk #[],
                  Value.slice none 0 (0:Nat) = Value.slice none 0 (0:Nat), (0:Int) = 0,
                  Value.slice none 0 (0:Nat) = Value.slice none 0 (0:Nat),
                  Value.slice none 0 (0:Nat) = Value.slice none 0 (0:Nat)]
                fun (i_1 : Nat) =>
                VT.ite (decide ((i_1:Int) < (↑(b.N (i:Int).toNat) : Int)))
                  (VT.need [(0:Int) ≤ (i_1:Int) ∧ (i_1:Int) < (↑(b.N (i:Int).toNat) : Int)]
                    (VT.need
                      [FnW prog 22
                          [WA.arg
                              (DV.val
                                (Value.agg
                                  (Array.mk
                                    [Value.int IntKind.i64 (b.X (i:Int).toNat (i_1:Int).toNat),
                                      Value.int IntKind.i64 (b.Y (i:Int).toNat (i_1:Int).toNat)]))),
                            WA.arg (DV.cptr [DV.val (Value.int IntKind.i64 dx)]),
                            WA.arg (DV.cptr [DV.val (Value.int IntKind.i64 dy)]),
                            WA.box
                              [DV.val
                                  (Value.bool (gS b dx dy (i:Int).toNat && gP b dx dy (i:Int).toNat i_1))]
                              [DV.val
                                  (Value.bool
                                    (gO
                                        (DV.cptr
                                          [DV.val
                                              (Value.bool
                                                (gS b dx dy (i:Int).toNat &&
                                                  gP b dx dy (i:Int).toNat i_1))]) &&
                                      inP (b.X (i:Int).toNat (i_1:Int).toNat + dx)
                                        (b.Y (i:Int).toNat (i_1:Int).toNat + dy)))]]
                          (DV.val
                            (Value.agg
                              (Array.mk
                                [Value.int IntKind.i64 (b.X (i:Int).toNat (i_1:Int).toNat + dx),
                                  Value.int IntKind.i64 (b.Y (i:Int).toNat (i_1:Int).toNat + dy)]))),
                        i_1 ≤ i_1, (i_1 + 1) * (nat_lit 15 + 1) ≤ 140737488355328,
                        (1:Nat) ≤ 1]
                      (VT.need [i64In ((i_1:Int) + 1)]
                        (VT.done
                          [(i_1:Int) + 1 = (↑((i_1:Int) + 1).toNat : Int), dx = dx, dy = dy,
                            dx = dx, dy = dy, b.nS = b.nS, ∀ i < b.nS, b.fl i = b.fl i,
                            ∀ (i : Nat),
                              i < b.nS →
                                b.N i = b.N i ∧
                                  (∀ i_2 < b.N i, b.X i i_2 = b.X i i_2) ∧
                                    ∀ i_2 < b.N i, b.Y i i_2 = b.Y i i_2,
                            (b.nS:Int) = (b.nS:Int), (i:Int) = (i:Int),
                            b.N (i:Int).toNat = b.N (i:Int).toNat,
                            ∀ (i_2 : Nat),
                              i_2 < b.N (i:Int).toNat →
                                b.X (i:Int).toNat i_2 = b.X (i:Int).toNat i_2,
                            ∀ (i_2 : Nat),
                              i_2 < b.N (i:Int).toNat →
                                b.Y (i:Int).toNat i_2 = b.Y (i:Int).toNat i_2,
                            (↑(b.N (i:Int).toNat) : Int) = (↑(b.N (i:Int).toNat) : Int),
                            i_1 + 1 = ((i_1:Int) + 1).toNat,
                            ∀ (i_2 : Nat),
                              i_2 < ((i_1:Int) + 1).toNat →
                                (if decide (i_2 < i_1) = true then b.X (i:Int).toNat i_2 + dx
                                  else b.X (i:Int).toNat (i_1:Int).toNat + dx) =
                                  b.X (i:Int).toNat i_2 + dx,
                            ∀ (i_2 : Nat),
                              i_2 < ((i_1:Int) + 1).toNat →
                                (if decide (i_2 < i_1) = true then b.Y (i:Int).toNat i_2 + dy
                                  else b.Y (i:Int).toNat (i_1:Int).toNat + dy) =
                                  b.Y (i:Int).toNat i_2 + dy,
                            Int.toNat (i:Int) = (i:Int).toNat,
                            ∀ i_2 < (i:Int).toNat, b.fl i_2 = b.fl i_2,
                            ∀ (i_2 : Nat),
                              i_2 < (i:Int).toNat →
                                b.N i_2 = b.N i_2 ∧
                                  (∀ i < b.N i_2, b.X i_2 i + dx = b.X i_2 i + dx) ∧
                                    ∀ i < b.N i_2, b.Y i_2 i + dy = b.Y i_2 i + dy,
                            (gO
                                  (DV.cptr
                                    [DV.val
                                        (Value.bool
                                          (gS b dx dy (i:Int).toNat && gP b dx dy (i:Int).toNat i_1))]) &&
                                inP (b.X (i:Int).toNat (i_1:Int).toNat + dx)
                                  (b.Y (i:Int).toNat (i_1:Int).toNat + dy)) =
                              (gS b dx dy (i:Int).toNat &&
                                gP b dx dy (i:Int).toNat ((i_1:Int) + 1).toNat),
                            b.fl (i:Int).toNat = b.fl (i:Int).toNat, (0:Nat) = 0,
                            i_1 + 1 = ((i_1:Int) + 1).toNat, b.name = b.name, (0:Nat) = 0,
                            Int.toNat (i:Int) = (i:Int).toNat, b.roof = b.roof, b.nO = b.nO,
                            ∀ i < b.nO, b.O i 0 = b.O i 0,
                            ∀ i < b.nO, b.O i 1 = b.O i 1,
                            ∀ i < b.nO, b.O i 2 = b.O i 2,
                            ∀ i < b.nO, b.O i 3 = b.O i 3,
                            ∀ i < b.nO, b.O i 4 = b.O i 4,
                            ∀ i < b.nO, b.O i 5 = b.O i 5,
                            Value.slice none 0 (0:Nat) = Value.slice none 0 (0:Nat), b.name = b.name,
                            b.nS = b.nS, ∀ i < b.nS, b.fl i = b.fl i,
                            ∀ (i : Nat),
                              i < b.nS →
                                b.N i = b.N i ∧
                                  (∀ i_2 < b.N i, b.X i i_2 = b.X i i_2) ∧
                                    ∀ i_2 < b.N i, b.Y i i_2 = b.Y i i_2,
                            b.roof = b.roof, b.nO = b.nO, ∀ i < b.nO, b.O i 0 = b.O i 0,
                            ∀ i < b.nO, b.O i 1 = b.O i 1,
                            ∀ i < b.nO, b.O i 2 = b.O i 2,
                            ∀ i < b.nO, b.O i 3 = b.O i 3,
                            ∀ i < b.nO, b.O i 4 = b.O i 4,
                            ∀ i < b.nO, b.O i 5 = b.O i 5, b.nB = b.nB,
                            ∀ i < b.nB, b.B i 0 = b.B i 0,
                            ∀ i < b.nB, b.B i 1 = b.B i 1,
                            ∀ i < b.nB, b.B i 2 = b.B i 2,
                            ∀ i < b.nB, b.B i 3 = b.B i 3,
                            ∀ i < b.nB, b.B i 4 = b.B i 4,
                            ∀ i < b.nB, b.B i 5 = b.B i 5, ByteArray.mk #[] = ByteArray.mk #[],
                            Value.slice none 0 (0:Nat) = Value.slice none 0 (0:Nat),
                            (0:Int) = 0,
                            Value.slice none 0 (0:Nat) = Value.slice none 0 (0:Nat),
                            Value.slice none 0 (0:Nat) = Value.slice none 0 (0:Nat),
                            Int.toNat ((i_1:Int) + 1) ≤ b.N (i:Int).toNat,
                            b.N (i:Int).toNat - ((i_1:Int) + 1).toNat <
                              b.N (i:Int).toNat - i_1]))))
                  (VT.need
                    [i_1 ≤ i_1, Int.toNat (i:Int) ≤ (i:Int).toNat,
                      (Int.toNat (i:Int) + 1) * (nat_lit 31 + 1) ≤ 140737488355328,
                      (1:Nat) ≤ 1]
                    (VT.need [i64In ((i:Int) + 1)]
                      (VT.done
                        [(i:Int) + 1 = (↑((i:Int) + 1).toNat : Int), dx = dx, dy = dy, dx = dx,
                          dy = dy, b.nS = b.nS, ∀ i < b.nS, b.fl i = b.fl i,
                          ∀ (i : Nat),
                            i < b.nS →
                              b.N i = b.N i ∧
                                (∀ i_2 < b.N i, b.X i i_2 = b.X i i_2) ∧
                                  ∀ i_2 < b.N i, b.Y i i_2 = b.Y i i_2,
                          (b.nS:Int) = (b.nS:Int),
                          Int.toNat (i:Int) + 1 = ((i:Int) + 1).toNat,
                          ∀ (i_2 : Nat),
                            i_2 < ((i:Int) + 1).toNat →
                              (if decide (i_2 < (i:Int).toNat) = true then b.fl i_2
                                else b.fl (i:Int).toNat) =
                                b.fl i_2,
                          ∀ (i_2 : Nat),
                            i_2 < ((i:Int) + 1).toNat →
                              (if decide (i_2 < (i:Int).toNat) = true then b.N i_2 else i_1) = b.N i_2 ∧
                                (∀ (i_3 : Nat),
                                    i_3 < b.N i_2 →
                                      (if decide (i_2 < (i:Int).toNat) = true then b.X i_2 i_3 + dx
                                        else b.X (i:Int).toNat i_3 + dx) =
                                        b.X i_2 i_3 + dx) ∧
                                  ∀ (i_3 : Nat),
                                    i_3 < b.N i_2 →
                                      (if decide (i_2 < (i:Int).toNat) = true then b.Y i_2 i_3 + dy
                                        else b.Y (i:Int).toNat i_3 + dy) =
                                        b.Y i_2 i_3 + dy,
                          (gS b dx dy (i:Int).toNat && gP b dx dy (i:Int).toNat i_1) =
                            gS b dx dy ((i:Int) + 1).toNat,
                          b.name = b.name, (0:Nat) = 0,
                          Int.toNat (i:Int) + 1 = ((i:Int) + 1).toNat, b.roof = b.roof,
                          b.nO = b.nO, ∀ i < b.nO, b.O i 0 = b.O i 0,
                          ∀ i < b.nO, b.O i 1 = b.O i 1,
                          ∀ i < b.nO, b.O i 2 = b.O i 2,
                          ∀ i < b.nO, b.O i 3 = b.O i 3,
                          ∀ i < b.nO, b.O i 4 = b.O i 4,
                          ∀ i < b.nO, b.O i 5 = b.O i 5,
                          Value.slice none 0 (0:Nat) = Value.slice none 0 (0:Nat), b.name = b.name,
                          b.nS = b.nS, ∀ i < b.nS, b.fl i = b.fl i,
                          ∀ (i : Nat),
                            i < b.nS →
                              b.N i = b.N i ∧
                                (∀ i_2 < b.N i, b.X i i_2 = b.X i i_2) ∧
                                  ∀ i_2 < b.N i, b.Y i i_2 = b.Y i i_2,
                          b.roof = b.roof, b.nO = b.nO, ∀ i < b.nO, b.O i 0 = b.O i 0,
                          ∀ i < b.nO, b.O i 1 = b.O i 1,
                          ∀ i < b.nO, b.O i 2 = b.O i 2,
                          ∀ i < b.nO, b.O i 3 = b.O i 3,
                          ∀ i < b.nO, b.O i 4 = b.O i 4,
                          ∀ i < b.nO, b.O i 5 = b.O i 5, b.nB = b.nB,
                          ∀ i < b.nB, b.B i 0 = b.B i 0,
                          ∀ i < b.nB, b.B i 1 = b.B i 1,
                          ∀ i < b.nB, b.B i 2 = b.B i 2,
                          ∀ i < b.nB, b.B i 3 = b.B i 3,
                          ∀ i < b.nB, b.B i 4 = b.B i 4,
                          ∀ i < b.nB, b.B i 5 = b.B i 5, ByteArray.mk #[] = ByteArray.mk #[],
                          Value.slice none 0 (0:Nat) = Value.slice none 0 (0:Nat),
                          (0:Int) = 0,
                          Value.slice none 0 (0:Nat) = Value.slice none 0 (0:Nat),
                          Value.slice none 0 (0:Nat) = Value.slice none 0 (0:Nat),
                          Int.toNat ((i:Int) + 1) ≤ b.nS,
                          b.nS - ((i:Int) + 1).toNat < b.nS - i])))))
            (VT.loop Nat (fun (a : Nat) => a ≤ b.nB) (0:Int).toNat
              [(0:Int) = (↑(0:Int).toNat : Int), dx = dx, dy = dy, dx = dx, dy = dy, b.nB = b.nB,
                ∀ i < b.nB, b.B i 0 = b.B i 0,
                ∀ i < b.nB, b.B i 1 = b.B i 1,
                ∀ i < b.nB, b.B i 2 = b.B i 2,
                ∀ i < b.nB, b.B i 3 = b.B i 3,
                ∀ i < b.nB, b.B i 4 = b.B i 4,
                ∀ i < b.nB, b.B i 5 = b.B i 5, (b.nB:Int) = (b.nB:Int), i = b.nS,
                ∀ i < b.nS, b.fl i = b.fl i,
                ∀ (i : Nat),
                  i < b.nS →
                    b.N i = b.N i ∧
                      (∀ i_1 < b.N i, b.X i i_1 + dx = b.X i i_1 + dx) ∧
                        ∀ i_1 < b.N i, b.Y i i_1 + dy = b.Y i i_1 + dy,
                Int.toNat (0:Int) = 0, gS b dx dy i = (gS b dx dy b.nS && gB b dx dy (0:Int).toNat),
                b.name = b.name, (0:Nat) = 0, i = b.nS, b.roof = b.roof, b.nO = b.nO,
                ∀ i < b.nO, b.O i 0 = b.O i 0,
                ∀ i < b.nO, b.O i 1 = b.O i 1,
                ∀ i < b.nO, b.O i 2 = b.O i 2,
                ∀ i < b.nO, b.O i 3 = b.O i 3,
                ∀ i < b.nO, b.O i 4 = b.O i 4,
                ∀ i < b.nO, b.O i 5 = b.O i 5, (0:Nat) = 0,
                Int.toNat (0:Int) = 0, b.name = b.name, b.nS = b.nS, ∀ i < b.nS, b.fl i = b.fl i,
                ∀ (i : Nat),
                  i < b.nS →
                    b.N i = b.N i ∧
                      (∀ i_1 < b.N i, b.X i i_1 = b.X i i_1) ∧
                        ∀ i_1 < b.N i, b.Y i i_1 = b.Y i i_1,
                b.roof = b.roof, b.nO = b.nO, ∀ i < b.nO, b.O i 0 = b.O i 0,
                ∀ i < b.nO, b.O i 1 = b.O i 1,
                ∀ i < b.nO, b.O i 2 = b.O i 2,
                ∀ i < b.nO, b.O i 3 = b.O i 3,
                ∀ i < b.nO, b.O i 4 = b.O i 4,
                ∀ i < b.nO, b.O i 5 = b.O i 5, b.nB = b.nB,
                ∀ i < b.nB, b.B i 0 = b.B i 0,
                ∀ i < b.nB, b.B i 1 = b.B i 1,
                ∀ i < b.nB, b.B i 2 = b.B i 2,
                ∀ i < b.nB, b.B i 3 = b.B i 3,
                ∀ i < b.nB, b.B i 4 = b.B i 4,
                ∀ i < b.nB, b.B i 5 = b.B i 5, ByteArray.mk #[] = ByteArray.mk #[],
                Value.slice none 0 (0:Nat) = Value.slice none 0 (0:Nat), (0:Int) = 0,
                Value.slice none 0 (0:Nat) = Value.slice none 0 (0:Nat),
                Value.slice none 0 (0:Nat) = Value.slice none 0 (0:Nat)]
              fun (i : Nat) =>
              VT.ite (decide ((i:Int) < (b.nB:Int)))
                (VT.need [(0:Int) ≤ (i:Int) ∧ (i:Int) < (b.nB:Int)]
                  (VT.need
                    [FnW prog 24
                        [WA.arg
                            (DV.val
                              (Value.agg
                                (Array.mk
                                  [Value.int IntKind.i64 (b.B (i:Int).toNat (0:Nat)),
                                    Value.int IntKind.i64 (b.B (i:Int).toNat (1:Nat)),
                                    Value.int IntKind.i64 (b.B (i:Int).toNat (2:Nat)),
                                    Value.int IntKind.i64 (b.B (i:Int).toNat (3:Nat)),
                                    Value.int IntKind.i64 (b.B (i:Int).toNat (4:Nat)),
                                    Value.int IntKind.i64 (b.B (i:Int).toNat (5:Nat))]))),
                          WA.arg (DV.cptr [DV.val (Value.int IntKind.i64 dx)]),
                          WA.arg (DV.cptr [DV.val (Value.int IntKind.i64 dy)]),
                          WA.box [DV.val (Value.bool (gS b dx dy b.nS && gB b dx dy i))]
                            [DV.val
                                (Value.bool
                                  (gO (DV.cptr [DV.val (Value.bool (gS b dx dy b.nS && gB b dx dy i))]) &&
                                    bxG (b.B (i:Int).toNat (0:Nat) + dx)
                                      (b.B (i:Int).toNat (1:Nat) + dy) (b.B (i:Int).toNat (2:Nat))
                                      (b.B (i:Int).toNat (3:Nat) + dx)
                                      (b.B (i:Int).toNat (4:Nat) + dy) (b.B (i:Int).toNat (5:Nat))))]]
                        (DV.val
                          (Value.agg
                            (Array.mk
                              [Value.int IntKind.i64 (b.B (i:Int).toNat (0:Nat) + dx),
                                Value.int IntKind.i64 (b.B (i:Int).toNat (1:Nat) + dy),
                                Value.int IntKind.i64 (b.B (i:Int).toNat (2:Nat)),
                                Value.int IntKind.i64 (b.B (i:Int).toNat (3:Nat) + dx),
                                Value.int IntKind.i64 (b.B (i:Int).toNat (4:Nat) + dy),
                                Value.int IntKind.i64 (b.B (i:Int).toNat (5:Nat))]))),
                      i ≤ i, (i + 1) * (nat_lit 47 + 1) ≤ 140737488355328, (1:Nat) ≤ 1]
                    (VT.need [i64In ((i:Int) + 1)]
                      (VT.done
                        [(i:Int) + 1 = (↑((i:Int) + 1).toNat : Int), dx = dx, dy = dy, dx = dx,
                          dy = dy, b.nB = b.nB, ∀ i < b.nB, b.B i 0 = b.B i 0,
                          ∀ i < b.nB, b.B i 1 = b.B i 1,
                          ∀ i < b.nB, b.B i 2 = b.B i 2,
                          ∀ i < b.nB, b.B i 3 = b.B i 3,
                          ∀ i < b.nB, b.B i 4 = b.B i 4,
                          ∀ i < b.nB, b.B i 5 = b.B i 5, (b.nB:Int) = (b.nB:Int),
                          b.nS = b.nS, ∀ i < b.nS, b.fl i = b.fl i,
                          ∀ (i : Nat),
                            i < b.nS →
                              b.N i = b.N i ∧
                                (∀ i_1 < b.N i, b.X i i_1 + dx = b.X i i_1 + dx) ∧
                                  ∀ i_1 < b.N i, b.Y i i_1 + dy = b.Y i i_1 + dy,
                          i + 1 = ((i:Int) + 1).toNat,
                          ∀ (i_1 : Nat),
                            i_1 < ((i:Int) + 1).toNat →
                              (if decide (i_1 < i) = true then b.B i_1 0 + dx
                                else b.B (i:Int).toNat (0:Nat) + dx) =
                                b.B i_1 0 + dx,
                          ∀ (i_1 : Nat),
                            i_1 < ((i:Int) + 1).toNat →
                              (if decide (i_1 < i) = true then b.B i_1 1 + dy
                                else b.B (i:Int).toNat (1:Nat) + dy) =
                                b.B i_1 1 + dy,
                          ∀ (i_1 : Nat),
                            i_1 < ((i:Int) + 1).toNat →
                              (if decide (i_1 < i) = true then b.B i_1 2
                                else b.B (i:Int).toNat (2:Nat)) =
                                b.B i_1 2,
                          ∀ (i_1 : Nat),
                            i_1 < ((i:Int) + 1).toNat →
                              (if decide (i_1 < i) = true then b.B i_1 3 + dx
                                else b.B (i:Int).toNat (3:Nat) + dx) =
                                b.B i_1 3 + dx,
                          ∀ (i_1 : Nat),
                            i_1 < ((i:Int) + 1).toNat →
                              (if decide (i_1 < i) = true then b.B i_1 4 + dy
                                else b.B (i:Int).toNat (4:Nat) + dy) =
                                b.B i_1 4 + dy,
                          ∀ (i_1 : Nat),
                            i_1 < ((i:Int) + 1).toNat →
                              (if decide (i_1 < i) = true then b.B i_1 5
                                else b.B (i:Int).toNat (5:Nat)) =
                                b.B i_1 5,
                          (gO (DV.cptr [DV.val (Value.bool (gS b dx dy b.nS && gB b dx dy i))]) &&
                              bxG (b.B (i:Int).toNat (0:Nat) + dx) (b.B (i:Int).toNat (1:Nat) + dy)
                                (b.B (i:Int).toNat (2:Nat)) (b.B (i:Int).toNat (3:Nat) + dx)
                                (b.B (i:Int).toNat (4:Nat) + dy) (b.B (i:Int).toNat (5:Nat))) =
                            (gS b dx dy b.nS && gB b dx dy ((i:Int) + 1).toNat),
                          b.name = b.name, (0:Nat) = 0, b.nS = b.nS, b.roof = b.roof, b.nO = b.nO,
                          ∀ i < b.nO, b.O i 0 = b.O i 0,
                          ∀ i < b.nO, b.O i 1 = b.O i 1,
                          ∀ i < b.nO, b.O i 2 = b.O i 2,
                          ∀ i < b.nO, b.O i 3 = b.O i 3,
                          ∀ i < b.nO, b.O i 4 = b.O i 4,
                          ∀ i < b.nO, b.O i 5 = b.O i 5, (0:Nat) = 0,
                          i + 1 = ((i:Int) + 1).toNat, b.name = b.name, b.nS = b.nS,
                          ∀ i < b.nS, b.fl i = b.fl i,
                          ∀ (i : Nat),
                            i < b.nS →
                              b.N i = b.N i ∧
                                (∀ i_1 < b.N i, b.X i i_1 = b.X i i_1) ∧
                                  ∀ i_1 < b.N i, b.Y i i_1 = b.Y i i_1,
                          b.roof = b.roof, b.nO = b.nO, ∀ i < b.nO, b.O i 0 = b.O i 0,
                          ∀ i < b.nO, b.O i 1 = b.O i 1,
                          ∀ i < b.nO, b.O i 2 = b.O i 2,
                          ∀ i < b.nO, b.O i 3 = b.O i 3,
                          ∀ i < b.nO, b.O i 4 = b.O i 4,
                          ∀ i < b.nO, b.O i 5 = b.O i 5, b.nB = b.nB,
                          ∀ i < b.nB, b.B i 0 = b.B i 0,
                          ∀ i < b.nB, b.B i 1 = b.B i 1,
                          ∀ i < b.nB, b.B i 2 = b.B i 2,
                          ∀ i < b.nB, b.B i 3 = b.B i 3,
                          ∀ i < b.nB, b.B i 4 = b.B i 4,
                          ∀ i < b.nB, b.B i 5 = b.B i 5, ByteArray.mk #[] = ByteArray.mk #[],
                          Value.slice none 0 (0:Nat) = Value.slice none 0 (0:Nat),
                          (0:Int) = 0,
                          Value.slice none 0 (0:Nat) = Value.slice none 0 (0:Nat),
                          Value.slice none 0 (0:Nat) = Value.slice none 0 (0:Nat),
                          Int.toNat ((i:Int) + 1) ≤ b.nB,
                          b.nB - ((i:Int) + 1).toNat < b.nB - i]))))
                (VT.done
                  [(gS b dx dy b.nS && gB b dx dy i) = mvG b dx dy, b.nS ≤ b.nS, i ≤ i, b.name = b.name, b.nS = b.nS,
                    ∀ i < b.nS, b.fl i = b.fl i,
                    ∀ (i : Nat),
                      i < b.nS →
                        b.N i = b.N i ∧
                          (∀ i_1 < b.N i, b.X i i_1 + dx = b.X i i_1 + dx) ∧
                            ∀ i_1 < b.N i, b.Y i i_1 + dy = b.Y i i_1 + dy,
                    b.roof = b.roof, b.nO = b.nO, ∀ i < b.nO, b.O i 0 = b.O i 0,
                    ∀ i < b.nO, b.O i 1 = b.O i 1,
                    ∀ i < b.nO, b.O i 2 = b.O i 2,
                    ∀ i < b.nO, b.O i 3 = b.O i 3,
                    ∀ i < b.nO, b.O i 4 = b.O i 4,
                    ∀ i < b.nO, b.O i 5 = b.O i 5, i = b.nB,
                    ∀ i < b.nB, b.B i 0 + dx = b.B i 0 + dx,
                    ∀ i < b.nB, b.B i 1 + dy = b.B i 1 + dy,
                    ∀ i < b.nB, b.B i 2 = b.B i 2,
                    ∀ i < b.nB, b.B i 3 + dx = b.B i 3 + dx,
                    ∀ i < b.nB, b.B i 4 + dy = b.B i 4 + dy,
                    ∀ i < b.nB, b.B i 5 = b.B i 5])))) (by kernel_rfl) ?_
  simp only [VT.holds, AllT, Sq]
  refine ⟨clone_c b hO, ⟨rfl, rfl⟩, Nat.zero_le _, fun i hi => ⟨fun hlt => ⟨⟨by omega, hlt⟩, ⟨rfl, (Bool.and_true _).symm⟩, Nat.zero_le _, fun k hk => ⟨fun hk2 => ?_, fun hk2 => ?_⟩⟩, fun hge => ?_⟩⟩
  · have hx := hX i (by omega) k (by omega)
    have hy := hY i (by omega) k (by omega)
    have hNi := hN i (by omega)
    exact ⟨⟨by omega, hk2⟩, ⟨move1_c _ _ dx dy _ (by unfold i64In; omega) (by unfold i64In; omega), Nat.le_refl _, by omega, Nat.le_refl _⟩, by unfold i64In; omega, by omega, last_if (f := fun j => b.X i j + dx) rfl, last_if (f := fun j => b.Y i j + dy) rfl, Bool.and_assoc _ _ _, by omega, by omega⟩
  · have e : k = b.N i := by omega
    subst e
    refine ⟨⟨Nat.le_refl _, Nat.le_refl _, by omega, Nat.le_refl _⟩, by unfold i64In; omega, by omega, last_if (f := b.fl) rfl, fun j hj => ?_, rfl, by omega, by omega⟩
    by_cases h : j < i
    · simp only [if_pos h, implies_true, and_true]
    · have : j = i := by omega
      subst this
      simp only [Nat.lt_irrefl, if_false, implies_true, and_true]
  · have e : i = b.nS := by omega
    subst e
    refine ⟨⟨rfl, rfl, (Bool.and_true _).symm, rfl⟩, Nat.zero_le _, fun j hj => ⟨fun hj2 => ?_, fun hj2 => ?_⟩⟩
    · have hj2 : j < b.nB := by omega
      have q := hC j hj2
      have q0 := q 0 (by decide)
      have q1 := q 1 (by decide)
      have q3 := q 3 (by decide)
      have q4 := q 4 (by decide)
      exact ⟨⟨by omega, by omega⟩, ⟨move2_c _ _ _ _ _ _ dx dy _ (by unfold i64In; omega) (by unfold i64In; omega) (by unfold i64In; omega) (by unfold i64In; omega), Nat.le_refl _, by omega, Nat.le_refl _⟩, by unfold i64In; omega, by omega, last_if (f := fun m => b.B m 0 + dx) rfl, last_if (f := fun m => b.B m 1 + dy) rfl, last_if (f := fun m => b.B m 2) rfl, last_if (f := fun m => b.B m 3 + dx) rfl, last_if (f := fun m => b.B m 4 + dy) rfl, last_if (f := fun m => b.B m 5) rfl, Bool.and_assoc _ _ _, by omega, by omega⟩
    · have e : j = b.nB := by omega
      subst e
      exact ⟨rfl, Nat.le_refl _, Nat.le_refl _, rfl⟩
end Go.Abs
