/- What cells$1 yields: the middles of the cells of a grid, column by column. -/
import Derived.Test.YtomkiggacimmaaaGreatKs
import Derived.Test.YtomkiggacimmaaaGreatAbsU
import Derived.RangeFuncBox
import Derived.OwnWalkIn
import Derived.TacticsInMore
import Derived.LoopNIn
import Derived.LoopIn
set_option linter.unusedVariables false
set_option maxRecDepth 100000
namespace Go.Abs
open Go Go.RowKit
attribute [local go_sem] Oper.semAt_some

/-- A box that holds a list of numbers. -/
theorem box_nums {w : World} {N0 n : Nat} {A : Nat → Int} {v : Value} (h : RelC (rdAll w N0) (.cptr [nums n A]) v) :
    ∃ a s c, v = .pointer (some a) ∧ w.cell? a = some (.slice s n c) ∧ n ≤ c ∧ ∀ k, k < n → ∃ b, s = some b ∧ w.cell? (b.add k) = some (.int .i64 (A k)) := by
  cases h with
  | cptr U ha hone h =>
    rename_i a
    have h0 := h 0 _ rfl
    have a0 := rdw_cell (ha 0 _ rfl).1 (hone 0 _ rfl)
    rw [Addr.add, if_pos rfl] at a0
    generalize e : U 0 = u at h0 a0
    cases h0 with
    | lst V hc hb hn ho hr =>
      rename_i s c
      refine ⟨a, s, c, rfl, a0, hc, fun k hk => ?_⟩
      obtain ⟨b, hb1, hb2⟩ := hb k 0 _ hk rfl
      have hb2 := rdw_cell hb2.1 (ho k 0 _ hk rfl)
      refine ⟨b, hb1, ?_⟩
      have hv := hr k 0 _ hk rfl
      generalize e2 : V k 0 = x at hb2 hv
      cases hv
      simpa using hb2
/-- The x and the y of a cell's middle. -/
def midC (M : Nat) (A B : Nat → Int) (k : Nat) : Int × Int := (A (k / M) + A (k / M + 1), B (k % M) + B (k % M + 1))
theorem mid_at {M : Nat} (A B : Nat → Int) {a b : Nat} (hb : b < M) : midC M A B (M * a + b) = (A a + A (a + 1), B b + B (b + 1)) := by
  have h1 : (M * a + b) / M = a := by rw [Nat.mul_add_div (by omega), Nat.div_eq_of_lt hb, Nat.add_zero]
  have h2 : (M * a + b) % M = b := by rw [Nat.mul_add_mod, Nat.mod_eq_of_lt hb]
  simp only [midC, h1, h2]
theorem cell_lt' {a b P M : Nat} (ha : a < P) (hb : b < M) : M * a + b < M * P := by
  have : M * (a + 1) ≤ M * P := Nat.mul_le_mul_left _ ha
  rw [Nat.mul_add, Nat.mul_one] at this
  omega

theorem list41 (l : List Value) (h : l.length = 41) : ∃ u0 u1 u2 u3 u4 u5 u6 u7 u8 u9 u10 u11 u12 u13 u14 u15 u16 u17 u18 u19 u20 u21 u22 u23 u24 u25 u26 u27 u28 u29 u30 u31 u32 u33 u34 u35 u36 u37 u38 u39 u40, l = [u0, u1, u2, u3, u4, u5, u6, u7, u8, u9, u10, u11, u12, u13, u14, u15, u16, u17, u18, u19, u20, u21, u22, u23, u24, u25, u26, u27, u28, u29, u30, u31, u32, u33, u34, u35, u36, u37, u38, u39, u40] := by
  have ex : ∀ (n : Nat) (l : List Value), l.length = n + 1 → ∃ u r, l = u :: r ∧ r.length = n := fun n l h => by
    cases l with
    | nil => cases h
    | cons u r => exact ⟨u, r, rfl, by simpa using h⟩
  obtain ⟨u0, l0, e0, h0⟩ := ex 40 l h
  obtain ⟨u1, l1, e1, h1⟩ := ex 39 l0 h0
  obtain ⟨u2, l2, e2, h2⟩ := ex 38 l1 h1
  obtain ⟨u3, l3, e3, h3⟩ := ex 37 l2 h2
  obtain ⟨u4, l4, e4, h4⟩ := ex 36 l3 h3
  obtain ⟨u5, l5, e5, h5⟩ := ex 35 l4 h4
  obtain ⟨u6, l6, e6, h6⟩ := ex 34 l5 h5
  obtain ⟨u7, l7, e7, h7⟩ := ex 33 l6 h6
  obtain ⟨u8, l8, e8, h8⟩ := ex 32 l7 h7
  obtain ⟨u9, l9, e9, h9⟩ := ex 31 l8 h8
  obtain ⟨u10, l10, e10, h10⟩ := ex 30 l9 h9
  obtain ⟨u11, l11, e11, h11⟩ := ex 29 l10 h10
  obtain ⟨u12, l12, e12, h12⟩ := ex 28 l11 h11
  obtain ⟨u13, l13, e13, h13⟩ := ex 27 l12 h12
  obtain ⟨u14, l14, e14, h14⟩ := ex 26 l13 h13
  obtain ⟨u15, l15, e15, h15⟩ := ex 25 l14 h14
  obtain ⟨u16, l16, e16, h16⟩ := ex 24 l15 h15
  obtain ⟨u17, l17, e17, h17⟩ := ex 23 l16 h16
  obtain ⟨u18, l18, e18, h18⟩ := ex 22 l17 h17
  obtain ⟨u19, l19, e19, h19⟩ := ex 21 l18 h18
  obtain ⟨u20, l20, e20, h20⟩ := ex 20 l19 h19
  obtain ⟨u21, l21, e21, h21⟩ := ex 19 l20 h20
  obtain ⟨u22, l22, e22, h22⟩ := ex 18 l21 h21
  obtain ⟨u23, l23, e23, h23⟩ := ex 17 l22 h22
  obtain ⟨u24, l24, e24, h24⟩ := ex 16 l23 h23
  obtain ⟨u25, l25, e25, h25⟩ := ex 15 l24 h24
  obtain ⟨u26, l26, e26, h26⟩ := ex 14 l25 h25
  obtain ⟨u27, l27, e27, h27⟩ := ex 13 l26 h26
  obtain ⟨u28, l28, e28, h28⟩ := ex 12 l27 h27
  obtain ⟨u29, l29, e29, h29⟩ := ex 11 l28 h28
  obtain ⟨u30, l30, e30, h30⟩ := ex 10 l29 h29
  obtain ⟨u31, l31, e31, h31⟩ := ex 9 l30 h30
  obtain ⟨u32, l32, e32, h32⟩ := ex 8 l31 h31
  obtain ⟨u33, l33, e33, h33⟩ := ex 7 l32 h32
  obtain ⟨u34, l34, e34, h34⟩ := ex 6 l33 h33
  obtain ⟨u35, l35, e35, h35⟩ := ex 5 l34 h34
  obtain ⟨u36, l36, e36, h36⟩ := ex 4 l35 h35
  obtain ⟨u37, l37, e37, h37⟩ := ex 3 l36 h36
  obtain ⟨u38, l38, e38, h38⟩ := ex 2 l37 h37
  obtain ⟨u39, l39, e39, h39⟩ := ex 1 l38 h38
  obtain ⟨u40, l40, e40, h40⟩ := ex 0 l39 h39
  have e41 := List.length_eq_zero_iff.1 h40
  subst e41 e40 e39 e38 e37 e36 e35 e34 e33 e32 e31 e30 e29 e28 e27 e26 e25 e24 e23 e22 e21 e20 e19 e18 e17 e16 e15 e14 e13 e12 e11 e10 e9 e8 e7 e6 e5 e4 e3 e2 e1 e0
  exact ⟨u0, u1, u2, u3, u4, u5, u6, u7, u8, u9, u10, u11, u12, u13, u14, u15, u16, u17, u18, u19, u20, u21, u22, u23, u24, u25, u26, u27, u28, u29, u30, u31, u32, u33, u34, u35, u36, u37, u38, u39, u40, rfl⟩
theorem isMap_lt {w : World} {g : Nat} (h : isMapAt w g) : g < w.heap.size := by obtain ⟨o, h, _⟩ := h; exact heap_lt h
theorem rdAll_of {w w' : World} {N0 : Nat} (hb : ∀ k, k < w.heap.size → w'.heap[k]? = w.heap[k]?) (a : Addr) (u : Value) (h : rdAll w N0 a u) : rdAll w' N0 a u :=
  ⟨rdw_of (hb a.block (rdw_lt h.1)) h.1, fun ⟨o, e, h3⟩ => h.2 ⟨o, by rw [← hb a.block (rdw_lt h.1)]; exact e, h3⟩⟩
theorem rdAll_up {w : World} {N0 : Nat} (a : Addr) (u : Value) (h : rdAll w N0 a u) : rdAll w w.heap.size a u := ⟨h.1, isMap_lt⟩
set_option maxHeartbeats 4000000 in
theorem cells_in (N0 nx ny : Nat) (hx : nx ≤ 1000000) (hy : ny ≤ 1000000) (A B : Nat → Int) (hA : ∀ i, i < nx → -2000000 ≤ A i ∧ A i ≤ 2000000) (hB : ∀ i, i < ny → -2000000 ≤ B i ∧ B i ≤ 2000000) (m l : Nat) (lb : Array Value) (J Jx : List { x : Nat // x < (ny - 1) * (nx - 1) } → World → Prop) (W : World)
    (hab : AbidesFrom W.heap.size J) (hlb : lb.size = 2) (hr : ∀ (j : Nat) (d : DV) (v : Value), [DV.cptr [nums nx A], DV.cptr [nums ny B]][j]? = some d → lb[j]? = some v → RelC (rdAll W N0) d v) (hg : GlobOK (rdAll W N0))
    (hY : ∀ pre x W1, J pre W1 → pre.length < (ny - 1) * (nx - 1) → YieldAt Fence.wide (m - 1) prog l #[.int .i64 (midC (ny - 1) A B x.1).1, .int .i64 (midC (ny - 1) A B x.1).2] W1 fun e W' =>
      (e = .returned (.bool true) ∧ J (pre ++ [x]) W' ∧ KpC [.cptr [nums nx A], .cptr [nums ny B]] lb N0 W1 W') ∨ (e = .returned (.bool false) ∧ Jx (pre ++ [x]) W'))
    (h0 : J [] W) :
    CallsIn Fence.wide m prog 82 (#[.func (.yield l) #[] #[]] ++ lb) W fun e W' => (∃ v, e = .returned v) ∧ ((∃ xs, xs.map (·.1) = List.range ((ny - 1) * (nx - 1)) ∧ J xs W') ∨ (∃ pre, True ∧ Jx pre W')) := by
  obtain ⟨v0, v1, rfl⟩ : ∃ v0 v1, lb = #[v0, v1] := by
    match lb, hlb with
    | ⟨[v0, v1]⟩, _ => exact ⟨v0, v1, rfl⟩
  obtain ⟨a0, s0, c0, rfl, hc0, hle0, hcell0⟩ := box_nums (hr 0 _ _ rfl rfl)
  obtain ⟨a1, s1, c1, rfl, hc1, hle1, hcell1⟩ := box_nums (hr 1 _ _ rfl rfl)
  clear hc0 hle0 hcell0 hc1 hle1 hcell1 s0 c0 s1 c1
  refine callsIn_of_wp Go.Proofs.Tryz.func82 rfl trivial ?_ rfl
  simp only [Go.Proofs.Tryz.ntmps82, List.size_toArray, List.length_cons, List.length_nil, Nat.reduceAdd, Nat.reduceSub, Array.replicate_succ, Array.replicate_zero, List.push_toArray, List.append_toArray, List.nil_append, List.cons_append]
  gi_wp2
  gi_loopw [4] (fun i wr => ∃ (a : Nat) (pre : List { x : Nat // x < (ny - 1) * (nx - 1) }), a ≤ nx - 1 ∧ pre.map (·.1) = List.range ((ny - 1) * a) ∧ i = .int .i64 ((a + 1 : Nat) : Int) ∧ J pre wr ∧ KpC [.cptr [nums nx A], .cptr [nums ny B]] #[.pointer (some a0), .pointer (some a1)] N0 W wr)
    (fun i _ => (nx + 5 - intOf i).toNat)
  case atStart => exact ⟨0, [], Nat.zero_le _, rfl, rfl, h0, ⟨fun j d v hj hv h => h, fun h => h⟩⟩
  case round =>
    obtain ⟨a, pre, ha, hpre, rfl, hJ, hK⟩ := hrel
    obtain ⟨a0', s0, c0, e0, hc0, hle0, hcell0⟩ := box_nums (hK.1 0 _ _ rfl rfl (hr 0 _ _ rfl rfl))
    cases e0
    by_cases hlt : a < nx - 1
    · obtain ⟨ia, hia0⟩ : ∃ ia : Int, ia = ((a + 1 : Nat) : Int) := ⟨_, rfl⟩
      rw [← hia0]
      have hia : (a : Int) + 1 ≤ ia ∧ ia ≤ a + 1 := by omega
      clear hia0
      have hia2 : ia < (nx : Int) := by omega
      gi_wp2
      gi_loopw [5] (fun k wr => ∃ (b : Nat) (pre : List { x : Nat // x < (ny - 1) * (nx - 1) }), b ≤ ny - 1 ∧ pre.map (·.1) = List.range ((ny - 1) * a + b) ∧ k = .int .i64 ((b + 1 : Nat) : Int) ∧ J pre wr ∧ KpC [.cptr [nums nx A], .cptr [nums ny B]] #[.pointer (some a0), .pointer (some a1)] N0 W wr)
        (fun i _ => (ny + 5 - intOf i).toNat)
      case atStart => exact ⟨0, pre, Nat.zero_le _, by simpa using hpre, rfl, hJ, hK⟩
      case round =>
        clear hJ hpre hcell0 hc0 hle0 hK pre
        obtain ⟨b, pre, hb, hpre, rfl, hJ, hK⟩ := hrel
        obtain ⟨a1', s1, c1, e1, hc1, hle1, hcell1⟩ := box_nums (hK.1 1 _ _ rfl rfl (hr 1 _ _ rfl rfl))
        cases e1
        by_cases hlt2 : b < ny - 1
        · obtain ⟨ib, hib0⟩ : ∃ ib : Int, ib = ((b + 1 : Nat) : Int) := ⟨_, rfl⟩
          rw [← hib0]
          have hib : (b : Int) + 1 ≤ ib ∧ ib ≤ b + 1 := by omega
          clear hib0
          have hib2 : ib < (ny : Int) := by omega
          have hlen : pre.length = (ny - 1) * a + b := by
            have := congrArg List.length hpre
            simpa using this
          have hidx := cell_lt' hlt hlt2
          obtain ⟨a0', s0, c0, e0, hc0, hle0, hcell0⟩ := box_nums (hK.1 0 _ _ rfl rfl (hr 0 _ _ rfl rfl))
          cases e0
          obtain ⟨d0, rfl, hd0⟩ := hcell0 a (by omega)
          obtain ⟨d0', ed0, hd0'⟩ := hcell0 (a + 1) (by omega)
          obtain ⟨d1, rfl, hd1⟩ := hcell1 b (by omega)
          obtain ⟨d1', ed1, hd1'⟩ := hcell1 (b + 1) (by omega)
          cases ed0
          cases ed1
          have hb1 := hA a (by omega)
          have hb2 := hA (a + 1) (by omega)
          have hb3 := hB b (by omega)
          have hb4 := hB (b + 1) (by omega)
          clear hcell0 hcell1 hd0 hd1 hd0' hd1' hc0 hle0
          gi_wp2
          change Code.wpIn (FW none) m prog (Code.region 6 _ true) _ _ _
          have ta : (ia - 1).toNat = a := by omega
          have ta' : ia.toNat = a + 1 := by omega
          have tb : (ib - 1).toNat = b := by omega
          have tb' : ib.toNat = b + 1 := by omega
          refine region_cut_sound 21 (orc := []) (base := wr.heap.size) (w0 := wr) (S0 := ⟨fun _ => True, [], wr, none, fun _ => False, fun _ => undef⟩)
            (σ := { t := [(0, .val (.func (.yield l) #[] #[])), (1, .cptr [nums nx A]), (2, .cptr [nums ny B]), (4, .val (.int .i64 ia)), (5, .val (.int .i64 ib))], h := [], nx := 0, nt := 41 }) hmix (by kernel_rfl) (by kernel_rfl) (by kernel_rfl) (by kernel_rfl) ?_ ?_ ?_
          · refine fits_fresh rfl rfl rfl rfl (fun t => ?_) ((hK.2 hg).mono rdAll_up)
            match t with
            | 0 => exact .val _
            | 1 => exact (hK.1 0 _ _ rfl rfl (hr 0 _ _ rfl rfl)).mono rdAll_up (fun _ h => h) fun _ _ h => h.elim
            | 2 => exact (hK.1 1 _ _ rfl rfl (hr 1 _ _ rfl rfl)).mono rdAll_up (fun _ h => h) fun _ _ h => h.elim
            | 3 => exact .any _
            | 4 => exact .val _
            | 5 => exact .val _
            | t + 6 => exact .any _
          · refine AllP_of_eq (l' := [i64In (ia - 1), 0 ≤ ia - 1 ∧ ia - 1 < (nx : Int), 0 ≤ ia ∧ ia < (nx : Int), i64In (A (ia - 1).toNat + A ia.toNat),
              i64In (ib - 1), 0 ≤ ib - 1 ∧ ib - 1 < (ny : Int), 0 ≤ ib ∧ ib < (ny : Int), i64In (B (ib - 1).toNat + B ib.toNat)]) (by kernel_rfl) ?_
            rw [ta, ta', tb, tb']
            intro p hp
            simp only [List.mem_cons, List.not_mem_nil, or_false] at hp
            rcases hp with rfl | rfl | rfl | rfl | rfl | rfl | rfl | rfl <;> (try unfold i64In) <;> omega
          · rintro ⟨⟨tm⟩, ds⟩ w' hd hkeep ⟨kn, blk, r, hk⟩
            have hsz : tm.length = 41 := r.size
            have e0 := hkeep 0 (by kernel_rfl)
            have e1 := hkeep 1 (by kernel_rfl)
            have e2 := hkeep 2 (by kernel_rfl)
            have e3 := hkeep 3 (by kernel_rfl)
            have e4 := hkeep 4 (by kernel_rfl)
            have e5 := hkeep 5 (by kernel_rfl)
            have e6 := hkeep 6 (by kernel_rfl)
            have e7 := hkeep 7 (by kernel_rfl)
            have e8 := hkeep 8 (by kernel_rfl)
            have e9 := hkeep 9 (by kernel_rfl)
            have e10 := hkeep 10 (by kernel_rfl)
            have e11 := hkeep 11 (by kernel_rfl)
            have e12 := hkeep 12 (by kernel_rfl)
            have e13 := hkeep 13 (by kernel_rfl)
            have e14 := hkeep 14 (by kernel_rfl)
            have e15 := hkeep 15 (by kernel_rfl)
            have e16 := hkeep 16 (by kernel_rfl)
            have e17 := hkeep 17 (by kernel_rfl)
            have e39 := hkeep 39 (by kernel_rfl)
            have e40 := hkeep 40 (by kernel_rfl)
            have e18 := r.tmp_val (t := 18) (v := .func (.yield l) #[] #[]) (by kernel_rfl)
            have e28 := r.tmp_val (t := 28) (v := .int .i64 (A (ia - 1).toNat + A ia.toNat)) (by kernel_rfl)
            have e38 := r.tmp_val (t := 38) (v := .int .i64 (B (ib - 1).toNat + B ib.toNat)) (by kernel_rfl)
            rw [ta, ta'] at e28
            rw [tb, tb'] at e38
            have hbel := r.below
            have hJ2 : J pre w' := hab _ _ _ none hJ ⟨hbel.os, hbel.tape, hbel.output, hbel.size, fun k hk _ => hbel.block k hk fun h => h⟩ (fun r e => by cases e)
            have hK2 : KpC [.cptr [nums nx A], .cptr [nums ny B]] #[.pointer (some a0), .pointer (some a1)] N0 W w' := ⟨fun j d v hj hv h =>
              (hK.1 j d v hj hv h).mono (rdAll_of fun k hk => hbel.block k hk fun h => h) (fun _ h => h) fun _ _ h => h.elim, fun h => (hK.2 h).mono (rdAll_of fun k hk => hbel.block k hk fun h => h)⟩
            clear r hk hkeep
            obtain ⟨u0, u1, u2, u3, u4, u5, u6, u7, u8, u9, u10, u11, u12, u13, u14, u15, u16, u17, u18, u19, u20, u21, u22, u23, u24, u25, u26, u27, u28, u29, u30, u31, u32, u33, u34, u35, u36, u37, u38, u39, u40, rfl⟩ := list41 tm hsz
            change u0 = _ at e0
            change u1 = _ at e1
            change u2 = _ at e2
            change u3 = _ at e3
            change u4 = _ at e4
            change u5 = _ at e5
            change u6 = _ at e6
            change u7 = _ at e7
            change u8 = _ at e8
            change u9 = _ at e9
            change u10 = _ at e10
            change u11 = _ at e11
            change u12 = _ at e12
            change u13 = _ at e13
            change u14 = _ at e14
            change u15 = _ at e15
            change u16 = _ at e16
            change u17 = _ at e17
            change u18 = _ at e18
            change u28 = _ at e28
            change u38 = _ at e38
            change u39 = _ at e39
            change u40 = _ at e40
            change ds = [] at hd
            subst e0 e1 e2 e4 e5 e18 e28 e38 hd
            have E : Aside (_ ∧ _ ∧ _ ∧ _ ∧ _ ∧ _ ∧ _ ∧ _ ∧ _ ∧ _ ∧ _ ∧ _ ∧ _ ∧ _ ∧ _) := ⟨e3, e6, e7, e8, e9, e10, e11, e12, e13, e14, e15, e16, e17, e39, e40⟩
            clear e3 e6 e7 e8 e9 e10 e11 e12 e13 e14 e15 e16 e17 e39 e40
            obtain ⟨fn, tmps, assign, body, hy, hR⟩ := hY pre ⟨_, hidx⟩ w' hJ2 (by omega)
            dsimp only at hy hR
            rw [mid_at A B hlt2] at hy
            dsimp only at hy
            change wpListIn Fence.wide m prog _ _ [_, _] _ _
            gi_wp2
            refine ⟨fun h => absurd h (by decide), hR.mono ?_⟩
            rintro e W3 (⟨rfl, hJ3, hk3⟩ | ⟨rfl, hJx3⟩)
            · gi_wp2
              go_roundw
              case rel =>
                obtain ⟨e3, e6, e7, e8, e9, e10, e11, e12, e13, e14, e15, e16, e17, e39, e40⟩ := E.out
                subst e3 e6 e7 e8 e9 e10 e11 e12 e13 e14 e15 e16 e17 e39 e40
                exact ⟨_, _, _, _, _, _, _, _, _, _, _, _, _, _, _, _, _, _, _, _, _, _, _, _, _, _, _, _, _, _, ⟨b + 1, pre ++ [⟨_, hidx⟩], by omega, by rw [List.map_append, hpre, ← Nat.add_assoc, List.range_succ]; rfl, by congr 1 <;> omega, hJ3, ⟨fun j d v hj hv h => hk3.1 j d v hj hv (hK2.1 j d v hj hv h), fun h => hk3.2 (hK2.2 h)⟩⟩, rfl⟩
              case measure => simp [intOf]; omega
            · gi_wp2
              refine bodyPost_ret (results_none rfl _ _ _) rfl ?_
              exact ⟨⟨_, rfl⟩, .inr ⟨_, trivial, hJx3⟩⟩
        · obtain rfl : b = ny - 1 := by omega
          gi_wp2
          go_roundw
          case rel => exact ⟨a + 1, pre, by omega, by rw [Nat.mul_add, Nat.mul_one]; exact hpre, by congr 1; omega, hJ, hK⟩
          case measure => simp [intOf]; omega
    · obtain rfl : a = nx - 1 := by omega
      gi_wp2
      go_end0
      exact ⟨⟨_, rfl⟩, .inl ⟨pre, hpre, hJ⟩⟩
/-- What cells$1 yields over two lists of lines. -/
theorem cells_seq (nx ny : Nat) (A B : Nat → Int) (hx : nx ≤ 1000000) (hy : ny ≤ 1000000) (hA : ∀ i, i < nx → -2000000 ≤ A i ∧ A i ≤ 2000000) (hB : ∀ i, i < ny → -2000000 ≤ B i ∧ B i ≤ 2000000) :
    SeqC prog 82 [.cptr [nums nx A], .cptr [nums ny B]] ((ny - 1) * (nx - 1)) fun k => [.int .i64 (midC (ny - 1) A B k).1, .int .i64 (midC (ny - 1) A B k).2] := by
  refine ⟨?_, fun m lb w hlb hr hg l J Jx W hW hab _ hY h0 => ?_⟩
  · exact ⟨_, Go.Proofs.Tryz.func82, rfl, by kernel_rfl⟩
  · have hrW : ∀ (j : Nat) (d : DV) (v : Value), [DV.cptr [nums nx A], DV.cptr [nums ny B]][j]? = some d → lb[j]? = some v → RelC (rdAll W w.heap.size) d v := fun j d v hj hv =>
      (hr j d v hj hv).mono (rdAll_of fun k hk => hW.block k hk) (fun _ h => h) fun _ _ h => h.elim
    exact cells_in w.heap.size nx ny hx hy A B hA hB m l lb J Jx W hab hlb hrW (hg.mono (rdAll_of fun k hk => hW.block k hk)) hY h0
end Go.Abs
