/- The program of the second seat; lists of numbers; what slices.Backward yields. -/
import Derived.Test.YtdhnfeoigmeopaaDoorAbsT
import Derived.Test.YtdhnfeoigmeopaaDoorProg
import Derived.RangeFuncBox
import Derived.WalkKit
import Derived.OwnWalkIn
import Derived.TacticsInMore
import Derived.LoopNIn
import Derived.LoopIn
set_option maxRecDepth 100000
namespace Go.Abs
open Go Go.RowKit
attribute [local go_sem] Oper.semAt_some
noncomputable abbrev prog : Program := Go.Proofs.Tryd.prog
theorem hmix : prog.follows .mixedOrders = true := by kernel_rfl
abbrev nums (n : Nat) (A : Nat → Int) : DV := .lst n [fun i => .val (.int .i64 (A i))]
theorem rdAll_of {w w' : World} {N0 : Nat} (hb : ∀ k, k < w.heap.size → w'.heap[k]? = w.heap[k]?) (a : Addr) (u : Value) (h : rdAll w N0 a u) : rdAll w' N0 a u :=
  ⟨rdw_of (hb a.block (rdw_lt h.1)) h.1, fun ⟨o, e, h3⟩ => h.2 ⟨o, by rw [← hb a.block (rdw_lt h.1)]; exact e, h3⟩⟩
theorem box_nums {w : World} {N0 n : Nat} {A : Nat → Int} {v : Value} (h : RelC (rdAll w N0) (.cptr [nums n A]) v) :
    ∃ a s c, v = .pointer (some a) ∧ w.cell? a = some (.slice s n c) ∧ n ≤ c ∧ ∀ k, k < n → ∃ b, s = some b ∧ w.cell? (b.add k) = some (.int .i64 (A k)) := by
  cases h with
  | cptr U ha hone h =>
    rename_i a
    have h0 := h 0 _ rfl
    have a0 := rdw_cell (ha 0 _ rfl).1 (hone 0 _ rfl)
    rw [Addr.add, if_pos rfl] at a0
    generalize e : U 0 = u at h0 a0
    cases h0 with
    | lst V hc hb hn ho hr =>
      rename_i s c
      refine ⟨a, s, c, rfl, a0, hc, fun k hk => ?_⟩
      obtain ⟨b, hb1, hb2⟩ := hb k 0 _ hk rfl
      have hb2 := rdw_cell hb2.1 (ho k 0 _ hk rfl)
      refine ⟨b, hb1, ?_⟩
      have hv := hr k 0 _ hk rfl
      generalize e2 : V k 0 = x at hb2 hv
      cases hv
      simpa using hb2
set_option maxHeartbeats 2000000 in
theorem back_in (N0 n : Nat) (hn : n ≤ 1000000) (A : Nat → Int) (m l : Nat) (lb : Array Value) (J Jx : List { x : Nat // x < n } → World → Prop) (W : World)
    (hlb : lb.size = 1) (hr : ∀ (j : Nat) (d : DV) (v : Value), [DV.cptr [nums n A]][j]? = some d → lb[j]? = some v → RelC (rdAll W N0) d v)
    (hY : ∀ pre x W1, J pre W1 → pre.length < n → YieldAt Fence.wide (m - 1) prog l #[.int .i64 ((n : Int) - 1 - (x.1 : Nat)), .int .i64 (A (n - 1 - x.1))] W1 fun e W' =>
      (e = .returned (.bool true) ∧ J (pre ++ [x]) W' ∧ KpC [.cptr [nums n A]] lb N0 W1 W') ∨ (e = .returned (.bool false) ∧ Jx (pre ++ [x]) W'))
    (h0 : J [] W) :
    CallsIn Fence.wide m prog 83 (#[.func (.yield l) #[] #[]] ++ lb) W fun e W' => (∃ v, e = .returned v) ∧ ((∃ xs, xs.map (·.1) = List.range n ∧ J xs W') ∨ (∃ pre, True ∧ Jx pre W')) := by
  obtain ⟨v0, rfl⟩ : ∃ v0, lb = #[v0] := by
    match lb, hlb with
    | ⟨[v0]⟩, _ => exact ⟨v0, rfl⟩
  obtain ⟨a, s0, c0, rfl, hc0, hle0, hcell0⟩ := box_nums (hr 0 _ _ rfl rfl)
  refine callsIn_of_wp Go.Proofs.Tryd.func83 rfl trivial ?_ rfl
  simp only [Go.Proofs.Tryd.ntmps83, List.size_toArray, List.length_cons, List.length_nil, Nat.reduceAdd, Nat.reduceSub, Array.replicate_succ, Array.replicate_zero, List.push_toArray, List.append_toArray, List.nil_append, List.cons_append]
  gi_wp2
  gi_loopw [3] (fun i wr => ∃ (k : Nat) (pre : List { x : Nat // x < n }), k ≤ n ∧ pre.map (·.1) = List.range k ∧ i = .int .i64 ((n : Int) - 1 - (k : Nat)) ∧ J pre wr ∧ KpC [.cptr [nums n A]] #[.pointer (some a)] N0 W wr)
    (fun i _ => (intOf i + 1).toNat)
  case atStart => exact ⟨0, [], Nat.zero_le _, rfl, by simp, h0, ⟨fun j d v hj hv h => h, fun h => h⟩⟩
  case round =>
    obtain ⟨k, pre, hk, hpre, rfl, hJ, hK⟩ := hrel
    by_cases hlt : k < n
    · have hlen : pre.length = k := by
        have := congrArg List.length hpre
        simpa using this
      obtain ⟨a', s, c, ea, hc, hle, hcell⟩ := box_nums (hK.1 0 _ _ rfl rfl (hr 0 _ _ rfl rfl))
      cases ea
      obtain ⟨b, rfl, hb⟩ := hcell (n - 1 - k) (by omega)
      obtain ⟨fn, tmps, assign, body, hy, hR⟩ := hY pre ⟨k, hlt⟩ wr hJ (by omega)
      dsimp only at hy hR
      rw [show (n : Int) - 1 - (k : Nat) = ((n - 1 - k : Nat) : Int) by omega] at hy ⊢
      generalize hq : n - 1 - k = q at hb hy ⊢
      gi_wp2
      refine ⟨fun h => absurd h (by decide), hR.mono ?_⟩
      rintro e W3 (⟨rfl, hJ3, hk3⟩ | ⟨rfl, hJx3⟩)
      · gi_wp2
        go_roundw
        case rel => exact ⟨k + 1, pre ++ [⟨k, hlt⟩], by omega, by simp [hpre, List.range_succ], by first | (congr 1; omega) | (simp; done) | (simp; omega), hJ3, ⟨fun j d v hj hv h => hk3.1 j d v hj hv (hK.1 j d v hj hv h), fun h => hk3.2 (hK.2 h)⟩⟩
        case measure => simp [intOf]
      · gi_wp2
        refine bodyPost_ret (results_none rfl _ _ _) rfl ?_
        exact ⟨⟨_, rfl⟩, .inr ⟨_, trivial, hJx3⟩⟩
    · obtain rfl : k = n := by omega
      gi_wp2
      go_end0
      exact ⟨⟨_, rfl⟩, .inl ⟨pre, hpre, hJ⟩⟩
theorem back_seq (n : Nat) (A : Nat → Int) (hn : n ≤ 1000000) : SeqC prog 83 [.cptr [nums n A]] n fun k => [.int .i64 ((n : Int) - 1 - (k : Nat)), .int .i64 (A (n - 1 - k))] := by
  refine ⟨?_, fun m lb w hlb hr hg l J Jx W hW hab _ hY h0 => ?_⟩
  · exact ⟨_, Go.Proofs.Tryd.func83, rfl, by kernel_rfl⟩
  · have hrW : ∀ (j : Nat) (d : DV) (v : Value), [DV.cptr [nums n A]][j]? = some d → lb[j]? = some v → RelC (rdAll W w.heap.size) d v := fun j d v hj hv =>
      (hr j d v hj hv).mono (rdAll_of fun k hk => hW.block k hk) (fun _ h => h) fun _ _ h => h.elim
    exact back_in w.heap.size n hn A m l lb J Jx W hlb hrW hY h0
end Go.Abs
