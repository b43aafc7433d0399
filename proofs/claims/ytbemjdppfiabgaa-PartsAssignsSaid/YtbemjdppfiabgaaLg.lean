/- slices.Grow of the nil slice: a fresh row with room. -/
import Derived.Test.YtbemjdppfiabgaaK51
import Derived.Lib.Walk
import Derived.Lib.SliceRun
import Derived.Lib.AppendZerosOnto
set_option linter.unusedVariables false
set_option linter.unusedSimpArgs false
set_option maxRecDepth 100000
namespace Go.Abs
open Go Go.RowKit Go.Lib
attribute [local go_sem] Oper.semAt_some

set_option maxHeartbeats 4000000 in
theorem grow_zero (w : World) : Calls prog 162 #[.slice none 0 0, .int .i64 0] w fun e w' => e = .returned (.slice none 0 0) ∧ w' = w := by
  have mixed := hmix
  go_enter Go.Proofs.Try.func162, Go.Proofs.Try.ntmps162
  go_wp2
  go_ret
  exact ⟨rfl, rfl⟩
set_option maxHeartbeats 4000000 in
theorem grow_pos (w : World) (n : Nat) (h0 : 0 < n) (hn : n ≤ 100000000) : Calls prog 162 #[.slice none 0 0, .int .i64 n] w fun e w' =>
    ∃ G, n ≤ G ∧ e = .returned (.slice (some ⟨w.heap.size, 0, none⟩) 0 G) ∧ w' = w.drew.alloc (.cells (Builtin.zeroCells #[.int .i64 0] n ++ Builtin.zeroCells #[.int .i64 0] (G - n)) 3) := by
  have mixed := hmix
  have h1 : ¬ ((n : Int) < 0) := by omega
  have h4 : (n : Int) > 0 := by omega
  have hrz : ∀ ty, (Builtin.append_ #[29, 3] ty #[.slice none 0 0, .int .i64 (n : Int)]).run prog w =
      .ok (.slice (some ⟨w.heap.size, 0, none⟩) n (grownCap w n 0 3)) (w.drew.alloc (.cells (Builtin.zeroCells #[.int .i64 0] n ++ Builtin.zeroCells #[.int .i64 0] (grownCap w n 0 3 - n)) 3)) := fun ty =>
    run_append_nil_zeros w 29 3 ty 3 _ (.int .i64 0) .i64 .i64 Go.Proofs.Try.underlying29 Go.Proofs.Try.underlying3 rfl (by kernel_rfl) n h0 (of_decide_eq_true (by kernel_rfl)) (by omega) (by
      have hb : (prog.types[3].bytes) = 8 := by kernel_rfl
      show n * prog.types[3].bytes ≤ _
      rw [hb]; omega)
  have hGn : n ≤ grownCap w n 0 3 := grownCap_ge w _ _ _
  obtain ⟨G, hG⟩ : ∃ G, G = grownCap w n 0 3 := ⟨_, rfl⟩
  have hG63 : G ≤ 9223372036854775807 := by
    have := grownCap_le_maxLen w n 0 3 (by unfold maxLen; omega)
    rw [← hG] at this
    unfold maxLen at this
    omega
  rw [← hG] at hrz hGn
  clear hG
  go_enter Go.Proofs.Try.func162, Go.Proofs.Try.ntmps162
  go_wp2_with (at_builtin; refine Lib.wpList_append_run _ rfl _ _ _ _ rfl _ _ rfl rfl _ _ (hrz _) ?_)
  all_goals (go_ret; exact ⟨G, hGn, rfl, rfl⟩)
/-- Room for n numbers: a fresh row, empty as yet. -/
theorem grow_c (n : Int) (h0 : 0 ≤ n) (hn : n ≤ 100000000) : FnR prog 162 [.val (.slice none 0 0), .val (.int .i64 n)] 0 [fun _ => .val (.int .i64 0)] := by
  refine ⟨⟨_, Go.Proofs.Try.func162, rfl, by kernel_rfl⟩, fun S w vs hs hv _ => ?_⟩
  obtain ⟨⟨l⟩, rfl⟩ : ∃ v : Array Value, vs = v := ⟨vs, rfl⟩
  match l, hs with
  | [u0, u1], _ =>
    have r0 := hv 0 _ _ rfl rfl
    have r1 := hv 1 _ _ rfl rfl
    cases r0; cases r1
    by_cases e : n = 0
    · subst e
      refine (grow_zero w).mono fun e w' ⟨he, hw⟩ => ⟨_, he, ?_, .inl ⟨rfl, rfl⟩⟩
      rw [hw]; exact Below.refl _ _
    · obtain ⟨k, rfl⟩ : ∃ k : Nat, n = k := ⟨n.toNat, by omega⟩
      refine (grow_pos w k (by omega) (by omega)).mono fun e w' ⟨G, hG, he, hw⟩ => ⟨_, he, ?_, .inr ⟨w.heap.size, G, (Builtin.zeroCells #[Value.int IntKind.i64 0] k ++ Builtin.zeroCells #[Value.int IntKind.i64 0] (G - k)), 3, rfl, Nat.le_refl _, by rw [hw]; exact heap_alloc_new w.drew _, ?_, Nat.zero_le _, fun i j f hi => absurd hi (Nat.not_lt_zero _)⟩⟩
      · rw [hw]
        exact (show Below w.heap.size w w.drew from ⟨rfl, rfl, rfl, Nat.le_refl _, fun _ _ => rfl, fun _ => Nat.le_succ _⟩).alloc (Nat.le_refl _) _
      · simp only [Array.size_append, size_zeroCells, List.length_cons, List.length_nil]
        show k * 1 + (G - k) * 1 = _
        omega
end Go.Abs
