/- slices.Clone of the openings. -/
import Derived.Test.YtglebihdhfdhoaaDoorK16
import Derived.Test.YtglebihdhfdhoaaDoorShelf
import Derived.WalkKit
import Derived.Deep.LoopGhost
import Derived.Lib.Walk
import Derived.Lib.SliceRun
set_option linter.unusedVariables false
set_option linter.unusedSimpArgs false
set_option maxRecDepth 100000
namespace Go.Abs
open Go Go.RowKit Go.Lib
attribute [local go_sem] Oper.semAt_some

theorem q23 (w : World) (a : Option Addr) (n c n' c' : Nat) : (binOp .eql 23 (.slice a n c) (.slice none n' c')).run prog w = .ok (.bool a.isNone) w := Lib.run_eql_slice_nil w _ _ a n c n' c' Go.Proofs.Tryd.underlying23
theorem i98 : prog.info? 98 = some (prog.types[98]) := by kernel_rfl
theorem z98 : (prog.types[98]).zero = some (.agg #[.int .i64 0, .int .i64 0, .int .i64 0, .int .i64 0, .int .i64 0, .int .i64 0]) := by kernel_rfl
theorem s98 : (prog.types[98]).size = 6 := by kernel_rfl
theorem b98 : (prog.types[98]).bytes = 48 := by kernel_rfl
set_option maxHeartbeats 2000000 in
theorem clone_walk (ad : Addr) (n c : Nat) (news : List Value) (w : World) (hl : news.length = n * 6) (hn : n ≤ 1000)
    (hc : ∀ j u, news[j]? = some u → w.cell? (ad.add j) = some u) (h1 : ∀ u ∈ news, u.oneCell' = true) :
    Calls prog 80 #[.slice (some ad) n c] w fun e w' => ∃ v', e = .returned v' ∧ w'.ownsRow w.heap.size 98 6 v' n news ∧ v' ≠ .slice none 0 0 ∧ Below w.heap.size w w' := by
  have mixed := hmix
  have q := q23
  have A : Aside (∀ j u, news[j]? = some u → w.cell? (ad.add j) = some u) := hc
  clear hc
  go_enter Go.Proofs.Tryd.func80, Go.Proofs.Tryd.ntmps80
  go_wp2_with (at_builtin; refine wpList_append_own _ rfl _ _ 23 rfl w.heap.size 98 _ _ 6 48 Go.Proofs.Tryd.underlying23 i98 z98 s98 b98 rfl (by decide) _ _ _ rfl (World.ownsRow_made w #[] 0 (Nat.le_refl _) (Nat.zero_le _) (by simp)) ad n c news rfl ?qc1 ?qc2 ?qc3 ?qc4 ?qc5 ?qc6 ?_)
  case qc1 => exact hl
  case qc2 =>
    intro j u hj
    exact Lib.cell?_alloc_some _ (A.out j u hj)
  case qc3 => exact h1
  case qc4 => rw [Nat.zero_add]; unfold maxLen; omega
  case qc5 => rw [Nat.zero_add]; omega
  case qc6 => simp
  intro v' w1 hown hgrow hnil
  go_wp2
  go_ret
  refine ⟨v', rfl, by simpa using hown, ?_, ?_⟩
  · exact hnil
  · exact ((Below.refl _ w).alloc (Nat.le_refl _) _).grown hgrow (by simp) (by intro k hk; simp [Value.ownBlock] at hk; omega)
set_option maxHeartbeats 1000000 in
theorem clone_nil (n c : Nat) (w : World) : Calls prog 80 #[.slice none n c] w fun e w' => e = .returned (.slice none 0 0) ∧ w' = w := by
  have mixed := hmix
  have q := q23
  go_enter Go.Proofs.Tryd.func80, Go.Proofs.Tryd.ntmps80
  go_wp2
  go_ret
  exact ⟨rfl, rfl⟩
theorem opeC_at (b : Bld) (i : Nat) : ∀ j, j < 6 → ∃ f, (opeC b)[j]? = some f ∧ f i = dI (b.O i j)
  | 0, _ => ⟨_, rfl, rfl⟩
  | 1, _ => ⟨_, rfl, rfl⟩
  | 2, _ => ⟨_, rfl, rfl⟩
  | 3, _ => ⟨_, rfl, rfl⟩
  | 4, _ => ⟨_, rfl, rfl⟩
  | 5, _ => ⟨_, rfl, rfl⟩
  | j + 6, h => absurd h (by omega)
/-- The openings are copied. -/
theorem clone_c (b : Bld) (hO : b.nO ≤ 1000) : FnC prog 80 [.lst b.nO (opeC b)] (.lst b.nO (opeC b)) := by
  refine ⟨⟨_, Go.Proofs.Tryd.func80, rfl, by kernel_rfl⟩, fun S w vs hs hv _ => ?_⟩
  obtain ⟨⟨l⟩, rfl⟩ : ∃ v : Array Value, vs = v := ⟨vs, rfl⟩
  match l, hs with
  | [u0], _ =>
    have r0 := hv 0 _ _ rfl rfl
    cases r0 with
    | lst U hc ha hn ho hr =>
      rename_i A c _
      cases A with
      | none =>
        have h0 : b.nO = 0 := by
          rcases Nat.eq_zero_or_pos b.nO with h | h
          · exact h
          · exact absurd rfl (hn h)
        refine (clone_nil b.nO c w).mono fun e w' ⟨he, hw⟩ => ⟨_, he, ?_, by rw [hw]; exact Below.refl _ _⟩
        rw [h0]
        exact .lst (fun _ _ => undef) (Nat.le_refl _) (fun i j f hi => absurd hi (Nat.not_lt_zero i)) (fun h => absurd h (Nat.lt_irrefl 0)) (fun i j f hi => absurd hi (Nat.not_lt_zero i)) fun i j f hi => absurd hi (Nat.not_lt_zero i)
      | some ad =>
        have hU : ∀ i j, i < b.nO → j < 6 → w.cell? (ad.add (i * 6 + j)) = some (.int .i64 (b.O i j)) := fun i j hi hj => by
          obtain ⟨f, hf, hfi⟩ := opeC_at b i j hj
          obtain ⟨a, ea, hrd⟩ := ha i j f hi hf
          cases ea
          have hv2 := hr i j f hi hf
          rw [hfi] at hv2
          generalize U i j = u at hrd hv2
          cases hv2
          exact hrd.1
        have hg : ∀ j, j < b.nO * 6 → ((List.range (b.nO * 6)).map fun k => Value.int .i64 (b.O (k / 6) (k % 6)))[j]? = some (.int .i64 (b.O (j / 6) (j % 6))) := fun j hj => by
          rw [List.getElem?_map, List.getElem?_range hj]; rfl
        refine (clone_walk ad b.nO c ((List.range (b.nO * 6)).map fun k => Value.int .i64 (b.O (k / 6) (k % 6))) w (by simp) hO (fun j u hj => ?_) (fun u hu => ?_)).mono fun e w' ⟨v', he, hown, hne, hb⟩ => ⟨v', he, ?_, hb⟩
        · have hlt : j < b.nO * 6 := by
            have := (List.getElem?_eq_some_iff.1 hj).1
            simpa using this
          rw [hg j hlt] at hj
          cases hj
          have := hU (j / 6) (j % 6) (by omega) (by omega)
          rwa [show j / 6 * 6 + j % 6 = j by omega] at this
        · obtain ⟨k, _, rfl⟩ := List.mem_map.1 hu
          rfl
        · obtain ⟨hlen, h | ⟨g, cap, cur, rfl, hge, hheap, hcap, _, hsz, htake⟩⟩ := hown
          · exact absurd h.1 hne
          · have hcell : ∀ i j, i < b.nO → j < 6 → w'.cell? ((⟨g, 0, none⟩ : Addr).add (i * 6 + j)) = some (.int .i64 (b.O i j)) := fun i j hi hj => by
              rw [add_off]
              have hlt : i * 6 + j < b.nO * 6 := by omega
              have h1 := hg (i * 6 + j) hlt
              rw [← htake, List.getElem?_take_of_lt hlt, show (i * 6 + j) / 6 = i by omega, show (i * 6 + j) % 6 = j by omega] at h1
              show (match w'.heap[g]? with | some (.cells c _ _) => _ | _ => none) = _
              rw [hheap]
              simpa using h1
            refine .lst (fun i j => .int .i64 (b.O i j)) hcap (fun i j f hi hf => ?_) (fun _ => by simp) (fun i j f hi hf => rfl) fun i j f hi hf => ?_
            · have hj : j < 6 := (List.getElem?_eq_some_iff.1 hf).1
              exact ⟨_, rfl, hcell i j hi hj, .inr (by rw [add_off]; exact hge)⟩
            · have hj : j < 6 := (List.getElem?_eq_some_iff.1 hf).1
              obtain ⟨f', hf', hfi⟩ := opeC_at b i j hj
              rw [hf'] at hf
              cases hf
              rw [hfi]
              exact .val _
end Go.Abs
