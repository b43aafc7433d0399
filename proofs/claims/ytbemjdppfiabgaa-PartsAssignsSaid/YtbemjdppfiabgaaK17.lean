/- Contracts. -/
import Derived.Test.YtbemjdppfiabgaaK8
set_option linter.unusedVariables false
set_option linter.unusedSimpArgs false
set_option maxRecDepth 100000
namespace Go.Abs
open Go
abbrev crn_ok (s : Scf) (a b : Int) : Prop := atH s s.nN [s.X b.toNat, s.Y a.toNat, s.Z a.toNat] = true ∧ atH s s.nN [s.X a.toNat, s.Y b.toNat, s.Z a.toNat] = true
theorem nAt_lt {s : Scf} {x y z : Int} : ∀ {n : Nat}, nAt s n x y z < n
  | 0 => by show (-1:Int) < ((0:Nat) : Int); decide
  | n + 1 => by
    have := nAt_lt (s := s) (x := x) (y := y) (z := z) (n := n)
    rw [nAt]
    split
    · omega
    · split <;> omega
theorem end_bd {s : Scf} {k a b : Int} (hA : 0 ≤ a ∧ a < s.nN) (hB : 0 ≤ b ∧ b < s.nN) (hk : k = 6 → crn_ok s a b) (j : Nat) : 0 ≤ endX s k a b j ∧ endX s k a b j < s.nN := by
  unfold endX
  split
  · rename_i h6
    obtain ⟨h1, h2⟩ := hk h6
    rw [atH, decide_eq_true_eq] at h1 h2
    unfold crn
    split
    · exact hA
    · split
      · exact ⟨h1, nAt_lt⟩
      · split
        · exact hB
        · exact ⟨h2, nAt_lt⟩
  · split
    · exact hA
    · exact hB
end Go.Abs
