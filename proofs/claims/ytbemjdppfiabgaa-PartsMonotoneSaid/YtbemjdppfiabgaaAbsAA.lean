/- The package-level variables that are only read, and what they hold: (number, cells). -/
import Derived.Test.YtbemjdppfiabgaaAbsA
namespace Go.Abs
def gl : List (Nat × List DV) := []
def shG : List (DV × Value) := gl.map fun p => (.cptr p.2, .pointer (some ⟨p.1, 0, none⟩))
/-- The variables hold what they are to hold. -/
def GlobOK (rd : Rd) : Prop := ∀ d v, (d, v) ∈ shG → Rel rd (fun _ => False) (fun _ => none) d v
theorem shG_cptr {d : DV} {v : Value} (h : (d, v) ∈ shG) : ∃ cs, d = .cptr cs := by
  obtain ⟨p, _, e⟩ := List.mem_map.1 h
  cases e
  exact ⟨_, rfl⟩
theorem GlobOK.mono {rd rd' : Rd} (h : GlobOK rd) (hm : ∀ a u, rd a u → rd' a u) : GlobOK rd' := fun d v hd => (h d v hd).mono hm (fun _ h => h) fun _ _ h => h.elim
end Go.Abs
