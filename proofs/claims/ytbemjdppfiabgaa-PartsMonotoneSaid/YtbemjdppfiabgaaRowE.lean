/- Lemmas for the rows: slices of structs of a string, ints and a pair of ints; slices of pairs of ints. No program in sight. -/
import Derived.Test.YtbemjdppfiabgaaRowD
namespace Go.Abs
open Go.RowKit Go.WideShapes Go.ChangeShapes Go.Deep Go.Joins Go.WideElems

section
variable {H : Type} {enc : TypeId × Value → H} {P : Program} {w : World} {base : Nat} {spare : Nat → Bool} {held : Bool}
/-- The field j begins at a cell, of a type. -/
def fieldAt (fs : Array Field) (j off : Nat) (t : TypeId) : Prop := ∃ f, fs[j]? = some f ∧ f.offset = off ∧ f.type = t
end
end Go.Abs
