/- Contracts. -/
import Derived.Test.YtbemjdppfiabgaaK11
set_option linter.unusedVariables false
set_option linter.unusedSimpArgs false
set_option maxRecDepth 100000
namespace Go.Abs
open Go
/-- A part of a line. -/
structure Prt where
  f : Int
  t : Int
  d : Int
def Prt.ok (p : Prt) : Prop := bd7 p.f ∧ bd7 p.t ∧ bd7 p.d
end Go.Abs
