/- Contracts. -/
import Derived.Test.YtbemjdppfiabgaaK11
set_option linter.unusedVariables false
set_option linter.unusedSimpArgs false
set_option maxRecDepth 100000
namespace Go.Abs
open Go
abbrev d3 (a b c : Int) : DV := .val (.agg #[.int .i64 a, .int .i64 b, .int .i64 c])
/-- A part of a line. -/
structure Prt where
  f : Int
  t : Int
  d : Int
def Prt.ok (p : Prt) : Prop := bd7 p.f ∧ bd7 p.t ∧ bd7 p.d
end Go.Abs
