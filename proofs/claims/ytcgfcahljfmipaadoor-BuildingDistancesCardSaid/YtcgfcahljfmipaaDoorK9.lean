/- Contracts. -/
import Derived.Test.YtcgfcahljfmipaaDoorK8
set_option linter.unusedVariables false
set_option linter.unusedSimpArgs false
set_option maxRecDepth 100000
namespace Go.Abs
open Go
abbrev bx (a b c d e f : Int) : DV := .val (.agg #[.int .i64 a, .int .i64 b, .int .i64 c, .int .i64 d, .int .i64 e, .int .i64 f])
end Go.Abs
