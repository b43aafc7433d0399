/- Contracts. -/
import Derived.Test.YtcgfcahljfmipaaDoorK15
import Derived.Test.YtcgfcahljfmipaaDoorK23
set_option linter.unusedVariables false
set_option linter.unusedSimpArgs false
set_option maxRecDepth 100000
namespace Go.Abs
open Go
end Go.Abs
