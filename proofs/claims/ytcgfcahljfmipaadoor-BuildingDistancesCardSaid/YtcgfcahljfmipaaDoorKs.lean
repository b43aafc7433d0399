/- Numbers ascending, each once. -/
import Derived.Test.YtcgfcahljfmipaaDoorK8
import Derived.Lib.RowBridge
set_option linter.unusedVariables false
namespace Go.Abs
open Go

/-- Numbers ascending, each once. -/
def linesF (l : List Int) : List Int := Lib.compact (l.mergeSort fun x y => decide (x ≤ y))
end Go.Abs
