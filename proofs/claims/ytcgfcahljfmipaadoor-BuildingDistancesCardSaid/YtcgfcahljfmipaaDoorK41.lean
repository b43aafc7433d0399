/- Contracts. -/
import Derived.Test.YtcgfcahljfmipaaDoorG10
set_option linter.unusedVariables false
set_option linter.unusedSimpArgs false
set_option maxRecDepth 100000
namespace Go.Abs
open Go
def rOff (n : Nat) (X Y : Nat → Int) (d : Int) : Orc := .res fun _ => .tup [.lst (ofM n X Y d) (ofC n X Y d), dI (ofG n X Y d)]
end Go.Abs
