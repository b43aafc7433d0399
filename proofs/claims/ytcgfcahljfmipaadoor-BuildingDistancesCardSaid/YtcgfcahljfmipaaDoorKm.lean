/- Plain laws: numbers ascending, each once; a grid's lines. -/
import Derived.Test.YtcgfcahljfmipaaDoorKs
set_option linter.unusedVariables false
namespace Go.Abs
open Go

/-- All X of the first m outlines. -/
def allN (N : Nat → Nat) (X : Nat → Nat → Int) : Nat → List Int
  | 0 => []
  | i + 1 => allN N X i ++ (List.range (N i)).map (X i)
end Go.Abs
