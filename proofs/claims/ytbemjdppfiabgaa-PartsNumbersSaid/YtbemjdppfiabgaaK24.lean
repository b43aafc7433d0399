/- Contracts. -/
import Derived.Test.YtbemjdppfiabgaaK23
import Derived.Test.YtbemjdppfiabgaaK22
set_option linter.unusedVariables false
set_option linter.unusedSimpArgs false
set_option maxRecDepth 100000
namespace Go.Abs
open Go
def hsP (s : Scf) (k x y : Int) (i : Nat) : Bool := decide (s.K i = k) && smP (s.A i) (s.B i) x y
def wlQ (A B : Nat → Int) (x y : Int) (j : Nat) : Bool := smP x y (A j) (B j)
def unR (s : Scf) (n : Nat) (A B : Nat → Int) (x : Nat) : Bool := !anyN (wlQ A B (sdA s x) (sdB s x)) n && !(anyN (hsP s 4 (sdA s x) (sdB s x)) s.nM && anyN (hsP s 5 (sdA s x) (sdB s x)) s.nM)
end Go.Abs
