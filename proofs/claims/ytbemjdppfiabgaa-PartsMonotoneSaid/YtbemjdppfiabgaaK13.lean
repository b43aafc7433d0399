/- Contracts. -/
import Derived.Test.YtbemjdppfiabgaaK12
set_option linter.unusedVariables false
set_option linter.unusedSimpArgs false
set_option maxRecDepth 100000
namespace Go.Abs
open Go
def stp (s : Scf) (f t : Int) (i : Nat) : Bool := ladP s i && ((decide (s.A i = f) && decide (s.B i = t)) || (decide (s.A i = t) && decide (s.B i = f)))
def stpB (s : Scf) (f t : Int) : Bool := anyN (stp s f t) s.nM
def gr1 (s : Scf) (d : Int) (i k : Nat) : Bool := ftB s s.nM i && (decide (s.Z i < s.Z (crnD s d k).toNat) && stpB s i (crnD s d k))
def frG (s : Scf) (d : Int) : Bool := anyN (fun i => anyN (gr1 s d i) 4) s.nN
def smP (a b c d : Int) : Bool := (decide (a = c) && decide (b = d)) || (decide (a = d) && decide (b = c))
def ld1 (s : Scf) (f t : Int) (i k : Nat) : Bool := stpB s (crnD s f i) (crnD s t k) || smP (crnD s f i) (crnD s f ((i + 1) % 4)) (crnD s t k) (crnD s t ((k + 1) % 4))
def ldB (s : Scf) (f t : Int) : Bool := anyN (fun i => anyN (ld1 s f t i) 4) 4
end Go.Abs
