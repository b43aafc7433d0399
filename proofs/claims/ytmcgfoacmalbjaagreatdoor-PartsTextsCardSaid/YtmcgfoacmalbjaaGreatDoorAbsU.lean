/- A region that draws its order, and whose last operations come behind all others: the others first, in whatever order, then the last ones. -/
import Derived.Test.YtmcgfoacmalbjaaGreatDoorAbsT
import Derived.TacticsIn
namespace Go.Abs
open Go Go.RowKit
section
variable {F : Fence} {n : Nat} {P : Program} {ops pre : Array Oper} {Q : Exit → Act → World → Prop}
end
section
variable {P : Program} {ro : Option Nat} {m : Nat} {ops pre : Array Oper} {orc : List (Nat × Orc)} {base : Nat} {w0 : World} {S0 : Env} {Q : Exit → Act → World → Prop}
end
end Go.Abs
