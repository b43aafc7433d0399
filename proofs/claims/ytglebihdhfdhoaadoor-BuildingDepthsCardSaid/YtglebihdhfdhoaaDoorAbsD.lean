/- A region's operations, one behind the other. -/
import Derived.Test.YtglebihdhfdhoaaDoorAbsC
namespace Go.Abs
open Go.RowKit

def St.ev (σ : St) : Operand → DV
  | .tmp t => σ.get t
  | .const v => .val v
  | .func f => .val (.func (.func f) #[] #[])
  | .global g => match look gl g with
    | some cs => .cptr cs
    | none => .any

def condVC (σ : St) : List Operand → List Prop
  | [] => []
  | y :: r => match (σ.ev y).cond? with
    | none => condVC σ r
    | some b => (b = true) :: condVC σ r

/-- The test under which an operation runs: none; a Bool; or no word on it. -/
inductive Grd where
  | always
  | when (b : Bool)
  | unknown

def grd (ops : Array Oper) (σ : St) (o : Oper) : Grd := match o.guard with
  | none => .always
  | some (j, want) => match (ops[j]?).bind (·.dst) with
    | some t => match (σ.get t).un with
      | .val (.bool p) => match (σ.get t).cond? with
        | none => .when (match want with | true => p | false => !p)
        | some q => .when (q && (match want with | true => p | false => !p))
      | _ => .unknown
    | none => .unknown

def opEff0 (P : Program) (oc : Orc) (id : Nat) (σ : St) (o : Oper) : Eff := match condVC σ o.op.operands.toList with
  | [] => evOp P oc id o (fun y => (σ.ev y).un) σ.obj
  | p :: ps => match evOp P oc id o (fun y => (σ.ev y).un) σ.obj with
    | { d, hw, vc } => { d, hw, vc := (p :: ps) ++ vc }

def plainEff (P : Program) (oc : Orc) (id : Nat) (σ : St) (o : Oper) : Eff := match o.op with
  | .pick c a b => evPick (σ.ev c) (σ.ev a) (σ.ev b)
  | _ => opEff0 P oc id σ o

def opEff (P : Program) (ops : Array Oper) (oc : Orc) (id : Nat) (σ : St) (o : Oper) : Eff := match grd ops σ o with
  | .always => plainEff P oc id σ o
  | .when b => let e := plainEff P oc id σ o
    match e.hw with
    | [] => { d := .opt b e.d, vc := e.vc.map fun p => (b = true → p) }
    | hw => { d := .opt b e.d, hw := hw, vc := (b = true) :: e.vc }
  | .unknown => bad

def St.eff (σ : St) (dst : Option Tmp) (e : Eff) : St := { σ with t := match dst with | some t => (t, e.d) :: σ.t | none => σ.t, h := e.hw ++ σ.h }

def dstOK (nt : Nat) : Option Tmp → Bool
  | some t => Nat.blt t nt
  | none => true

def orcAt : List (Nat × Orc) → Nat → Orc
  | l, k => match look l k with
    | some o => o
    | none => .no

/-- All operations, from number k on; new objects get the numbers n0 + k. -/
def runOps (P : Program) (ops : Array Oper) (orc : List (Nat × Orc)) (n0 : Nat) : List Oper → Nat → St → List Prop → St × List Prop
  | [], _, σ, vc => (σ, vc)
  | o :: r, k, σ, vc => let e := opEff P ops (orcAt orc k) (n0 + k) σ o
    runOps P ops orc n0 r (k + 1) (σ.eff o.dst e) (vc ++ (bif dstOK σ.nt o.dst then e.vc else [False]))

def AllT : List Prop → Prop
  | [] => True
  | [p] => p
  | p :: r => p ∧ AllT r

def regionOut (P : Program) (ops : Array Oper) (orc : List (Nat × Orc)) (σ : St) : St × List Prop :=
  runOps P ops orc σ.nx ops.toList 0 { σ with nx := σ.nx + ops.size } []

end Go.Abs
