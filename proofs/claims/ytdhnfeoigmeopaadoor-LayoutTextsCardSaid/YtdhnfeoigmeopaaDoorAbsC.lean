/- What an operation does to the abstract state: a value, a write of objects, and what is owed for it. -/
import Derived.Test.YtdhnfeoigmeopaaDoorAbsBK
import Derived.Laws.BytesArg
import Derived.Stop.IfaceNil
namespace Go.Abs
open Go.RowKit
def DV.un : DV → DV
  | .opt _ d => d.un
  | d => d
def DV.cond? : DV → Option Bool
  | .opt b d => match d.cond? with
    | none => some b
    | some c => some (b && c)
  | _ => none
def DV.closed : DV → Bool
  | .val _ => true
  | .lst _ _ => true
  | .cptr _ => true
  | .agg cs => go cs
  | .tup cs => go cs
  | .clo _ cs => go cs
  | .bnd _ cs => go cs
  | .mp .. => true
  | .any => true
  | .err _ => true
  | .whole _ => true
  | _ => false
where go : List DV → Bool
  | [] => true
  | d :: r => bif d.closed then go r else false
def DV.plain : DV → Bool
  | .val _ => true
  | .tup cs => go cs
  | .agg cs => go cs
  | _ => false
where go : List DV → Bool
  | [] => true
  | d :: r => bif d.plain then go r else false
structure Eff where
  d : DV := .any
  hw : List (Nat × Option AObj) := []
  vc : List Prop := []
def bad : Eff := { vc := [False] }
inductive WO where
  | no
  | row (cols : List (Nat → DV))
  | box (cs : List DV)
inductive WA where
  | arg (d : DV)
  | row (n : Nat) (cols cols' : List (Nat → DV))
  | box (cs cs' : List DV)
inductive Orc where
  | no
  | wrap
  | pos
  | res (d : List DV → DV)
  | row (g : List DV → Nat × List (Nat → DV))
  | rowA (g : List DV → List DV × Nat × List (Nat → DV))
  | turn (g : List DV → Nat → Int)
  | take (g : List DV → Nat × (Nat → Int))
  | frz
  | frp
  | wr (g : List DV → List WO × DV)
  | sh (k c : Nat) (g : List DV → List DV × DV)
  | bro (g : Nat → List (Nat → DV) → DV → (Nat → Int) × DV)
  | base
def rdArg (w : World) (S : Nat → Prop) : Rd := fun a u => rdw w a u ∧ S a.block
def rdRes (w' : World) (S : Nat → Prop) (base : Nat) : Rd := fun a u => rdw w' a u ∧ (S a.block ∨ base ≤ a.block)
def Callable (P : Program) (f : FuncId) : Prop := ∃ fn, P.funcs[f]? = some fn ∧ fn.body.isNone = false ∧ (fn.name == "runtime.NumGoroutine") = false
def FnC (P : Program) (f : FuncId) (args : List DV) (res : DV) : Prop := Callable P f ∧ ∀ (S : Nat → Prop) (w : World) (vs : Array Value), vs.size = args.length →
  (∀ (j : Nat) (d : DV) (v : Value), args[j]? = some d → vs[j]? = some v → RelC (rdArg w S) d v) → GlobOK (rdArg w S) →
  Calls P f vs w fun e w' => ∃ v, e = .returned v ∧ RelC (rdRes w' S w.heap.size) res v ∧ Below w.heap.size w w'
def FnR (P : Program) (f : FuncId) (args : List DV) (n : Nat) (cols : List (Nat → DV)) : Prop := Callable P f ∧ ∀ (S : Nat → Prop) (w : World) (vs : Array Value), vs.size = args.length →
  (∀ (j : Nat) (d : DV) (v : Value), args[j]? = some d → vs[j]? = some v → RelC (rdArg w S) d v) → GlobOK (rdArg w S) →
  Calls P f vs w fun e w' => ∃ v, e = .returned v ∧ Below w.heap.size w w' ∧ ((v = .slice none 0 0 ∧ n = 0) ∨ ∃ g C cv T, v = .slice (some ⟨g, 0, none⟩) n C ∧ w.heap.size ≤ g ∧ w'.heap[g]? = some (.cells cv T (0, 0)) ∧ cv.size = C * cols.length ∧ n ≤ C ∧
    ∀ (i j : Nat) (f : Nat → DV), i < n → cols[j]? = some f → ∃ u, cv[i * cols.length + j]? = some u ∧ oneV u = true ∧ RelC (fun a u => rdw w' a u ∧ a.block ≠ g ∧ (S a.block ∨ w.heap.size ≤ a.block)) (f i) u)
def FnA (P : Program) (f : FuncId) (args : List DV) (pre : List DV) (n : Nat) (cols : List (Nat → DV)) : Prop := Callable P f ∧ ∀ (S : Nat → Prop) (w : World) (vs : Array Value), vs.size = args.length →
  (∀ (j : Nat) (d : DV) (v : Value), args[j]? = some d → vs[j]? = some v → RelC (rdArg w S) d v) → GlobOK (rdArg w S) →
  Calls P f vs w fun e w' => ∃ us v, e = .returned (.agg (us ++ [v]).toArray) ∧ us.length = pre.length ∧ Below w.heap.size w w' ∧ ((v = .slice none 0 0 ∧ n = 0 ∧ RelC (rdRes w' S w.heap.size) (.agg pre) (.agg us.toArray)) ∨ ∃ g C cv T, v = .slice (some ⟨g, 0, none⟩) n C ∧ w.heap.size ≤ g ∧ w'.heap[g]? = some (.cells cv T (0, 0)) ∧ cv.size = C * cols.length ∧ n ≤ C ∧
    (∀ (i j : Nat) (f : Nat → DV), i < n → cols[j]? = some f → ∃ u, cv[i * cols.length + j]? = some u ∧ oneV u = true ∧ RelC (fun a u => rdw w' a u ∧ a.block ≠ g ∧ (S a.block ∨ w.heap.size ≤ a.block)) (f i) u) ∧
    RelC (fun a u => rdw w' a u ∧ a.block ≠ g ∧ (S a.block ∨ w.heap.size ≤ a.block)) (.agg pre) (.agg us.toArray))
def FnT (P : Program) (f : FuncId) (n : Nat) (A A' : Nat → Int) (rest : List DV) : Prop := Callable P f ∧ ∀ (w : World) (v0 : Value) (vs : List Value), vs.length = rest.length →
  (∀ (j : Nat) (d : DV) (v : Value), rest[j]? = some d → vs[j]? = some v → RelC (rdArg w fun _ => True) d v) →
  (v0 = .slice none 0 0 → n = 0 → Calls P f (v0 :: vs).toArray w fun e w' => e = .returned (.tuple #[]) ∧ Below w.heap.size w w') ∧
  ∀ (g C : Nat) (cv : Array Value) (T : TypeId), v0 = .slice (some ⟨g, 0, none⟩) n C → n ≤ C → w.heap[g]? = some (.cells cv T (0, 0)) → cv.size = C → (∀ i, i < n → cv[i]? = some (.int .i64 (A i))) →
    Calls P f (v0 :: vs).toArray w fun e w' => e = .returned (.tuple #[]) ∧ ∃ (cv' : Array Value) (w1 : World), cv'.size = C ∧ (∀ i, i < n → cv'[i]? = some (.int .i64 (A' i))) ∧
      w1.heap.size = w.heap.size ∧ w1.os = w.os ∧ w1.tape = w.tape ∧ w1.output = w.output ∧ DrOK w w1 ∧ (∀ k, k ≠ g → w1.heap[k]? = w.heap[k]?) ∧ w1.heap[g]? = some (.cells cv' T (0, 0)) ∧ Below w1.heap.size w1 w'
def FnK (P : Program) (f : FuncId) (n : Nat) (A : Nat → Int) (n' : Nat) (A' : Nat → Int) : Prop := Callable P f ∧ ∀ (w : World) (v0 : Value),
  (v0 = .slice none 0 0 → n = 0 → n' = 0 ∧ Calls P f #[v0] w fun e w' => e = .returned (.slice none 0 0) ∧ Below w.heap.size w w') ∧
  ∀ (g C : Nat) (cv : Array Value) (T : TypeId), v0 = .slice (some ⟨g, 0, none⟩) n C → n ≤ C → w.heap[g]? = some (.cells cv T (0, 0)) → cv.size = C → (∀ i, i < n → cv[i]? = some (.int .i64 (A i))) →
    n' ≤ n ∧ Calls P f #[v0] w fun e w' => e = .returned (.slice (some ⟨g, 0, none⟩) n' C) ∧ ∃ (cv' : Array Value) (w1 : World), cv'.size = C ∧ (∀ i, i < n' → cv'[i]? = some (.int .i64 (A' i))) ∧
      w1.heap.size = w.heap.size ∧ w1.os = w.os ∧ w1.tape = w.tape ∧ w1.output = w.output ∧ DrOK w w1 ∧ (∀ k, k ≠ g → w1.heap[k]? = w.heap[k]?) ∧ w1.heap[g]? = some (.cells cv' T (0, 0)) ∧ Below w1.heap.size w1 w'
def RowAt (w : World) (rd : Rd) (g n C : Nat) (cols : List (Nat → DV)) : Prop := ∃ cv T, w.heap[g]? = some (.cells cv T (0, 0)) ∧ cv.size = C * cols.length ∧ n ≤ C ∧
  ∀ (i j : Nat) (f : Nat → DV), i < n → cols[j]? = some f → ∃ u, cv[i * cols.length + j]? = some u ∧ oneV u = true ∧ RelC rd (f i) u
def BoxAt (w : World) (rd : Rd) (g : Nat) (cs : List DV) : Prop := ∃ cv T, w.heap[g]? = some (.cells cv T (0, 0)) ∧ cv.size = cs.length ∧ (∀ (j : Nat) (d : DV) (u : Value), cs[j]? = some d → cv[j]? = some u → RelC rd d u) ∧ ∀ u ∈ cv.toList, oneV u = true
def WA.pre (w : World) (S : Nat → Prop) (v : Value) (b : Option Nat) : WA → Prop
  | .arg d => b = none ∧ RelC (rdArg w S) d v
  | .row n cols cols' => cols'.length = cols.length ∧ ((v = .slice none 0 0 ∧ n = 0 ∧ b = none) ∨ ∃ g C, b = some g ∧ v = .slice (some ⟨g, 0, none⟩) n C ∧ RowAt w (rdArg w S) g n C cols)
  | .box cs cs' => cs'.length = cs.length ∧ ∃ g, b = some g ∧ v = .pointer (some ⟨g, 0, none⟩) ∧ BoxAt w (rdArg w S) g cs
def WA.post (w : World) (rd : Rd) (v : Value) : WA → Prop
  | .arg _ => True
  | .row n _ cols' => ∀ g C, v = .slice (some ⟨g, 0, none⟩) n C → RowAt w rd g n C cols'
  | .box _ cs' => ∀ g, v = .pointer (some ⟨g, 0, none⟩) → BoxAt w rd g cs'
def WRes (rd : Rd) (vs : Array Value) (v : Value) : DV → Prop
  | .row _ p _ n => (vs[p]? = some (.slice none 0 0) ∧ v = .slice none 0 0 ∧ n = 0) ∨ ∃ g m C, vs[p]? = some (.slice (some ⟨g, 0, none⟩) m C) ∧ v = .slice (some ⟨g, 0, none⟩) n C ∧ n ≤ C
  | d => RelC rd d v
def FnW (P : Program) (f : FuncId) (args : List WA) (res : DV) : Prop := Callable P f ∧ ∀ (S : Nat → Prop) (w : World) (vs : Array Value) (b : Nat → Option Nat), vs.size = args.length →
  (∀ (j : Nat) (a : WA) (v : Value), args[j]? = some a → vs[j]? = some v → a.pre w S v (b j)) → (∀ j, args.length ≤ j → b j = none) → (∀ i j g, b i = some g → b j = some g → i = j) → (∀ j g, b j = some g → ¬ S g) → GlobOK (rdArg w S) →
  Calls P f vs w fun e w' => ∃ v, e = .returned v ∧ WRes (rdRes w' S w.heap.size) vs v res ∧ BelowX w.heap.size (fun k => ∃ j, b j = some k) w w' ∧ ∀ (j : Nat) (a : WA) (v : Value), args[j]? = some a → vs[j]? = some v → a.post w' (rdRes w' S w.heap.size) v
def blkS (g : Nat) (i : Nat) : Option Loc := if i = 0 then some (.at_ g 0) else none
def FnS (P : Program) (f : FuncId) (args : List DV) (cs cs' : List DV) (res : DV) : Prop := Callable P f ∧ ∀ (S : Nat → Prop) (w : World) (vs : Array Value) (g : Nat), vs.size = args.length →
  (∀ (j : Nat) (d : DV) (v : Value), args[j]? = some d → vs[j]? = some v → Rel (rdArg w S) (fun i => i = 0) (blkS g) d v) → BoxAt w (rdArg w S) g cs → ¬ S g → GlobOK (rdArg w S) →
  Calls P f vs w fun e w' => ∃ v, e = .returned v ∧ RelC (rdRes w' S w.heap.size) res v ∧ BelowX w.heap.size (fun k => k = g) w w' ∧ BoxAt w' (rdRes w' S w.heap.size) g cs'
def FnB (P : Program) (f : FuncId) (x : Value) (n : Nat) (U U' : Nat → Int) (y : Value) : Prop := Callable P f ∧ ∀ (S : Nat → Prop) (w : World) (gb g C : Nat) (cb cv : Array Value) (T T2 : TypeId), GlobOK (rdArg w S) → ¬ S gb → ¬ S g → w.heap[gb]? = some (.cells cb T (0, 0)) → cb.size = 1 → cb[0]? = some (.slice (some ⟨g, 0, none⟩) n C) → gb ≠ g →
  w.heap[g]? = some (.cells cv T2 (0, 0)) → cv.size = C → n ≤ C → (∀ i, i < n → cv[i]? = some (.int .i64 (U i))) →
  Calls P f #[x, .pointer (some ⟨gb, 0, none⟩)] w fun e w' => e = .returned y ∧ BelowX w.heap.size (fun k => k = gb ∨ k = g) w w' ∧
    (∃ cb' T', w'.heap[gb]? = some (.cells cb' T' (0, 0)) ∧ cb'.size = 1 ∧ cb'[0]? = some (.slice (some ⟨g, 0, none⟩) n C)) ∧ ∃ cv' T2', w'.heap[g]? = some (.cells cv' T2' (0, 0)) ∧ cv'.size = C ∧ ∀ i, i < n → cv'[i]? = some (.int .i64 (U' i))
def valCol (c : Nat → DV) : Prop := ∀ i, match c i with
  | .val _ => True
  | _ => False
def valCols : List (Nat → DV) → List Prop
  | [] => []
  | c :: r => valCol c :: valCols r
def intCol (c : Nat → DV) : Prop := ∀ i, match c i with
  | .val (.int .i64 _) => True
  | _ => False
def tAgg (P : Program) (t : TypeId) : Option Bool := match P.underlying t with
  | some (.struct _) => some true
  | some (.array _ _) => some true
  | some _ => some false
  | none => none
def tSize (P : Program) (t : TypeId) : Option Nat := match P.info? t with
  | some i => some i.size
  | none => none
def tBytes (P : Program) (t : TypeId) : Option Nat := match P.info? t with
  | some i => some i.bytes
  | none => none
def tZero (P : Program) (t : TypeId) : Option (List DV) := match P.info? t with
  | some i => match i.zero with
    | some z => (DV.val z).cells?
    | none => none
  | none => none
abbrev Heap := Nat → Option AObj
def readAt (ob : Heap) : DV → Option (List DV × List Prop)
  | .ptr id j => match ob id with
    | some (.box cs) => some (cs.drop j, [])
    | _ => none
  | .rptr s id i j => match ob id with
    | some (.row n cols) => bif Nat.beq cols.length s then some ((cols.drop j).map fun c => c i, [i < n]) else none
    | some (.srow n cols) => bif Nat.beq cols.length s then some ((cols.drop j).map fun c => c i, [i < n]) else none
    | _ => none
  | .cptr cs => some (cs, [])
  | _ => none
def evLoad (P : Program) (ob : Heap) (t : TypeId) (p : DV) : Eff :=
  match tAgg P t, tSize P t, readAt ob p with
  | some true, some n, some (cs, vc) => bif Nat.ble n cs.length then { d := mkAgg (cs.take n), vc } else bad
  | some false, some _, some (d :: _, vc) => { d, vc }
  | _, _, _ => bad
def selV (b : Bool) : Value → Value → Option Value
  | .int k x, .int k' y => if k = k' then some (.int k (if b = true then x else y)) else none
  | .bool x, .bool y => some (.bool (if b = true then x else y))
  | .string x, .string y => some (.string (if b = true then x else y))
  | _, _ => none
def sel0 (b : Bool) : DV → DV → DV
  | .val v, .val u => match selV b v u with
    | some x => .val x
    | none => .any
  | _, _ => .any
def zipSel (f : DV → DV → DV) : List (Nat → DV) → List (Nat → DV) → List (Nat → DV)
  | c :: r, d :: q => (fun i => f (c i) (d i)) :: zipSel f r q
  | _, _ => []
def sel1 (b : Bool) : DV → DV → DV
  | .lst n cols, .lst n' cols' => bif Nat.beq cols.length cols'.length then .lst (if b = true then n else n') (zipSel (sel0 b) cols cols') else .any
  | d, e => sel0 b d e
def sel (b : Bool) : DV → DV → DV
  | .lst n cols, .lst n' cols' => bif Nat.beq cols.length cols'.length then .lst (if b = true then n else n') (zipSel (sel1 b) cols cols') else .any
  | d, e => sel1 b d e
def setCols (i : Nat) : List (Nat → DV) → List DV → List (Nat → DV)
  | c :: r, d :: q => (fun i' => sel (decide (i' = i)) d (c i')) :: setCols i r q
  | r, [] => r
  | [], _ => []
def evStore (P : Program) (ob : Heap) (t : TypeId) (p d : DV) : Eff :=
  match tSize P t, d.cells? with
  | some n, some vs => bif Nat.beq n vs.length then
    (match p with
    | .ptr id j => match ob id with
      | some (.box cs) => bif Nat.ble (j + n) cs.length then { hw := [(id, some (.box (cs.take j ++ (vs ++ cs.drop (j + n)))))] } else bad
      | _ => bad
    | .rptr s id i j => match ob id with
      | some (.row n' cols) => bif Nat.beq cols.length s && Nat.ble (j + n) s && DV.closed.go vs then
          { hw := [(id, some (.row n' (cols.take j ++ setCols i (cols.drop j) vs)))], vc := [i < n'] } else bad
      | _ => bad
    | _ => bad) else bad
  | _, _ => bad
def evFieldAddr (P : Program) (s : TypeId) (x : DV) (f : Nat) : Eff :=
  match P.underlying s with
  | some (.struct fs) => match fs[f]? with
    | some fd => match tSize P fd.type with
      | some (_ + 1) => match x with
        | .ptr id j => { d := .ptr id (j + fd.offset) }
        | .rptr s id i j => { d := .rptr s id i (j + fd.offset) }
        | .gptr s id i j => (match j + fd.offset with
          | 0 => { d := .gptr s id i 0 }
          | 1 => { d := .gptr s id i 1 }
          | 2 => { d := .gptr s id i 2 }
          | 3 => { d := .gptr s id i 3 }
          | _ => bad)
        | .cptr cs => { d := .cptr (cs.drop fd.offset) }
        | _ => bad
      | _ => bad
    | none => bad
  | _ => bad
def aggCells : DV → Option (List DV)
  | .agg cs => some cs
  | .val (.agg vs) => some (vs.toList.map .val)
  | _ => none
def evField (P : Program) (t : TypeId) (x : DV) (f : Nat) : Eff :=
  match P.underlying t with
  | some (.struct fs) => match fs[f]? with
    | some fd => match tAgg P fd.type, tSize P fd.type, aggCells x with
      | some true, some n, some cs => bif Nat.ble (fd.offset + n) cs.length then { d := mkAgg ((cs.drop fd.offset).take n) } else bad
      | some false, some _, some cs => match cs[fd.offset]? with
        | some d => { d }
        | none => bad
      | _, _, _ => bad
    | none => bad
  | _ => bad
def addN (off i : Nat) : Nat := match off with
  | 0 => i
  | off + 1 => off + 1 + i
def isRow (ob : Heap) (id s : Nat) : Bool := match ob id with
  | some (.row _ cols) => Nat.beq cols.length s
  | _ => false
def isRowA (ob : Heap) (id s : Nat) : Bool := match ob id with
  | some (.row _ cols) => Nat.beq cols.length s
  | some (.srow _ cols) => Nat.beq cols.length s
  | _ => false
def bget (s : ByteArray) (i : Nat) : Int := ((s.data.getD i 0).toNat : Int)
def allInts : List DV → Option (IntKind × List Int)
  | [] => none
  | [.val (.int k x)] => some (k, [x])
  | .val (.int k x) :: r => match allInts r with
    | some (k', l) => if k = k' then some (k, x :: l) else none
    | none => none
  | _ => none
def mkCol (cs : List DV) : Nat → DV := match cs with
  | [d] => fun _ => d
  | cs => match allInts cs with
    | some (k, l) => fun i => .val (.int k (l.getD i 0))
    | none => fun i => cs.getD i .any
def selL : Nat → List DV → Nat → DV
  | _, [], _ => .any
  | _, [d], _ => d
  | k, d :: r, i => sel (decide (i = k)) d (selL (k + 1) r i)
def mkColC (cs : List DV) : Nat → DV := match cs with
  | [d] => fun _ => d
  | cs => match allInts cs with
    | some (k, l) => fun i => .val (.int k (l.getD i 0))
    | none => fun i => selL 0 cs i
def every (s j : Nat) : Nat → List DV → List DV
  | 0, _ => []
  | n + 1, cs => match cs[j]? with
    | some d => d :: every s j n (cs.drop s)
    | none => []
def evIndexAddr (P : Program) (ob : Heap) (t : TypeId) (x i : DV) : Eff :=
  match P.underlying t, i with
  | some (.slice e), .val (.int _ k) => match tSize P e, x with
    | some s, .row s' id off len => bif Nat.beq s s' then { d := .rptr s id (addN off k.toNat) 0, vc := [0 ≤ k ∧ k < (len : Int)] } else (bif Nat.beq s' 0 && (Nat.beq s 1 && Nat.beq off 0) then { d := .ptr id k.toNat, vc := [0 ≤ k ∧ k < (len : Int)] } else bad)
    | some s, .lst n cols => bif Nat.beq cols.length s then { d := .cptr (cols.map fun c => c k.toNat), vc := [0 ≤ k ∧ k < (n : Int)] } else bad
    | some s, .grd s' id n => bif Nat.beq s s' then { d := .gptr s id k.toNat 0, vc := [0 ≤ k ∧ k < (n : Int)] } else bad
    | _, _ => bad
  | some (.array len e), .val (.int _ k) => match tSize P e, x with
    | some s, .ptr id j => { d := .ptr id (j + k.toNat * s), vc := [0 ≤ k ∧ k < (len : Int)] }
    | some s, .cptr cs => bif Nat.ble (len * s) cs.length then { d := .cptr ((List.range s).map fun j => mkColC (every s j len cs) k.toNat), vc := [0 ≤ k ∧ k < (len : Int)] } else bad
    | _, _ => bad
  | _, _ => bad
def evIndex (P : Program) (t : TypeId) (x i : DV) : Eff :=
  match P.underlying t, x, i with
  | some .string, .val (.string s), .val (.int _ k) => { d := .val (.int .u8 (bget s k.toNat)), vc := [0 ≤ k ∧ k < (s.size : Int)] }
  | some (.array len e), x, .val (.int _ k) => match tAgg P e, tSize P e, aggCells x with
    | some false, some 1, some cs => bif Nat.beq cs.length len then { d := mkCol cs k.toNat, vc := [0 ≤ k ∧ k < (len : Int)] } else bad
    | some true, some s, some cs => bif Nat.beq cs.length (len * s) then { d := mkAgg ((List.range s).map fun j => mkCol (every s j len cs) k.toNat), vc := [0 ≤ k ∧ k < (len : Int)] } else bad
    | _, _, _ => bad
  | _, _, _ => bad
def i64In (n : Int) : Prop := -9223372036854775808 ≤ n ∧ n ≤ 9223372036854775807
def evInt (oc : Orc) (op : BinOp) (k : IntKind) (x y : Int) : Eff :=
  match op, oc with
  | .eql, _ => { d := .val (.bool (x == y)) }
  | .neq, _ => { d := .val (.bool (x != y)) }
  | .lss, _ => { d := .val (.bool (decide (x < y))) }
  | .leq, _ => { d := .val (.bool (decide (x ≤ y))) }
  | .gtr, _ => { d := .val (.bool (decide (x > y))) }
  | .geq, _ => { d := .val (.bool (decide (x ≥ y))) }
  | .add, .no => match k with
    | .i64 => { d := .val (.int .i64 (x + y)), vc := [i64In (x + y)] }
    | _ => { d := .val (.int k (k.wrap (x + y))) }
  | .add, _ => { d := .val (.int k (k.wrap (x + y))) }
  | .sub, .no => match k with
    | .i64 => { d := .val (.int .i64 (x - y)), vc := [i64In (x - y)] }
    | _ => { d := .val (.int k (k.wrap (x - y))) }
  | .sub, _ => { d := .val (.int k (k.wrap (x - y))) }
  | .mul, .no => match k with
    | .i64 => { d := .val (.int .i64 (x * y)), vc := [i64In (x * y)] }
    | _ => { d := .val (.int k (k.wrap (x * y))) }
  | .mul, _ => { d := .val (.int k (k.wrap (x * y))) }
  | .quo, .pos => match k with
    | .i64 => { d := .val (.int .i64 (x / y)), vc := [0 ≤ x ∧ 0 < y ∧ x ≤ 9223372036854775807] }
    | _ => bad
  | .quo, _ => { d := .val (.int k (k.wrap (x.tdiv y))), vc := [y ≠ 0] }
  | .rem, .pos => { d := .val (.int k (x % y)), vc := [0 ≤ x ∧ 0 < y] }
  | .rem, _ => { d := .val (.int k (x.tmod y)), vc := [y ≠ 0] }
  | .and, _ => match k with
    | .i64 => { d := .val (.int .i64 (x % 4)), vc := [0 ≤ x ∧ x ≤ 9223372036854775807 ∧ y = 3] }
    | _ => bad
  | _, _ => bad
def evStr (op : BinOp) (x y : ByteArray) : Eff :=
  match op with
  | .add => { d := .val (.string (x ++ y)), vc := [x.size + y.size ≤ 9223372036854775807] }
  | .eql => { d := .val (.bool (x.toList == y.toList)) }
  | .neq => { d := .val (.bool (!(x.toList == y.toList))) }
  | .lss => { d := .val (.bool (Op.bytesLess x.toList y.toList)) }
  | _ => bad
def evBin (oc : Orc) (op : BinOp) : DV → DV → Eff
  | .val (.int k x), .val (.int k' y) => if k = k' then evInt oc op k x y else bad
  | .val (.string x), .val (.string y) => evStr op x y
  | _, _ => bad
def evEq (P : Program) (neg : Bool) (t : TypeId) : DV → DV → Eff
  | .val (.bool x), .val (.bool y) => match P.underlying t with
    | some .bool => { d := .val (.bool (if neg then !(x == y) else (x == y))) }
    | _ => bad
  | _, _ => bad
def partD (P : Program) (t : TypeId) (cs : List DV) (off : Nat) : Option DV := match tAgg P t, tSize P t with
  | some true, some n => bif Nat.ble (off + n) cs.length then some (mkAgg ((cs.drop off).take n)) else none
  | some false, _ => cs[off]?
  | _, _ => none
def eqFlds (P : Program) (g : TypeId → DV → DV → Option Bool) (xs ys : List DV) : List Field → Option Bool
  | [] => some true
  | f :: fs => bif f.name == "_" then none else match partD P f.type xs f.offset, partD P f.type ys f.offset with
    | some d, some e => match g f.type d e, eqFlds P g xs ys fs with
      | some a, some b => some (a && b)
      | _, _ => none
    | _, _ => none
def eqItms (P : Program) (g : DV → DV → Option Bool) (e : TypeId) (sz : Nat) (xs ys : List DV) : List Nat → Option Bool
  | [] => some true
  | i :: is => match partD P e xs (i * sz), partD P e ys (i * sz) with
    | some d, some d' => match g d d', eqItms P g e sz xs ys is with
      | some a, some b => some (a && b)
      | _, _ => none
    | _, _ => none
def eqDV (P : Program) : Nat → TypeId → DV → DV → Option Bool
  | 0, _, _, _ => none
  | d + 1, t, x, y => match P.underlying t with
    | some (.int _) => match x, y with
      | .val (.int k a), .val (.int k' b) => if k = k' then some (a == b) else none
      | _, _ => none
    | some .bool => match x, y with
      | .val (.bool a), .val (.bool b) => some (a == b)
      | _, _ => none
    | some .string => match x, y with
      | .val (.string a), .val (.string b) => some (a.toList == b.toList)
      | _, _ => none
    | some (.struct fs) => match aggCells x, aggCells y with
      | some xs, some ys => bif P.stoodInHeld t then none else eqFlds P (eqDV P d) xs ys fs.toList
      | _, _ => none
    | some (.array n e) => match aggCells x, aggCells y, tSize P e with
      | some xs, some ys, some sz => eqItms P (eqDV P d e) e sz xs ys (List.range n)
      | _, _, _ => none
    | _ => none
def evEqA (P : Program) (op : BinOp) (t : TypeId) (x y : DV) : Eff := bif P.eqGuardType P.depth t then bad else match aggCells x, aggCells y, eqDV P 8 t x y, op with
  | some _, some _, some b, .eql => { d := .val (.bool b) }
  | some _, some _, some b, .neq => { d := .val (.bool !b) }
  | _, _, _, _ => bad
def opdC : Operand → Bool
  | .const _ => true
  | _ => false
def evErr (P : Program) (t : TypeId) (z : Operand) (b : Bool) : Eff := bif P.isIface t then (bif opdC z then { d := .val (.bool !b) } else bad) else bad
def evUn (op : UnOp) : DV → Eff
  | .val (.bool b) => match op with
    | .not => { d := .val (.bool !b) }
    | _ => bad
  | .val (.int k n) => match op, k with
    | .neg, .i64 => { d := .val (.int .i64 (-n)), vc := [i64In (-n)] }
    | _, _ => bad
  | _ => bad
def evConv (P : Program) (dst : TypeId) : DV → Eff
  | .val (.int _ n) => match P.underlying dst with
    | some (.int .i64) => { d := .val (.int .i64 n), vc := [i64In n] }
    | some (.int k) => { d := .val (.int k (k.wrap n)) }
    | _ => bad
  | _ => bad
def evExtract : DV → Nat → Eff
  | .tup cs, i => match cs[i]? with
    | some d => { d }
    | none => bad
  | .val (.tuple vs), i => match vs[i]? with
    | some v => { d := .val v }
    | none => bad
  | _, _ => bad
def fillD (place : Nat → Option (Nat × Nat)) (cells : List DV) : List (Nat × DV) → Option (List DV)
  | [] => some cells
  | (i, d) :: rest => match place i, d.cells? with
    | some (off, size), some vs => bif Nat.beq vs.length size && Nat.ble (off + vs.length) cells.length then
        fillD place (cells.take off ++ (vs ++ cells.drop (off + vs.length))) rest else none
    | _, _ => none
def placesOf (P : Program) (fs : Array Field) : Option (List (Nat × Nat)) := fs.toList.mapM fun f => (P.info? f.type).map fun i => (f.offset, i.size)
def evBuild (P : Program) (t : TypeId) (parts : List (Nat × DV)) : Eff :=
  match P.underlying t, tZero P t with
  | some (.struct fs), some z => match placesOf P fs with
    | some ps => match fillD (fun i => ps[i]?) z parts with
      | some cs => { d := mkAgg cs }
      | none => bad
    | none => bad
  | some (.array _ e), some z => match tSize P e with
    | some s => match fillD (fun i => some (i * s, s)) z parts with
      | some cs => { d := mkAgg cs }
      | none => bad
    | none => bad
  | _, _ => bad
def evBuildSlice (P : Program) (id : Nat) (t : TypeId) (len : Nat) (parts : List (Nat × DV)) : Eff :=
  match P.underlying t with
  | some (.slice e) => match tSize P e, tZero P e with
    | some s, some z => bif Nat.beq z.length s && Nat.ble (len * s) 16777216 then
      (match fillD (fun i => some (i * s, s)) (List.flatten (List.replicate len z)) parts with
      | some cs => bif DV.closed.go cs then
          (match len with
          | 0 => { d := .row s id 0 0, hw := [(id, some (.row 0 (z.map fun d _ => d)))] }
          | _ => { d := .row s id 0 len, hw := [(id, some (.row len ((List.range s).map fun j => mkColC (every s j len cs))))] }) else (bif Nat.beq s 1 then { d := .row 0 id 0 len, hw := [(id, some (.box cs))] } else bad)
      | none => bad) else bad
    | _, _ => bad
  | _ => bad
def evMakeSlice (P : Program) (id : Nat) (t : TypeId) : DV → DV → Eff
  | .val (.int _ n), .val (.int _ c) => match P.underlying t with
    | some (.slice e) => match P.info? e, tZero P e with
      | some i, some cs => bif Nat.beq cs.length i.size && Nat.ble 1 cs.length then { d := .row cs.length id 0 n.toNat, hw := [(id, some (.row n.toNat (cs.map fun d _ => d)))], vc := [0 ≤ n ∧ n = c ∧ n ≤ 140737488355328 ∧ i.bytes * n.toNat ≤ 281474976710656] } else bad
      | _, _ => bad
    | _ => bad
  | _, _ => bad
def allNil : List DV → Bool
  | [] => true
  | .val (.slice none 0 0) :: r => allNil r
  | _ => false
def evMakeGrid (P : Program) (id : Nat) (t : TypeId) : DV → DV → Eff
  | .val (.int _ n), .val (.int _ c) => match P.underlying t with
    | some (.slice e) => match P.info? e, tZero P e with
      | some i, some cs => bif Nat.beq cs.length i.size && (Nat.ble 1 cs.length && allNil cs) then { d := .grd cs.length id n.toNat, hw := [(id, some (.grid n.toNat cs.length (fun _ _ => 0) (fun _ _ _ => .val (.int .i64 0)) none))], vc := [0 ≤ n ∧ n = c ∧ n ≤ 140737488355328 ∧ i.bytes * n.toNat ≤ 281474976710656] } else bad
      | _, _ => bad
    | _ => bad
  | _, _ => bad
def evMakeSliceO (P : Program) (oc : Orc) (id : Nat) (t : TypeId) (x y : DV) : Eff := match oc with
  | .base => evMakeGrid P id t x y
  | _ => evMakeSlice P id t x y
def evGout (P : Program) (ob : Heap) (id : Nat) (t : TypeId) (s g i j : Nat) : Eff := match tAgg P t, tSize P t, ob g with
  | some false, some 1, some (.grid n s' len col none) => bif Nat.beq s s' && Nat.blt j s then
      { d := .row 1 id 0 (len i j), hw := [(id, some (.row (len i j) [col i j])), (g, some (.grid n s' len col (some (i, j))))], vc := [i < n] } else bad
  | _, _, _ => bad
def evGin (P : Program) (ob : Heap) (t : TypeId) (s g i j : Nat) : DV → Eff
  | .row 1 r 0 m => match tSize P t, ob g, ob r with
    | some 1, some (.grid n s' len col (some (i0, j0))), some (.row m' [c]) => bif Nat.beq s s' && (Nat.beq j j0 && Nat.blt j s) then
        { hw := [(g, some (.grid n s' (fun i' j' => bif Nat.beq j' j then (if i' = i then m else len i' j') else len i' j') (fun i' j' q => bif Nat.beq j' j then sel (decide (i' = i)) (c q) (col i' j' q) else col i' j' q) none)), (r, none)], vc := [i = i0, i < n, m = m'] } else bad
    | _, _, _ => bad
  | _ => bad
def evLoadO (P : Program) (ob : Heap) (id : Nat) (t : TypeId) : DV → Eff
  | .gptr s g i j => evGout P ob id t s g i j
  | p => evLoad P ob t p
def evStoreO (P : Program) (ob : Heap) (t : TypeId) (p d : DV) : Eff := match p with
  | .gptr s g i j => evGin P ob t s g i j d
  | p => evStore P ob t p d
def evAlloc (P : Program) (id : Nat) (t : TypeId) : Eff :=
  match tZero P t with
  | some z => { d := .ptr id 0, hw := [(id, some (.box z))] }
  | none => bad
def evBox (id : Nat) (x : DV) : Eff :=
  match x.cells? with
  | some cs => { d := .ptr id 0, hw := [(id, some (.box cs))] }
  | none => bad
def evPick (c a b : DV) : Eff :=
  match c.un with
  | .val (.bool p) =>
    { d := sel p a.un b.un,
      vc := (match c.cond? with | none => [] | some q => [q = true]) ++ ((match a.cond? with | none => [] | some q => [p = true → q = true]) ++ (match b.cond? with | none => [] | some q => [p = false → q = true])) }
  | _ => bad
def intsOf : List DV → Option (List Int)
  | [] => some []
  | .val (.int .i64 n) :: r => match intsOf r with
    | some l => some (n :: l)
    | none => none
  | _ => none
def maxs : Int → List Int → Int
  | x, [] => x
  | x, y :: r => maxs (if y > x then y else x) r
def mins : Int → List Int → Int
  | x, [] => x
  | x, y :: r => mins (if y < x then y else x) r
def evLenP (P : Program) (t : TypeId) : DV → Eff
  | .lst n _ => match P.underlying t with
    | some (.slice _) => { d := .val (.int .i64 (n : Int)) }
    | _ => bad
  | .val (.slice none n _) => match P.underlying t with
    | some (.slice _) => { d := .val (.int .i64 (n : Int)) }
    | _ => bad
  | .val (.string s) => match P.underlying t with
    | some .string => { d := .val (.int .i64 (s.size : Int)) }
    | _ => bad
  | _ => bad
def evLen (P : Program) (ob : Heap) (t : TypeId) : DV → Eff
  | .row _ _ _ len => match P.underlying t with
    | some (.slice _) => { d := .val (.int .i64 (len : Int)) }
    | _ => bad
  | .grd _ _ len => match P.underlying t with
    | some (.slice _) => { d := .val (.int .i64 (len : Int)) }
    | _ => bad
  | d => evLenP P t d
def colApp (n : Nat) (c d : Nat → DV) : Nat → DV := fun i => sel (decide (i < n)) (c i) (d (i - n))
def zipApp (n : Nat) : List (Nat → DV) → List (Nat → DV) → List (Nat → DV)
  | c :: r, d :: q => colApp n c d :: zipApp n r q
  | _, _ => []
def source (ob : Heap) (s : Nat) : DV → Option (Nat × List (Nat → DV) × List Prop)
  | .lst n cols => bif Nat.beq cols.length s then some (n, cols, []) else none
  | .row s' id off len => match ob id with
    | some (.row n cols) => bif Nat.beq s s' && Nat.beq cols.length s then
        some (len, cols.map fun c i => c (i + off), [len + off ≤ n]) else none
    | _ => none
  | .val (.slice none 0 0) => some (0, List.replicate s fun _ => .any, [])
  | .tok t m => match ob m with
    | some (.gmap _ len col hot none) => match look hot t with
      | some l => bif Nat.beq s 1 then some (len l, [col l], []) else none
      | none => none
    | _ => none
  | _ => none
def evAppend (P : Program) (ob : Heap) (id : Nat) (t : TypeId) (x y : DV) : Eff :=
  match P.underlying t with
  | some (.slice e) => match tSize P e, tBytes P e, tZero P e with
    | some s, some (by_ + 1), some z => bif Nat.beq z.length s && Nat.ble 1 s then
      (match source ob s y with
      | some (m, cols2, vc2) => bif Nat.beq cols2.length s then
        (match x with
        | .val (.slice none 0 0) => { d := .row s id 0 m, hw := [(id, some (.row m cols2))], vc := (m * (by_ + 1) ≤ 140737488355328) :: vc2 }
        | .row s' r 0 len => match ob r with
          | some (.row n cols) => bif Nat.beq s s' && Nat.beq cols.length s then
              { d := .row s id 0 (len + m), hw := [(id, some (.row (len + m) (zipApp len cols cols2))), (r, none)], vc := (len ≤ n) :: ((len + m) * (by_ + 1) ≤ 140737488355328) :: vc2 } else bad
          | some (.srow n cols) => bif Nat.beq s s' && Nat.beq cols.length s then
              { d := .row s id 0 (len + m), hw := [(id, some (.srow (len + m) (zipApp len cols cols2))), (r, none)], vc := (len ≤ n) :: ((len + m) * (by_ + 1) ≤ 140737488355328) :: vc2 } else bad
          | _ => bad
        | .tok tk mi => match ob mi with
          | some (.gmap ks len col hot none) => match look hot tk with
            | some l => bif Nat.beq s 1 then
                { d := .row s id 0 (len l + m), hw := [(id, some (.row (len l + m) (zipApp (len l) [col l] cols2))), (mi, some (.gmap ks len col [] (some l)))], vc := ((len l + m) * (by_ + 1) ≤ 140737488355328) :: vc2 } else bad
            | none => bad
          | _ => bad
        | _ => bad) else bad
      | none => bad) else bad
    | _, _, _ => bad
  | _ => bad
def lend (ob : Heap) : DV → Option (DV × List Prop)
  | .row s id off len => match ob id with
    | some (.row n cols) => bif Nat.beq cols.length s then
        some (.lst len (cols.map fun c i => c (i + off)), [len + off ≤ n]) else none
    | _ => none
  | .mph m => match ob m with
    | some (.map ks has col _) => some (.mp ks has col, [])
    | _ => none
  | d => bif d.closed then some (d, []) else none
def lends (ob : Heap) : List DV → Option (List DV × List Prop)
  | [] => some ([], [])
  | d :: r => match lend ob d, lends ob r with
    | some (e, vc), some (es, vcs) => some (e :: es, vc ++ vcs)
    | _, _ => none
def hasRow : List DV → Bool
  | [] => false
  | .row .. :: _ => true
  | .mph _ :: _ => true
  | _ :: r => hasRow r
def dropRows : List DV → List (Nat × Option AObj)
  | [] => []
  | .row _ id _ _ :: r => (id, none) :: dropRows r
  | .mph id :: r => (id, none) :: dropRows r
  | _ :: r => dropRows r
def callEff (P : Program) (f : FuncId) (args es : List DV) (vc : List Prop) (d : DV) : Eff :=
  bif hasRow args then (bif d.plain then { d, vc := vc ++ [FnC P f es d] } else (bif d.closed then { d, hw := dropRows args, vc := vc ++ [FnC P f es d] } else bad))
      else (bif d.closed then { d, vc := vc ++ [FnC P f es d] } else bad)
def lendP (ob : Heap) : DV → Option (DV × List Prop)
  | .ptr id 0 => match ob id with
    | some (.box cs) => bif DV.closed.go cs then some (.cptr cs, []) else none
    | _ => none
  | d => lend ob d
def lendPL (ob : Heap) : List DV → Option (List DV × List Prop)
  | [] => some ([], [])
  | d :: r => match lendP ob d, lendPL ob r with
    | some (e, vc), some (es, vcs) => some (e :: es, vc ++ vcs)
    | _, _ => none
def lendB (ob : Heap) : DV → Option (DV × List Prop)
  | .clo f cs => match lendPL ob cs with
    | some (es, vc) => some (.clo f es, vc)
    | none => none
  | .agg cs => match lendPL ob cs with
    | some (es, vc) => some (.agg es, vc)
    | none => none
  | d => lendP ob d
def lendBs (ob : Heap) : List DV → Option (List DV × List Prop)
  | [] => some ([], [])
  | d :: r => match lendB ob d, lendBs ob r with
    | some (e, vc), some (es, vcs) => some (e :: es, vc ++ vcs)
    | _, _ => none
def hasBox : List DV → Bool
  | [] => false
  | .row .. :: r => hasBox r
  | .mph _ :: r => hasBox r
  | d :: r => bif d.closed then hasBox r else true
def flatCaps : List DV → Bool
  | [] => true
  | .clo _ cs :: r => bif DV.closed.go cs then flatCaps r else false
  | .bnd _ cs :: r => bif DV.closed.go cs then flatCaps r else false
  | .agg cs :: r => bif DV.closed.go cs then flatCaps r else false
  | _ :: r => flatCaps r
def rowEff (P : Program) (f : FuncId) (id : Nat) (args es : List DV) (vc : List Prop) : Nat × List (Nat → DV) → Eff
  | (n, cols) => { d := .row cols.length id 0 n, hw := (id, some (.row n cols)) :: dropRows args, vc := vc ++ [FnR P f es n cols] }
def rowAEff (P : Program) (f : FuncId) (id : Nat) (args es : List DV) (vc : List Prop) : List DV × Nat × List (Nat → DV) → Eff
  | (pre, n, cols) => bif DV.closed.go pre then { d := .agg (pre ++ [.row cols.length id 0 n]), hw := (id, some (.row n cols)) :: dropRows args, vc := vc ++ [FnA P f es pre n cols] } else bad
def iOfC : DV → Int
  | .val (.int _ n) => n
  | _ => 0
def turnEff (P : Program) (f : FuncId) (ob : Heap) (A' : Nat → Int) : List DV → Eff
  | .row s r off len :: rest => match off, ob r with
    | 0, some (.row n [c]) => bif Nat.beq s 1 && DV.closed.go rest then
        { d := .val (.tuple #[]), hw := [(r, some (.row n [fun i => .val (.int .i64 (A' i))]))], vc := [len = n, intCol c, FnT P f n (fun i => iOfC (c i)) A' rest] } else bad
    | _, _ => bad
  | _ => bad
def takeEff (P : Program) (f : FuncId) (ob : Heap) (n' : Nat) (A' : Nat → Int) : List DV → Eff
  | [.row s r off len] => match off, ob r with
    | 0, some (.row n [c]) => bif Nat.beq s 1 then
        { d := .row 1 r 0 n', hw := [(r, some (.row n' [fun i => .val (.int .i64 (A' i))]))], vc := [len = n, intCol c, FnK P f n (fun i => iOfC (c i)) n' A'] } else bad
    | _, _ => bad
  | _ => bad
def wrArg (ob : Heap) : DV → WO → Option (WA × List (Nat × Option AObj) × List Prop)
  | .row s id off len, .row cols' => match off, ob id with
    | 0, some (.row n cols) => bif Nat.beq cols.length s && Nat.beq cols'.length s then some (.row len cols cols', [(id, some (.row len cols'))], (len = n) :: valCols cols') else none
    | _, _ => none
  | .ptr id 0, .box cs' => match ob id with
    | some (.box cs) => bif Nat.beq cs'.length cs.length && (DV.closed.go cs && DV.plain.go cs') then some (.box cs cs', [(id, some (.box cs'))], []) else none
    | _ => none
  | d, .no => match lendB ob d with
    | some (e, vc) => some (.arg e, [], vc)
    | none => none
  | _, _ => none
def woHd : List WO → WO
  | [] => .no
  | o :: _ => o
def wrArgs (ob : Heap) : List DV → List WO → Option (List WA × List (Nat × Option AObj) × List Prop)
  | [], _ => some ([], [], [])
  | d :: r, q => match wrArg ob d (woHd q), wrArgs ob r q.tail with
    | some (a, h, vc), some (as, hs, vcs) => some (a :: as, h ++ hs, vc ++ vcs)
    | _, _ => none
def lentId : DV → List Nat
  | .row _ id _ _ => [id]
  | .ptr id _ => [id]
  | .mph id => [id]
  | _ => []
def lentIds : DV → List Nat
  | .clo _ cs => go cs
  | .agg cs => go cs
  | d => lentId d
where go : List DV → List Nat
  | [] => []
  | d :: r => lentId d ++ go r
def allIds : List DV → List Nat
  | [] => []
  | d :: r => lentIds d ++ allIds r
def mphs : List Nat → List DV
  | [] => []
  | i :: r => .mph i :: mphs r
def noIds (d : DV) : WO → List Nat
  | .no => lentIds d
  | _ => []
def wrNo : List DV → List WO → List Nat
  | [], _ => []
  | d :: r, q => noIds d (woHd q) ++ wrNo r q.tail
def nodupB : List Nat → Bool
  | [] => true
  | x :: r => bif r.any (Nat.beq x) then false else nodupB r
def apartB (l m : List Nat) : Bool := l.all fun x => !(m.any (Nat.beq x))
def wrRes (args : List DV) : DV → Option DV
  | .row s p off n => match off, args[p]? with
    | 0, some (.row s' id 0 _) => bif Nat.beq s s' then some (.row s id 0 n) else none
    | _, _ => none
  | d => bif d.plain then some d else none
def wrEff (P : Program) (f : FuncId) (ob : Heap) (args : List DV) (g : List DV → List WO × DV) : Eff := match lendBs ob args with
  | some (es, _) => match wrArgs ob args (g es).1, wrRes args (g es).2 with
    | some (was, hw, vc), some d => bif nodupB (hw.map (·.1)) && apartB (wrNo args (g es).1) (hw.map (·.1)) then { d, hw, vc := vc ++ [FnW P f was (g es).2] } else bad
    | _, _ => bad
  | none => bad
def shPo (ob : Heap) (id : Nat) : DV → Option (DV × List Prop)
  | .ptr i 0 => bif Nat.beq i id then some (.ptr 0 0, []) else lendP ob (.ptr i 0)
  | d => bif (lentId d).any (Nat.beq id) then none else lendP ob d
def shPL (ob : Heap) (id : Nat) : List DV → Option (List DV × List Prop)
  | [] => some ([], [])
  | d :: r => match shPo ob id d, shPL ob id r with
    | some (e, vc), some (es, vcs) => some (e :: es, vc ++ vcs)
    | _, _ => none
def shA (ob : Heap) (id : Nat) : DV → Option (DV × List Prop)
  | .clo f cs => match shPL ob id cs with
    | some (es, vc) => some (.clo f es, vc)
    | none => none
  | d => bif (lentIds d).any (Nat.beq id) then none else lendB ob d
def shAs (ob : Heap) (id : Nat) : List DV → Option (List DV × List Prop)
  | [] => some ([], [])
  | d :: r => match shA ob id d, shAs ob id r with
    | some (e, vc), some (es, vcs) => some (e :: es, vc ++ vcs)
    | _, _ => none
def shId (args : List DV) (k c : Nat) : Option Nat := match args[k]? with
  | some (.clo _ cs) => match cs[c]? with
    | some (.ptr id 0) => some id
    | _ => none
  | _ => none
def others (id : Nat) (args : List DV) : List Nat := (allIds args).filter fun i => !(Nat.beq i id)
def shEff (P : Program) (f : FuncId) (ob : Heap) (args : List DV) (k c : Nat) (g : List DV → List DV × DV) : Eff := match shId args k c with
  | some id => match lendBs ob args, shAs ob id args with
    | some (es, _), some (ds, vc) => match ob id with
      | some (.box cs) => bif Nat.beq (g es).1.length cs.length && (DV.closed.go cs && (DV.plain.go (g es).1 && ((g es).2.closed && !(g es).2.plain))) then
          { d := (g es).2, hw := (id, some (.box (g es).1)) :: dropRows (mphs (others id args)), vc := vc ++ [FnS P f ds cs (g es).1 (g es).2] } else bad
      | _ => bad
    | _, _ => bad
  | none => bad
def broRow (P : Program) (f : FuncId) (x : DV) (b s r len : Nat) (g : Nat → List (Nat → DV) → DV → (Nat → Int) × DV) : Option AObj → Eff
  | some (.row n [c]) => match x, (g len [c] x).2 with
    | .val u, .val y => bif Nat.beq s 1 && !(Nat.beq b r) then
        { d := .val y, hw := [(r, some (.row len [fun i => .val (.int .i64 ((g len [c] x).1 i))]))], vc := [len = n, 0 < len, intCol c, FnB P f u len (fun i => iOfC (c i)) (g len [c] x).1 y] } else { hw := [(r, none)], vc := [False] }
    | _, _ => { hw := [(r, none)], vc := [False] }
  | _ => { hw := [(r, none)], vc := [False] }
def broEff (P : Program) (f : FuncId) (ob : Heap) (args : List DV) (g : Nat → List (Nat → DV) → DV → (Nat → Int) × DV) : Eff := match args with
  | [x, .ptr b 0] => match ob b with
    | some (.box [.row s r 0 len]) => broRow P f x b s r len g (ob r)
    | _ => bad
  | _ => bad
def evCall (P : Program) (oc : Orc) (id : Nat) (ob : Heap) (f : FuncId) (args : List DV) : Eff :=
  match oc with
  | .res g => bif hasBox args then (match lendBs ob args with
      | some (es, vc) => bif (g es).plain then { d := g es, vc := vc ++ [FnC P f es (g es)] } else (bif (g es).closed then { d := g es, hw := dropRows (mphs (allIds args)), vc := vc ++ [FnC P f es (g es)] } else bad)
      | none => bad)
    else (match lends ob args with
      | some (es, vc) => callEff P f args es vc (g es)
      | none => bad)
  | .row g => match lends ob args with
    | some (es, vc) => rowEff P f id args es vc (g es)
    | none => bad
  | .rowA g => match lends ob args with
    | some (es, vc) => rowAEff P f id args es vc (g es)
    | none => bad
  | .turn g => match lends ob args with
    | some (es, _) => turnEff P f ob (g es) args
    | none => bad
  | .take g => match lends ob args with
    | some (es, _) => takeEff P f ob (g es).1 (g es).2 args
    | none => bad
  | .wr g => wrEff P f ob args g
  | .sh k c g => shEff P f ob args k c g
  | .bro g => broEff P f ob args g
  | _ => bad
def bnd (n : Int) : Option DV → Option Int
  | none => some n
  | some (.val (.int _ k)) => some k
  | some _ => none
def evSlice (P : Program) (ob : Heap) (t : TypeId) (x : DV) (lo hi : Option DV) : Eff :=
  match P.underlying t with
  | some (.slice e) => match tSize P e with
    | some s => match x with
      | .row s' id off len => bif Nat.beq s s' && isRow ob id s then (match bnd 0 lo, bnd (len : Int) hi with
          | some l, some h => { d := .row s id (off + l.toNat) (h.toNat - l.toNat), vc := [0 ≤ l ∧ l ≤ h ∧ h ≤ (len : Int)] }
          | _, _ => bad) else bad
      | .lst n cols => bif Nat.beq cols.length s then (match bnd 0 lo, bnd (n : Int) hi with
          | some l, some h => { d := .lst (h.toNat - l.toNat) (cols.map fun c i => c (i + l.toNat)), vc := [0 ≤ l ∧ l ≤ h ∧ h ≤ (n : Int)] }
          | _, _ => bad) else bad
      | .val (.slice none 0 0) => (match bnd 0 lo, bnd 0 hi with
          | some l, some h => { d := .val (.slice none 0 0), vc := [l = 0 ∧ h = 0] }
          | _, _ => bad)
      | _ => bad
    | none => bad
  | some .string => match x with
    | .val (.string s) => (match bnd 0 lo, bnd (s.size : Int) hi with
          | some l, some h => { d := .val (.string (s.extract l.toNat h.toNat)), vc := [0 ≤ l ∧ l ≤ h ∧ h ≤ (s.size : Int)] }
          | _, _ => bad)
    | _ => bad
  | _ => bad
def convRow (ob : Heap) (len : Nat) (s off id : Nat) : Eff := match s, off, ob id with
  | 1, 0, some (.row n [c]) => (match allInts ((List.range len).map c) with
    | some (.u8, l) => { d := .val (.string (strOfNums l)), vc := [len ≤ n] }
    | _ => bad)
  | _, _, _ => bad
def evConvS (P : Program) (ob : Heap) (src dst : TypeId) (d : DV) : Eff := match P.underlying src with
  | some (.slice e) => (match P.underlying e, P.underlying dst with
    | some (.int .u8), some .string => (match d with
      | .row s id off len => convRow ob len s off id
      | _ => bad)
    | _, _ => bad)
  | some _ => evConv P dst d
  | none => bad
def baseEff (s s' id r len n : Nat) (cols : List (Nat → DV)) : Option Int → Eff
  | some l => bif Nat.beq s s' && Nat.beq cols.length s then
      { d := .row s id 0 (len - l.toNat), hw := [(id, some (.srow (len - l.toNat) (cols.map fun c i => c (i + l.toNat)))), (r, none)], vc := [0 ≤ l ∧ l ≤ (len : Int) ∧ len ≤ n] } else bad
  | none => bad
def evSliceB (P : Program) (ob : Heap) (id : Nat) (t : TypeId) (x : DV) (lo : Option DV) : Option DV → Eff
  | none => match P.underlying t with
    | some (.slice e) => match tSize P e with
      | some s => match x with
        | .row s' r 0 len => match ob r with
          | some (.row n cols) => baseEff s s' id r len n cols (bnd 0 lo)
          | some (.srow n cols) => baseEff s s' id r len n cols (bnd 0 lo)
          | _ => bad
        | _ => bad
      | none => bad
    | _ => bad
  | some _ => bad
def evSliceO (P : Program) (oc : Orc) (id : Nat) (ob : Heap) (t : TypeId) (x : DV) (lo hi : Option DV) : Eff := match oc with
  | .base => evSliceB P ob id t x lo hi
  | _ => evSlice P ob t x lo hi
def hwHeap (hw : List (Nat × Option AObj)) : Heap := fun id => match look hw id with
  | some o => o
  | none => none
def frzEff (e : Eff) : Eff := match lend (hwHeap e.hw) e.d with
  | some (d, vc) => { d, hw := dropRows [e.d] ++ e.hw, vc := e.vc ++ vc }
  | none => bad
def frzO (oc : Orc) (e : Eff) : Eff := match oc with
  | .frz => frzEff e
  | _ => e
def lendA (ob : Heap) : DV → Option (DV × List Prop × List DV)
  | .agg cs => match lends ob cs with
    | some (es, vc) => some (.agg es, vc, cs)
    | none => none
  | d => bif d.closed then some (d, [], []) else none
def lendParts (ob : Heap) : List (Nat × DV) → Option (List (Nat × DV) × List Prop × List DV)
  | [] => some ([], [], [])
  | (i, d) :: r => match lendA ob d, lendParts ob r with
    | some (e, vc, cs), some (es, vcs, ds) => some ((i, e) :: es, vc ++ vcs, cs ++ ds)
    | _, _ => none
def partsEff (P : Program) (id : Nat) (t : TypeId) (len : Nat) : Option (List (Nat × DV) × List Prop × List DV) → Eff
  | some (ps, vc, ds) => { d := (evBuildSlice P id t len ps).d, hw := (evBuildSlice P id t len ps).hw ++ dropRows ds, vc := vc ++ (evBuildSlice P id t len ps).vc }
  | none => bad
def evBuildSliceF (P : Program) (oc : Orc) (id : Nat) (t : TypeId) (len : Nat) (ob : Heap) (parts : List (Nat × DV)) : Eff := match oc with
  | .frp => partsEff P id t len (lendParts ob parts)
  | oc => frzO oc (evBuildSlice P id t len parts)
def ksEq : KS → KS → Bool
  | .int, .int => true
  | .ints n, .ints m => Nat.beq n m
  | .str, .str => true
  | _, _ => false
def tZero1 (P : Program) (t : TypeId) : Option Value := match P.info? t with
  | some i => match i.zero with
    | some z => bif oneV z then some z else none
    | none => none
  | none => none
def mapTy (P : Program) (t : TypeId) : Option (KS × DV) := match P.underlying t with
  | some (.map k e) => match kShape P k, tZero1 P e with
    | some ks, some z => some (ks, .val z)
    | _, _ => none
  | _ => none
def sliceEl (P : Program) (t : TypeId) : Option DV := match P.underlying t with
  | some (.map _ e) => match P.underlying e with
    | some (.slice e1) => match tZero P e1 with
      | some [z] => some z
      | _ => none
    | _ => none
  | _ => none
def keyOfD (ks : KS) : DV → Option (List Int)
  | .val v => encK ks v
  | _ => none
def evMakeMap (P : Program) (id : Nat) (t : TypeId) : Eff :=
  match mapTy P t with
  | some (ks, z) => match sliceEl P t with
    | some z1 => { d := .mph id, hw := [(id, some (.gmap ks (fun _ => 0) (fun _ _ => z1) [] none))] }
    | none => { d := .mph id, hw := [(id, some (.map ks (fun _ => false) (fun _ => z) none))] }
  | none => bad
def lookRes (ok : Bool) (d : DV) (b : Bool) : Eff := match ok with
  | true => { d := .tup [d, .val (.bool b)] }
  | false => { d }
def evLookup (P : Program) (ob : Heap) (id : Nat) (t : TypeId) (x k : DV) (ok : Bool) : Eff :=
  match mapTy P t with
  | some (ks, z) => match keyOfD ks k with
    | some l => match x with
      | .mp ks' has col => bif ksEq ks ks' then lookRes ok (sel (has l) (col l) z) (has l) else bad
      | .val (.map none) => lookRes ok z false
      | .mph m => match ob m with
        | some (.map ks' has col _) => bif ksEq ks ks' then lookRes ok (sel (has l) (col l) z) (has l) else bad
        | some (.gmap ks' len col hot none) => bif ksEq ks ks' then (match ok, z with
          | false, .val (.slice none 0 0) => { d := .tok id m, hw := [(m, some (.gmap ks' len col ((id, l) :: hot) none)), (id, some .tok)] }
          | _, _ => bad) else bad
        | _ => bad
      | _ => bad
    | none => bad
  | none => bad
def putCol (l : List Int) (v : DV) (col : List Int → DV) : List Int → DV := fun l' => sel (decide (l' = l)) v (col l')
def putHas (l : List Int) (has : List Int → Bool) : List Int → Bool := fun l' => decide (l' = l) || has l'
def evMapUpdate (P : Program) (ob : Heap) (t : TypeId) (m k v : DV) : Eff :=
  match mapTy P t with
  | some (ks, _) => match keyOfD ks k with
    | some l => match m with
      | .mph mi => match ob mi with
        | some (.map ks' has col _) => bif ksEq ks ks' && (v.closed && v.one) then { hw := [(mi, some (.map ks' (putHas l has) (putCol l v col) none))] } else bad
        | some (.gmap ks' len col _ opn) => match v with
          | .row s r 0 n => match ob r with
            | some (.row n' [c]) => bif ksEq ks ks' && (Nat.beq s 1 && !(Nat.beq r mi)) then
                { hw := [(mi, some (.gmap ks' (fun l' => if l' = l then n else len l') (fun l' i => sel (decide (l' = l)) (c i) (col l' i)) [] none)), (r, none)],
                  vc := (n ≤ n') :: (match opn with | some l0 => [l0 = l] | none => []) } else bad
            | _ => bad
          | _ => bad
        | _ => bad
      | _ => bad
    | none => bad
  | none => bad
def evMapEntry (P : Program) (ob : Heap) (id : Nat) (t : TypeId) (m k : DV) : Eff :=
  match mapTy P t with
  | some (ks, z) => match keyOfD ks k with
    | some l => match m with
      | .mph mi => match ob mi with
        | some (.map ks' has col _) => bif ksEq ks ks' && z.closed then
            { d := .tup [sel (has l) (col l) z, .tok id mi], hw := [(mi, some (.map ks' (putHas l has) (putCol l (sel (has l) (col l) z) col) (some (id, l)))), (id, some .tok)] } else bad
        | _ => bad
      | _ => bad
    | none => bad
  | none => bad
def evEntryStore (ob : Heap) (m s v : DV) : Eff :=
  match m, s with
  | .mph mi, .tok t _ => match ob mi with
    | some (.map ks has col (some (t', l))) => bif Nat.beq t t' && (v.closed && v.one) then { hw := [(mi, some (.map ks has (putCol l v col) none))] } else bad
    | _ => bad
  | _, _ => bad
def evDelete (P : Program) (ob : Heap) (t : TypeId) (m k : DV) : Eff :=
  match mapTy P t with
  | some (ks, _) => match keyOfD ks k with
    | some l => match m with
      | .mph mi => match ob mi with
        | some (.map ks' has col _) => bif ksEq ks ks' then { d := .val (.tuple #[]), hw := [(mi, some (.map ks' (fun l' => !decide (l' = l) && has l') col none))] } else bad
        | _ => bad
      | _ => bad
    | none => bad
  | none => bad
def clrCols (off len : Nat) : List (Nat → DV) → List DV → List (Nat → DV)
  | c :: r, d :: q => (fun i => sel (decide (off ≤ i ∧ i < off + len)) d (c i)) :: clrCols off len r q
  | _, _ => []
def evClear (P : Program) (ob : Heap) (t : TypeId) : DV → Eff
  | .row s id off len => match P.underlying t with
    | some (.slice e) => match tSize P e, tZero P e, ob id with
      | some s', some z, some (.row n cols) => bif Nat.beq s s' && (Nat.beq cols.length s && (Nat.beq z.length s && (Nat.ble 1 s && DV.closed.go z))) then
          { d := .val (.tuple #[]), hw := [(id, some (.row n (clrCols off len cols z)))], vc := [off + len ≤ n] } else bad
      | _, _, _ => bad
    | _ => bad
  | _ => bad
def evOp (P : Program) (oc : Orc) (id : Nat) (o : Oper) (x : Operand → DV) (ob : Heap) : Eff :=
  match o.op with
  | .move y | .assign y => { d := x y }
  | .alloc t => evAlloc P id t
  | .box _ y => evBox id (x y)
  | .build t parts => evBuild P t (parts.toList.map fun (i, y) => (i, x y))
  | .buildSlice t len parts => evBuildSliceF P oc id t len ob (parts.toList.map fun (i, y) => (i, x y))
  | .makeSlice t y z => evMakeSliceO P oc id t (x y) (x z)
  | .load t y => evLoadO P ob id t (x y)
  | .slice t y lo hi mx => match mx with
    | none => evSliceO P oc id ob t (x y) (lo.map x) (hi.map x)
    | some _ => bad
  | .store t p y => evStoreO P ob t (x p) (x y)
  | .nilCheck y => match x y with
    | .ptr id j => { d := .ptr id j }
    | .rptr s id i j => { d := .rptr s id i j }
    | .cptr cs => { d := .cptr cs }
    | .clo f cs => { d := .clo f cs }
    | .bnd f cs => { d := .bnd f cs }
    | .val (.func (.func f) fs cs) => { d := .val (.func (.func f) fs cs) }
    | _ => bad
  | .binOp op t y z _ => match x y, x z, op with
    | .val (.bool a), .val (.bool b), .eql => evEq P false t (.val (.bool a)) (.val (.bool b))
    | .val (.bool a), .val (.bool b), .neq => evEq P true t (.val (.bool a)) (.val (.bool b))
    | .err b, .val .nilIface, .neq => evErr P t z b
    | d, e, op => match aggCells d with
      | some _ => evEqA P op t d e
      | none => evBin oc op d e
  | .unOp op _ y => evUn op (x y)
  | .convert src dst y => evConvS P ob src dst (x y)
  | .fieldAddr s y f => evFieldAddr P s (x y) f
  | .field t y f => evField P t (x y) f
  | .indexAddr t y i => evIndexAddr P ob t (x y) (x i)
  | .index t y i => evIndex P t (x y) (x i)
  | .makeMap t none => evMakeMap P id t
  | .lookup t y i ok => evLookup P ob id t (x y) (x i) ok
  | .mapUpdate t m k y => evMapUpdate P ob t (x m) (x k) (x y)
  | .mapEntry t m k => evMapEntry P ob id t (x m) (x k)
  | .entryStore _ m s y => evEntryStore ob (x m) (x s) (x y)
  | .extract y i => evExtract (x y) i
  | .makeFunc (.func f) first cap => match first.toList with
    | [] => { d := .clo f (cap.toList.map x) }
    | l => match cap.toList with
      | [] => { d := .bnd f (l.map x) }
      | _ => bad
  | .call c => match c.callee with
    | .builtin .len => match c.args.toList, c.argTypes.toList with
      | [y], [t] => evLen P ob t (x y)
      | _, _ => bad
    | .builtin .append => match c.args.toList, c.argTypes.toList with
      | [y, z], [t, t'] => bif Nat.beq t t' then frzO oc (evAppend P ob id t (x y) (x z)) else bad
      | _, _ => bad
    | .builtin .delete => match c.args.toList, c.argTypes.toList with
      | [y, z], t :: _ => evDelete P ob t (x y) (x z)
      | _, _ => bad
    | .builtin .clear => match c.args.toList, c.argTypes.toList with
      | [y], t :: _ => evClear P ob t (x y)
      | _, _ => bad
    | .builtin .min => match intsOf (c.args.toList.map x) with
      | some (n :: r) => { d := .val (.int .i64 (mins n r)) }
      | _ => bad
    | .builtin .max => match intsOf (c.args.toList.map x) with
      | some (n :: r) => { d := .val (.int .i64 (maxs n r)) }
      | _ => bad
    | .value y => match x y with
      | .val (.func (.func f) first cap) => match first.toList, cap.toList with
        | [], [] => evCall P oc id ob f (c.args.toList.map x)
        | _, _ => bad
      | .clo f cap => bif flatCaps cap then evCall P oc id ob f (c.args.toList.map x ++ cap) else bad
      | _ => bad
    | _ => bad
  | _ => bad
end Go.Abs
