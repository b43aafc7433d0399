/- What a variable holds, told as something that is only read: a row as a list, a map. A whole body: what is owed for it, as a tree; a function's contract out of it. -/
import Derived.Test.YtdhnfeoigmeopaaDoorAbsN
import Derived.Test.YtdhnfeoigmeopaaDoorAbsS
import Derived.Test.YtdhnfeoigmeopaaDoorAbsSB
import Derived.Test.YtdhnfeoigmeopaaDoorAbsQS
import Derived.Deep.LoopGhost
import Derived.RangeFuncWrites
import Derived.RangeFuncLeaves
import Derived.LoopNIn
section
namespace Go.Abs
open Go.RowKit
def frz1 (σ : St) (t j : Nat) : St × List Prop := match σ.get t with
  | .ptr id _ => match σ.obj id with
    | some (.box cs) => match cs[j]? with
      | some d => match lend σ.obj d with
        | some (e, vc) => ({ σ with h := (id, some (.box (cs.set j e))) :: (dropRows [d] ++ σ.h) }, vc)
        | none => (σ, [])
      | none => (σ, [])
    | _ => (σ, [])
  | _ => (σ, [])
def frzs (σ : St) : List (Nat × Nat) → St × List Prop
  | [] => (σ, [])
  | (t, j) :: r => match frz1 σ t j with
    | (σ', vc) => match frzs σ' r with
      | (σ2, vc2) => (σ2, vc ++ vc2)
section
variable {base : Nat} {w0 w : World} {S0 : Env} {σ : St} {kn : Nat → Prop} {blk : Nat → Option Loc} {a : Act}
theorem lend_notBox {id : Nat} {cs : List DV} (hob : σ.obj id = some (.box cs)) {d : DV} {p : DV × List Prop} (h : lend σ.obj d = some p) : id ∉ ownIds d := by
  intro hi
  cases d with
  | row s i off len =>
    obtain rfl := List.mem_singleton.1 hi
    simp only [lend, hob] at h; cases h
  | mph i =>
    obtain rfl := List.mem_singleton.1 hi
    simp only [lend, hob] at h; cases h
  | _ => simp [ownIds] at hi
theorem R.frz1 (r : R base w0 S0 σ kn blk a w) (t j : Nat) (hvc : AllP (frz1 σ t j).2) : ∃ blk', R base w0 S0 (frz1 σ t j).1 kn blk' a w := by
  unfold Abs.frz1 at hvc ⊢
  split
  · rename_i id o ht
    split
    · rename_i cs hob
      split
      · rename_i d hj
        split
        · rename_i e vc hle
          have hvc : AllP vc := by
            simp only [ht, hob, hj, hle] at hvc
            exact hvc
          have hnb := lend_notBox hob hle
          obtain ⟨blk', r', hsub, hgone⟩ := r.dropRows [d] (fun d' i v hd hi => by
            obtain rfl := List.mem_singleton.1 hd
            exact lend_is r hle i v hi)
          have hob' : St.obj { σ with h := Abs.dropRows [d] ++ σ.h } id = some (.box cs) := by
            unfold St.obj
            simp only [look_drop]
            rw [if_neg (fun h => by
              obtain ⟨d', hd, hi⟩ := rowIn_iff.1 h
              obtain rfl := List.mem_singleton.1 hd
              exact hnb hi)]
            exact hob
          obtain ⟨hk, g0, C, cv, T, hl, hh, hsz, hcell, hone⟩ := r'.objs _ _ hob'
          have hl0 := hsub _ _ hl
          obtain ⟨g1, C1, cv1, T1, hl1, hh1, _, hcell1, _⟩ := (r.objs _ _ hob).2
          rw [hl0] at hl1
          cases hl1
          rw [hh] at hh1
          cases hh1
          have hmono : ∀ ad u, rdOf w base S0 blk ad u → rdOf w base S0 blk' ad u := fun ad u ⟨x, y, z, q⟩ => ⟨x, fun id l e => y id l (hsub _ _ e), z, q⟩
          have hown : ∀ m l g, m ∈ ownIds d → blk m = some l → l.has g → ∀ ad u, ad.block = g → rdw w ad u → rdOf w base S0 blk' ad u := fun m l g' hm hbk hg ad u e hu => ⟨hu, fun id' l' e' hg' => (by
              have e3 := hsub _ _ e'
              rw [e] at hg'
              have := r.inj _ _ _ _ _ e3 hbk hg' hg
              rw [this, hgone d m List.mem_cons_self hm] at e'
              cases e'), e ▸ own_S r hbk hg, e ▸ own_low r hbk hg⟩
          refine ⟨blk', r'.turnL hl rfl rfl rfl rfl (fun _ _ => rfl) fun _ _ => ⟨g0, C, cv, T, rfl, hh, by rw [hsz, List.length_set], fun k d' u hd hu => ?_, hone⟩⟩
          rw [List.getElem?_set] at hd
          split at hd
          · rename_i hjk
            subst hjk
            split at hd
            · cases hd
              exact relC_open (lend_rd r hmono hown hle hvc (hcell1 j _ u hj hu)).1
            · cases hd
          · exact hcell k d' u hd hu
        · exact ⟨blk, r⟩
      · exact ⟨blk, r⟩
    · exact ⟨blk, r⟩
  · exact ⟨blk, r⟩
theorem frz1_nx (t j : Nat) : (frz1 σ t j).1.nx = σ.nx := by
  unfold frz1
  repeat' split
  all_goals rfl
theorem Fits.frz1 (h : Fits base w0 S0 σ a w) (t j : Nat) (hvc : AllP (frz1 σ t j).2) : Fits base w0 S0 (Abs.frz1 σ t j).1 a w := by
  obtain ⟨kn, blk, r, hn⟩ := h
  obtain ⟨blk', r'⟩ := r.frz1 t j hvc
  exact ⟨kn, blk', r', fun i hi => by rw [frz1_nx]; exact hn i hi⟩
theorem Fits.frzs : ∀ (l : List (Nat × Nat)) {σ : St}, Fits base w0 S0 σ a w → AllP (frzs σ l).2 → Fits base w0 S0 (Abs.frzs σ l).1 a w
  | [], _, h, _ => h
  | (t, j) :: r, σ, h, hvc => by
    simp only [Abs.frzs] at hvc ⊢
    obtain ⟨h1, h2⟩ := AllP.app hvc
    exact Fits.frzs r (h.frz1 t j h1) h2
end
end Go.Abs
end
section
namespace Go.Abs
open Go.RowKit
inductive VT : Type 1 where
  | need (ps : List Prop) (k : VT)
  | ite (b : Bool) (x y : VT)
  | done (ps : List Prop)
  | loop (ι : Type) (inv : ι → Prop) (i0 : ι) (start : List Prop) (round : ι → VT)
  | cut (ι : Type) (inv : ι → Prop) (x : VT) (rest : ι → VT)
def VT.holds : VT → Prop
  | .need ps k => AllT ps ∧ k.holds
  | .ite b x y => (b = true → x.holds) ∧ (b = false → y.holds)
  | .done ps => AllT ps
  | .loop _ inv i0 start round => AllT start ∧ inv i0 ∧ ∀ i, inv i → (round i).holds
  | .cut _ inv x rest => x.holds ∧ ∀ i, inv i → (rest i).holds
structure Note : Type 1 where
  ι : Type
  keep : List Nat
  boxes : List Nat
  ts : St → ι → List (Nat × DV)
  bx : St → ι → List (Nat × List DV) := fun _ _ => []
  rw : St → ι → List (Nat × Nat × Nat × List (Nat → DV)) := fun _ _ => []
  rb : St → ι → List (Nat × Nat × Nat × Nat × List (Nat → DV)) := fun _ _ => []
  mo : St → ι → List (Nat × Option Nat × AObj) := fun _ _ => []
  inv : St → ι → Prop
  mu : St → ι → Nat
  rd : St → St → ι
def pid : DV → Nat
  | .ptr id _ => id
  | _ => 0
def rid : DV → Option Nat
  | .row _ id _ _ => some id
  | _ => none
def keepT (σ : St) : List Nat → List (Nat × DV)
  | [] => []
  | t :: r => (t, σ.get t) :: keepT σ r
def rowT : List (Nat × Nat × Nat × List (Nat → DV)) → Nat → List (Nat × DV)
  | [], _ => []
  | (t, s, n, _) :: r, id => (t, .row s id 0 n) :: rowT r (id + 1)
def rowH : List (Nat × Nat × Nat × List (Nat → DV)) → Nat → List (Nat × Option AObj)
  | [], _ => []
  | (_, _, n, cols) :: r, id => (id, some (.row n cols)) :: rowH r (id + 1)
def rowR (σ' : St) : List (Nat × Nat × Nat × List (Nat → DV)) → Nat → Ren
  | [], _ => []
  | (t, _, _, _) :: r, id => (id, rid (σ'.get t)) :: rowR σ' r (id + 1)
def cellOf (σ : St) (j : Nat) : DV → DV
  | .ptr id _ => match σ.obj id with
    | some (.box cs) => match cs[j]? with
      | some d => d
      | none => .any
    | _ => .any
  | _ => .any
def rbH : List (Nat × Nat × Nat × Nat × List (Nat → DV)) → Nat → List (Nat × Option AObj)
  | [], _ => []
  | (_, _, _, n, cols) :: r, id => (id, some (.row n cols)) :: rbH r (id + 1)
def rbR (σ' : St) : List (Nat × Nat × Nat × Nat × List (Nat → DV)) → Nat → Ren
  | [], _ => []
  | (t, j, _, _, _) :: r, id => (id, rid (cellOf σ' j (σ'.get t))) :: rbR σ' r (id + 1)
def mid : DV → Nat
  | .mph id => id
  | .row _ id _ _ => id
  | .grd _ id _ => id
  | _ => 0
def atT (σ : St) (t : Nat) : Option Nat → DV
  | none => σ.get t
  | some j => cellOf σ j (σ.get t)
def mapH (σ : St) : List (Nat × Option Nat × AObj) → List (Nat × Option AObj)
  | [] => []
  | (t, j, o) :: r => (mid (atT σ t j), some o) :: mapH σ r
def mapR (σ σ' : St) : List (Nat × Option Nat × AObj) → Ren
  | [] => []
  | (t, j, _) :: r => (mid (atT σ t j), some (mid (atT σ' t j))) :: mapR σ σ' r
def boxH (σ : St) : List (Nat × List DV) → List (Nat × Option AObj)
  | [] => []
  | (t, cs) :: r => (pid (σ.get t), some (.box cs)) :: boxH σ r
def boxR (σ σ' : St) : List (Nat × List DV) → Ren
  | [] => []
  | (t, _) :: r => (pid (σ.get t), some (pid (σ'.get t))) :: boxR σ σ' r
def keepH (σ : St) : List Nat → List (Nat × Option AObj)
  | [] => []
  | t :: r => (pid (σ.get t), σ.obj (pid (σ.get t))) :: keepH σ r
def keepR (σ σ' : St) : List Nat → Ren
  | [] => []
  | t :: r => (pid (σ.get t), some (pid (σ'.get t))) :: keepR σ σ' r
def Note.st (C : Note) (σ : St) (i : C.ι) : St where
  t := C.ts σ i ++ (rowT (C.rw σ i) σ.nx ++ keepT σ C.keep)
  h := rowH (C.rw σ i) σ.nx ++ (rbH (C.rb σ i) (σ.nx + 50) ++ (mapH σ (C.mo σ i) ++ (boxH σ (C.bx σ i) ++ keepH σ C.boxes)))
  nx := σ.nx + 100
  nt := σ.nt
  rn := σ.rn
  lo := σ.lo
def Note.rn (C : Note) (σ σ' : St) (i : C.ι) : Ren := rowR σ' (C.rw σ i) σ.nx ++ (rbR σ' (C.rb σ i) (σ.nx + 50) ++ (mapR σ σ' (C.mo σ i) ++ (boxR σ σ' (C.bx σ i) ++ keepR σ σ' C.boxes)))
def Note.at (C : Note) (σ σ' : St) : List Prop := weakVC (C.rn σ σ' (C.rd σ σ')) σ' (C.st σ (C.rd σ σ'))
structure RNote : Type 1 where
  N : Nat
  enc : Nat → List Value
  keep : List Nat
  boxes : List Nat
  bx : St → List Nat → List (Nat × List DV) := fun _ _ => []
  rb : St → List Nat → List (Nat × Nat × Nat × Nat × List (Nat → DV)) := fun _ _ => []
  mo : St → List Nat → List (Nat × Option Nat × AObj) := fun _ _ => []
  inv : St → List Nat → Prop
def RNote.note (C : RNote) : Note := { ι := List Nat, keep := C.keep, boxes := C.boxes, ts := fun _ _ => [], bx := C.bx, rb := C.rb, mo := C.mo, inv := C.inv, mu := fun _ _ => 0, rd := fun _ _ => [] }
def RNote.st (C : RNote) (σ : St) (i : List Nat) : St := C.note.st σ i
def RNote.at (C : RNote) (σ σ' : St) (i : List Nat) : List Prop := weakVC (C.note.rn σ σ' i) σ' (C.note.st σ i)
def outSt (C : RNote) (σ σ' : St) : St := { t := keepT σ C.keep, h := σ'.h, nx := σ'.nx, nt := σ.nt, rn := σ.rn, lo := σ.lo }
structure Ann : Type 1 where
  orc : List (Nat × List (Nat × Orc))
  loops : List (Nat × Note)
  cuts : List (Nat × Note)
  rngs : List (Nat × RNote) := []
  unroll : List (Nat × Nat) := []
  dec : List Nat := []
  frzs : List (Nat × List (Nat × Nat)) := []
  exts : List (Nat × (Code → Code → St → (Exit → St → VT) → VT)) := []
def look1 {α : Type 1} : List (Nat × α) → Nat → Option α
  | [], _ => none
  | (k, v) :: r, i => bif Nat.beq k i then some v else look1 r i
def orcsAt (l : List (Nat × List (Nat × Orc))) (k : Nat) : List (Nat × Orc) := match look l k with
  | some o => o
  | none => []
def firstRegion : Code → Option Nat
  | .region id _ _ => some id
  | .seq a b => match firstRegion a with
    | some n => some n
    | none => firstRegion b
  | .block _ c => firstRegion c
  | .loop c => firstRegion c
  | _ => none
def cutAt (A : Ann) (c : Code) : Option Note := match A.cuts with
  | [] => none
  | l => match firstRegion c with
    | some n => look1 l n
    | none => none
def preSt (A : Ann) (c : Code) (σ : St) : St × List Prop := match A.frzs with
  | [] => (σ, [])
  | l => match firstRegion c with
    | some n => match look l n with
      | some ps => frzs σ ps
      | none => (σ, [])
    | none => (σ, [])
theorem Fits.pre {A : Ann} {c : Code} {base : Nat} {w0 w : World} {S0 : Env} {σ : St} {a : Act} (h : Fits base w0 S0 σ a w) (hvc : AllP (preSt A c σ).2) : Fits base w0 S0 (preSt A c σ).1 a w := by
  unfold preSt at hvc ⊢
  split
  · exact h
  · split
    · split
      · rename_i h0 _ _ h1 _ _ h2
        simp only [h1, h2] at hvc
        exact h.frzs _ hvc
      · exact h
    · exact h
def extAt (A : Ann) : Code → Option (Code → Code → St → (Exit → St → VT) → VT)
  | .region id _ _ => look1 A.exts id
  | _ => none
def calmC (A : Ann) : Code → Bool
  | .seq a b => bif calmC A a then (bif calmC A b then (match cutAt A b, extAt A a with | none, none => true | _, _ => false) else false) else false
  | .cond _ a b => bif calmC A a then calmC A b else false
  | .block _ (.loop _) => false
  | .block _ (.rangeFunc ..) => false
  | .block _ c => calmC A c
  | .skip | .label _ | .ret | .exit _ | .region .. => true
  | _ => false
def rdAll (w : World) (B : Nat) : Rd := fun a u => rdw w a u ∧ (isMapAt w a.block → a.block < B)
def KpC (caps : List DV) (lb : Array Value) (N : Nat) (A B : World) : Prop := (∀ (j : Nat) (d : DV) (v : Value), caps[j]? = some d → lb[j]? = some v → RelC (rdAll A N) d v → RelC (rdAll B N) d v) ∧ (GlobOK (rdAll A N) → GlobOK (rdAll B N))
def SeqC (P : Program) (gf : FuncId) (caps : List DV) (N : Nat) (enc : Nat → List Value) : Prop :=
  Callable P gf ∧ ∀ (m : Nat) (lb : Array Value) (w : World), lb.size = caps.length → (∀ (j : Nat) (d : DV) (v : Value), caps[j]? = some d → lb[j]? = some v → RelC (rdAll w w.heap.size) d v) → GlobOK (rdAll w w.heap.size) →
    SeqStopsK Fence.wide m P gf lb (fun x : { x : Nat // x < N } => (enc x.1).toArray) (KpC caps lb w.heap.size) (fun xs => xs.map (·.1) = List.range N) (fun _ => True) N w
def asgOps : List Oper → Option (List (Tmp × Tmp))
  | [] => some []
  | o :: r => match o.op, o.dst, o.guard, asgOps r with
    | .assign (.tmp s), some d, none, some l => some ((d, s) :: l)
    | .move (.tmp s), some d, none, some l => some ((d, s) :: l)
    | _, _, _, _ => none
def asgOf : Code → Option (List (Tmp × Tmp))
  | .region _ ops false => asgOps ops.toList
  | .seq a b => match asgOf a, asgOf b with
    | some l, some l' => some (l ++ l')
    | _, _ => none
  | .skip => some []
  | _ => none
def runAsg : List (Tmp × Tmp) → Act → Act
  | [], a => a
  | (d, s) :: l, a => runAsg l (a.put (some d) (a.tmps.getD s undef))
def runAsgD : List (Tmp × Tmp) → St → St
  | [], σ => σ
  | (d, s) :: l, σ => runAsgD l (σ.put d (σ.get s))
def bindP : List Tmp → List Value → St → St
  | p :: ps, v :: vs, σ => bindP ps vs (σ.put p (.val v))
  | _, _, σ => σ
def roundSt (C : RNote) (σ : St) (ps : List Tmp) (l : List (Tmp × Tmp)) (pre : List Nat) (x : Nat) : St := runAsgD l (bindP ps (C.enc x) { C.st σ pre with rn := true })
def asgFits (nt : Nat) : List (Tmp × Tmp) → Bool
  | [] => true
  | (d, _) :: l => bif Nat.blt d nt then asgFits nt l else false
def allLt (nt : Nat) : List Tmp → Bool
  | [] => true
  | p :: l => bif Nat.blt p nt then allLt nt l else false
def gKept (keep : List Nat) : Operand → Bool
  | .tmp t => keep.any (Nat.beq t)
  | _ => false
def unrollOf (A : Ann) (id : Nat) : Nat := match look A.unroll id with
  | some n => n
  | none => 0
def unrollE (f : St → (Exit → St → VT) → VT) (id : Nat) (K : Exit → St → VT) : Nat → St → VT
  | 0, _ => .done [False]
  | n + 1, σ => f σ fun e σ' => match e with
    | .normal => unrollE f id K n σ'
    | .exit j => bif Nat.beq j id then K .normal σ' else K (.exit j) σ'
    | e => K e σ'
def sureOf (A : Ann) : Operand → Bool
  | .tmp t => A.dec.any (Nat.beq t)
  | _ => false
def mkIf (s p : Bool) (a b : VT) : VT := bif s then (bif p then a else b) else .ite p a b
theorem mkIf_holds {s p : Bool} {a b : VT} (h : (mkIf s p a b).holds) : (VT.ite p a b).holds := by
  unfold mkIf at h
  cases s
  · exact h
  · cases p
    · exact ⟨fun h => (by cases h), fun _ => h⟩
    · exact ⟨fun _ => h, fun h => (by cases h)⟩
def evalCode (P : Program) (A : Ann) : Code → St → (Exit → St → VT) → VT
  | .skip, σ, K => K .normal σ
  | .label _, σ, K => K .normal σ
  | .ret, σ, K => K .ret σ
  | .exit id, σ, K => K (.exit id) σ
  | .region id ops draw, σ, K =>
    match regionOut P ops (orcsAt A.orc id) σ with
    | (σ', vcs) => bif draw then (bif drawOK P ops (orcsAt A.orc id) σ then (match vcs with | [] => K .normal σ' | vcs => .need vcs (K .normal σ')) else (match drawSoft P ops (orcsAt A.orc id) σ with | some p => .need (vcs ++ [p]) (K .normal σ') | none => .done [False]))
      else (match vcs with | [] => K .normal σ' | vcs => .need vcs (K .normal σ'))
  | .seq a b, σ, K => match cutAt A b with
    | none => match extAt A a with
     | some E => E a b σ K
     | none => evalCode P A a σ fun e σ' => match e with
      | .normal => match preSt A b σ' with
        | (σ1, vcs) => match vcs with
          | [] => evalCode P A b σ1 K
          | vcs => .need vcs (evalCode P A b σ1 K)
      | e => K e σ'
    | some C => .cut C.ι (C.inv σ) (evalCode P A a σ fun e σ' => match e with
      | .normal => .done (C.at σ σ' ++ [C.inv σ (C.rd σ σ')])
      | e => K e σ') fun i => evalCode P A b (C.st σ i) K
  | .cond c a b, σ, K => match σ.ev c with
    | .val (.bool p) => mkIf (sureOf A c) p (evalCode P A a σ K) (evalCode P A b σ K)
    | _ => .done [False]
  | .block id (.loop body), σ, K => match look1 A.loops id with
    | some C => .loop C.ι (C.inv σ) (C.rd σ σ) (C.at σ σ) fun i => evalCode P A body (C.st σ i) fun e σ' => match e with
      | .normal => .done (C.at σ σ' ++ [C.inv σ (C.rd σ σ'), C.mu σ (C.rd σ σ') < C.mu σ i])
      | .exit j => bif Nat.beq j id then K .normal σ' else K (.exit j) σ'
      | e => K e σ'
    | none => unrollE (evalCode P A body) id K (unrollOf A id) σ
  | .block id (.rangeFunc g ps asg body), σ, K => match look1 A.rngs id, σ.ev g with
    | some C, .clo gf caps => match asgOf asg with
     | some l => bif !trk && (Nat.beq σ.lo 0 && calmC A body) && (DV.closed.go caps && (gKept C.keep g && (asgFits σ.nt l && allLt σ.nt ps.toList))) then
        .need (SeqC P gf caps C.N C.enc :: (∀ k, k < C.N → (C.enc k).length = ps.size) :: (C.at σ σ [] ++ [C.inv σ []]))
          (.cut (List Nat × Nat) (fun q => C.inv σ q.1 ∧ q.2 < C.N ∧ q.1.length < C.N ∧ ∀ y ∈ q.1, y < C.N)
            (.cut Unit (fun _ => C.inv σ (List.range C.N)) (.done []) fun _ => K .normal (C.st σ (List.range C.N)))
            fun q => evalCode P A body (roundSt C σ ps.toList l q.1 q.2) fun e σ' => match e with
              | .normal => .done (C.at σ (outSt C σ σ') (q.1 ++ [q.2]) ++ [C.inv σ (q.1 ++ [q.2])])
              | .ret => K .ret (outSt C σ σ')
              | .exit j => bif Nat.beq j id then K .normal (outSt C σ σ') else K (.exit j) (outSt C σ σ')
              | _ => .done [False])
      else .done [False]
     | none => .done [False]
    | some C, .bnd gf fs => bif Nat.beq σ.lo 0 && (calmC A asg && calmC A body) && (DV.closed.go fs && allLt σ.nt ps.toList) then
        .need (SeqB P gf fs C.N C.enc :: (∀ k, k < C.N → (C.enc k).length = ps.size) :: (C.at σ σ [0] ++ [C.inv σ [0]]))
          (.cut Nat (fun x => C.inv σ [x] ∧ x < C.N)
            (.cut Unit (fun _ => C.inv σ [C.N]) (.done []) fun _ => K .normal (C.st σ [C.N]))
            fun x => evalCode P A asg (bindP ps.toList (C.enc x) { C.st σ [x] with rn := true }) fun e σ1 => match e with
              | .normal => evalCode P A body σ1 fun e σ' => match e with
                | .normal => .done (C.at σ (outSt C σ σ') [x + 1] ++ [C.inv σ [x + 1]])
                | .ret => K .ret (outSt C σ σ')
                | .exit j => bif Nat.beq j id then K .normal (outSt C σ σ') else K (.exit j) (outSt C σ σ')
                | _ => .done [False]
              | _ => .done [False])
      else .done [False]
    | _, _ => .done [False]
  | .block id c, σ, K => evalCode P A c σ fun e σ' => match e with
    | .exit j => bif Nat.beq j id then K .normal σ' else K (.exit j) σ'
    | e => K e σ'
  | _, _, _ => .done [False]
theorem loop_ghost_in {F : Fence} {rm : Nat} {P : Program} {Q : Exit → Act → World → Prop} {a : Act} {w : World} {c : Code} (I : Nat → Act → World → Prop) (n₀ : Nat) (h₀ : I n₀ a w)
    (round : ∀ n a w, I n a w → c.wpIn F rm P (Exit.then (fun a' w' => ∃ n', n' < n ∧ I n' a' w') Q) a w) : (Code.loop c).wpIn F rm P Q a w := by
  refine wpIn_loop (fun a w => ∃ n, I n a w) (fun a w => leastOf (fun n => I n a w)) ⟨n₀, h₀⟩ ?_
  intro a w hI
  refine wpIn_mono (round _ a w (leastOf_spec hI).1) ?_
  intro e a' w' hq
  cases e with
  | normal =>
    obtain ⟨n', hlt, hI'⟩ := hq
    exact show (∃ n, I n a' w') ∧ leastOf (fun n => I n a' w') < leastOf (fun n => I n a w) from ⟨⟨n', hI'⟩, Nat.lt_of_le_of_lt ((leastOf_spec ⟨n', hI'⟩).2 n' hI') hlt⟩
  | _ => exact hq
section
variable {P : Program} {A : Ann} {ro : Option Nat} {m : Nat} {base : Nat} {w0 : World} {S0 : Env}
theorem need_holds {vcs : List Prop} {k : VT} (h : (match vcs with | [] => k | vcs => .need vcs k).holds) : AllT vcs ∧ k.holds := by
  cases vcs with
  | nil => exact ⟨trivial, h⟩
  | cons p r => exact h
def ExtOK (P : Program) (E : Code → Code → St → (Exit → St → VT) → VT) : Prop := ∀ (m : Nat) (base : Nat) (w0 : World) (S0 : Env), S0.sh = [] → S0.wb = none → 1 ≤ m → ∀ (a b : Code) (σ : St) (K : Exit → St → VT) (Q : Exit → Act → World → Prop), (E a b σ K).holds →
  (∀ e σ', (K e σ').holds → ∀ a w, Fits base w0 S0 σ' a w → Q e a w) → ∀ ac w, Fits base w0 S0 σ ac w → (Code.seq a b).wpIn (FW none) m P Q ac w
def ExtsOK (P : Program) (A : Ann) : Prop := ∀ id E, look1 A.exts id = some E → ExtOK P E
theorem extsOK_nil {P : Program} {A : Ann} (h : A.exts = []) : ExtsOK P A := fun id E e => by rw [h] at e; cases e
def SoundAt (P : Program) (A : Ann) (ro : Option Nat) (m : Nat) (base : Nat) (w0 : World) (S0 : Env) (c : Code) : Prop := (((S0.sh = [] ∧ S0.wb = none) ∧ ro = none ∧ 1 ≤ m) ∨ calmC A c = true) → ∀ (σ : St) (K : Exit → St → VT) (Q : Exit → Act → World → Prop), (evalCode P A c σ K).holds →
    (∀ e σ', (K e σ').holds → ∀ a w, Fits base w0 S0 σ' a w → Q e a w) → ∀ a w, Fits base w0 S0 σ a w → c.wpIn (FW ro) m P Q a w
theorem asgOps_sound {ops : Array Oper} {Q : Exit → Act → World → Prop} {w : World} : ∀ (lst : List Oper) (k : Nat) {l : List (Tmp × Tmp)} {a : Act}, (∀ j, lst[j]? = ops[k + j]?) → asgOps lst = some l → Q .normal (runAsg l a) w → wpOpsIn (FW ro) m P ops Q (List.range' k lst.length) a w
  | [], k, l, a, _, h, hq => by
    cases h
    exact hq
  | o :: r, k, l, a, hl, h, hq => by
    have h0 : ops[k]? = some o := by simpa using (hl 0).symm
    have go : ∀ (s d : Tmp) (l' : List (Tmp × Tmp)), (o.op = .assign (.tmp s) ∨ o.op = .move (.tmp s)) → o.dst = some d → o.guard = none → asgOps r = some l' → l = (d, s) :: l' → wpOpsIn (FW ro) m P ops Q (List.range' k (o :: r).length) a w := by
      intro s d l' hop hd hg hr' hl'
      subst hl'
      simp only [List.length_cons, List.range'_succ, wpOpsIn, h0]
      rw [if_pos (by simp [Region.wanted, hg])]
      refine ⟨fun _ _ => trivial, ?_⟩
      rw [Oper.semAt_eq _ _ _ (fun c h => by rcases hop with e | e <;> rw [e] at h <;> cases h)]
      have hrun : (execOp a.eval o).run P w = .ok (.value (a.tmps.getD s undef)) w := by
        unfold execOp
        rcases hop with e | e <;> rw [e] <;> rfl
      rw [hrun, Oper.uponIn_value, hd]
      exact asgOps_sound r (k + 1) (fun j => by have := hl (j + 1); simpa [Nat.add_assoc, Nat.add_comm 1 j] using this) hr' hq
    unfold asgOps at h
    split at h
    · rename_i s d l' e1 e2 e3 e4
      exact go s d l' (.inl e1) e2 e3 e4 (by cases h; rfl)
    · rename_i s d l' e1 e2 e3 e4
      exact go s d l' (.inr e1) e2 e3 e4 (by cases h; rfl)
    · cases h
theorem runAsg_app : ∀ (l l' : List (Tmp × Tmp)) (a : Act), runAsg (l ++ l') a = runAsg l' (runAsg l a)
  | [], _, _ => rfl
  | (d, s) :: l, l', a => runAsg_app l l' _
theorem asg_sound {w : World} : ∀ (c : Code) {l : List (Tmp × Tmp)} {a : Act} {K : Act → World → Prop}, asgOf c = some l → K (runAsg l a) w → c.wpIn (FW ro) m P (Exit.then K (fun _ _ _ => False)) a w := by
  intro c
  induction c with
  | skip => intro l a K h hk; cases h; exact wpIn_skip hk
  | region id ops draw =>
    intro l a K h hk
    cases draw with
    | true => cases h
    | false =>
      refine wpIn_region ?_
      rw [List.range_eq_range', ← Array.length_toList]
      exact asgOps_sound ops.toList 0 (fun j => by simp) h hk
  | seq x y ihx ihy =>
    intro l a K h hk
    simp only [asgOf] at h
    split at h
    · rename_i l1 l2 h1 h2
      cases h
      rw [runAsg_app] at hk
      refine wpIn_seq (wpIn_mono (ihx (K := fun a w => y.wpIn (FW ro) m P (Exit.then K (fun _ _ _ => False)) a w) h1 ?_) fun e a w hq => ?_)
      · exact ihy h2 hk
      · cases e <;> first | exact hq | exact hq.elim
    · cases h
  | _ => intro l a K h hk; cases h
theorem R.bindP {kn : Nat → Prop} {blk : Nat → Option Loc} {w : World} : ∀ (ps : List Tmp) (vs : List Value) {σ : St} {a : Act}, σ.lo = 0 → allLt σ.nt ps = true → R base w0 S0 σ kn blk a w →
    R base w0 S0 (Abs.bindP ps vs σ) kn blk { a with tmps := (ps.zip vs).foldl (fun t (pv : Tmp × Value) => t.setIfInBounds pv.1 pv.2) a.tmps } w
  | [], _, σ, a, _, _, r => r
  | p :: ps, [], σ, a, _, _, r => r
  | p :: ps, v :: vs, σ, a, hlo, h, r => by
    simp only [allLt] at h
    cases hp : Nat.blt p σ.nt with
    | false => simp [hp] at h
    | true =>
      simp only [hp, cond_true] at h
      exact R.bindP ps vs (σ := σ.put p (.val v)) (a := a.put (some p) v) hlo h (r.put (Nat.le_of_ble_eq_true hp) (by rw [hlo]; exact Nat.zero_le _) (.val v))
theorem R.asg {kn : Nat → Prop} {blk : Nat → Option Loc} {w : World} : ∀ (l : List (Tmp × Tmp)) {σ : St} {a : Act}, σ.lo = 0 → asgFits σ.nt l = true → R base w0 S0 σ kn blk a w → R base w0 S0 (runAsgD l σ) kn blk (runAsg l a) w
  | [], σ, a, _, _, r => r
  | (d, s) :: l, σ, a, hlo, h, r => by
    simp only [asgFits] at h
    cases hp : Nat.blt d σ.nt with
    | false => simp [hp] at h
    | true =>
      simp only [hp, cond_true] at h
      exact R.asg l (σ := σ.put d (σ.get s)) (a := a.put (some d) (a.tmps.getD s undef)) hlo h (r.put (Nat.le_of_ble_eq_true hp) (by rw [hlo]; exact Nat.zero_le _) (r.tmps s))
theorem bindP_nt : ∀ (ps : List Tmp) (vs : List Value) (σ : St), (Abs.bindP ps vs σ).nt = σ.nt
  | [], _, _ => rfl
  | _ :: _, [], _ => rfl
  | _ :: ps, _ :: vs, σ => bindP_nt ps vs _
theorem bindP_nx : ∀ (ps : List Tmp) (vs : List Value) (σ : St), (Abs.bindP ps vs σ).nx = σ.nx
  | [], _, _ => rfl
  | _ :: _, [], _ => rfl
  | _ :: ps, _ :: vs, σ => bindP_nx ps vs _
theorem bindP_lo : ∀ (ps : List Tmp) (vs : List Value) (σ : St), (Abs.bindP ps vs σ).lo = σ.lo
  | [], _, _ => rfl
  | _ :: _, [], _ => rfl
  | _ :: ps, _ :: vs, σ => bindP_lo ps vs _
theorem runAsgD_nx : ∀ (l : List (Tmp × Tmp)) (σ : St), (runAsgD l σ).nx = σ.nx
  | [], _ => rfl
  | (_, _) :: l, σ => runAsgD_nx l _
theorem look_keepT {σ : St} {t : Nat} : ∀ {l : List Nat}, t ∈ l → look (keepT σ l) t = some (σ.get t)
  | x :: l, h => by
    simp only [keepT, look_cons]
    by_cases e : x = t
    · rw [if_pos e, e]
    · rw [if_neg e]; exact look_keepT ((List.mem_cons.1 h).resolve_left fun e' => e e'.symm)
theorem look_keepT_inv {σ : St} {t : Nat} {d : DV} : ∀ {l : List Nat}, look (keepT σ l) t = some d → t ∈ l ∧ d = σ.get t
  | [], h => by simp [keepT, look] at h
  | x :: l, h => by
    simp only [keepT, look_cons] at h
    by_cases e : x = t
    · rw [if_pos e] at h
      exact ⟨by rw [e]; exact List.mem_cons_self, by rw [← e]; exact (Option.some.inj h).symm⟩
    · rw [if_neg e] at h
      obtain ⟨h1, h2⟩ := look_keepT_inv h
      exact ⟨List.mem_cons_of_mem _ h1, h2⟩
def rngK (P : Program) (A : Ann) (C : RNote) (σ : St) (id : Nat) (q : List Nat × Nat) (K : Exit → St → VT) : Exit → St → VT := fun e σ' => match e with
  | .normal => .done (C.at σ (outSt C σ σ') (q.1 ++ [q.2]) ++ [C.inv σ (q.1 ++ [q.2])])
  | .ret => K .ret (outSt C σ σ')
  | .exit j => bif Nat.beq j id then K .normal (outSt C σ σ') else K (.exit j) (outSt C σ σ')
  | _ => .done [False]
theorem tmpsVC_rn {ρ : Ren} {σ : St} {b : Bool} : ∀ (l : List (Nat × DV)), tmpsVC ρ { σ with rn := b } l = tmpsVC ρ σ l
  | [] => rfl
  | (t, d) :: r => by
    simp only [tmpsVC]
    rw [tmpsVC_rn r]
    rfl
theorem weakVC_rn {ρ : Ren} {σ σ' : St} {b c : Bool} : weakVC ρ { σ with rn := b } { σ' with rn := c } = weakVC ρ σ σ' := by
  unfold weakVC
  rw [tmpsVC_rn]
  rfl
theorem ObjRel.rd {w : World} {rd rd' : Rd} {kn : Nat → Prop} {blk : Nat → Option Loc} {l : Option Loc} {o : AObj} (hm : ∀ a u, rd a u → rd' a u) (h : ObjRel w rd kn blk l o) : ObjRel w rd' kn blk l o := by
  have rel : ∀ {d v}, Rel rd kn blk d v → Rel rd' kn blk d v := fun h => h.mono hm (fun _ h => h) fun _ _ _ h => ⟨_, h, rfl⟩
  have relc : ∀ {d v}, RelC rd d v → RelC rd' d v := fun h => h.mono hm (fun _ h => h) fun _ _ h => h.elim
  cases o with
  | box cs =>
    obtain ⟨g, C, cv, T, hl, hh, hs, hr, h1⟩ := h
    exact ⟨g, C, cv, T, hl, hh, hs, fun j d u a b => rel (hr j d u a b), h1⟩
  | row n cols =>
    rcases h with ⟨hl, hn⟩ | ⟨g, C, cv, T, hl, hh, hs, hn, hr⟩
    · exact .inl ⟨hl, hn⟩
    · exact .inr ⟨g, C, cv, T, hl, hh, hs, hn, fun i j f a b => let ⟨u, e, o, q⟩ := hr i j f a b; ⟨u, e, o, relc q⟩⟩
  | srow n cols =>
    rcases h with ⟨hl, hn⟩ | ⟨g, o, C, cv, T, hl, hh, hs, hn, hr⟩
    · exact .inl ⟨hl, hn⟩
    · exact .inr ⟨g, o, C, cv, T, hl, hh, hs, hn, fun i j f a b => let ⟨u, e, o, q⟩ := hr i j f a b; ⟨u, e, o, relc q⟩⟩
  | map ks has col hot =>
    obtain ⟨g, es, clock, hl, hh, hM, hst, hhot⟩ := h
    exact ⟨g, es, clock, hl, hh, hM.mono relc, hst, hhot⟩
  | gmap ks len col hot opn =>
    obtain ⟨g, bs, es, clock, hl, hh, hG, hbs, hhot⟩ := h
    exact ⟨g, bs, es, clock, hl, hh, hG.mono relc (fun _ _ => rfl), hbs, hhot⟩
  | grid n s len col opn =>
    obtain ⟨g, C, bs, cv, T, hl, hh, hsz, hnC, hG, hbs⟩ := h
    exact ⟨g, C, bs, cv, T, hl, hh, hsz, hnC, hG.mono relc (fun _ _ => rfl), hbs⟩
  | tok => exact h
  | exact g o => exact h
def Env.round (S0 : Env) (B : Nat) : Env := { S0 with wb := some B }
theorem R.inRound {S0 : Env} {σ : St} {kn : Nat → Prop} {blk : Nat → Option Loc} {a : Act} {w : World} (r : R base w0 S0 σ kn blk a w) : R base w0 (S0.round w.heap.size) { σ with rn := true } kn blk a w := by
  have hm : ∀ ad u, rdOf w base S0 blk ad u → rdOf w base (S0.round w.heap.size) blk ad u := fun ad u ⟨x, y, z, _⟩ => ⟨x, y, z, fun B hB _ => by cases hB; exact rdw_lt x⟩
  have rel : ∀ {d v}, Rel (rdOf w base S0 blk) kn blk d v → Rel (rdOf w base (S0.round w.heap.size) blk) kn blk d v := fun h => h.mono hm (fun _ h => h) fun _ _ _ h => ⟨_, h, rfl⟩
  exact ⟨r.below, r.xs, r.hbase, r.dfr, ⟨r.kpo.1, fun B hB => ⟨r.kpo.1, fun k o hBk ho _ => by
    cases hB
    have := heap_lt ho; have := r.kpo.1; have h3 : S0.wr.heap.size ≤ w.heap.size := r.kpo.1
    exact absurd (heap_lt ho) (by show ¬ k < S0.wr.heap.size; omega)⟩, r.kpo.2.2⟩, fun _ => rfl, fun B hB id g bs e => by cases hB; exact (r.ge id _ g e (.inl rfl)).2, fun d v h => rel (r.shp d v h), r.size, fun t => rel (r.tmps t), fun id o h => ⟨(r.objs id o h).1, (r.objs id o h).2.rd hm⟩, r.inj, r.ge, r.live, r.pin⟩
theorem Fits.inRound {S0 : Env} {σ : St} {a : Act} {w : World} (hf : Fits base w0 S0 σ a w) : Fits base w0 (S0.round w.heap.size) { σ with rn := true } a w :=
  let ⟨_, _, r, hk⟩ := hf
  ⟨_, _, r.inRound, hk⟩
theorem Fits.outRound {S0 : Env} {B : Nat} {σ : St} {a : Act} {w : World} (hwb : S0.wb = none) (b : Bool) (hf : Fits base w0 (S0.round B) σ a w) : Fits base w0 S0 { σ with rn := b } a w := by
  obtain ⟨kn, blk, r, hk⟩ := hf
  have hm : ∀ ad u, rdOf w base (S0.round B) blk ad u → rdOf w base S0 blk ad u := fun ad u ⟨x, y, z, _⟩ => ⟨x, y, z, fun B hB => by rw [hwb] at hB; cases hB⟩
  have rel : ∀ {d v}, Rel (rdOf w base (S0.round B) blk) kn blk d v → Rel (rdOf w base S0 blk) kn blk d v := fun h => h.mono hm (fun _ h => h) fun _ _ _ h => ⟨_, h, rfl⟩
  exact ⟨kn, blk, ⟨r.below, r.xs, r.hbase, r.dfr, ⟨r.kpo.1, (fun B hB => by rw [hwb] at hB; cases hB), r.kpo.2.2⟩, (fun h => absurd hwb h), (fun B hB => by rw [hwb] at hB; cases hB), fun d v h => rel (r.shp d v h), r.size, fun t => rel (r.tmps t), fun id o h => ⟨(r.objs id o h).1, (r.objs id o h).2.rd hm⟩, r.inj, r.ge, r.live, r.pin⟩, hk⟩
def rngI (base : Nat) (w0 : World) (S1 : Env) (C : RNote) (σ : St) (a : Act) (pre : List { x : Nat // x < C.N }) (W : World) : Prop := C.inv σ (pre.map (·.1)) ∧ Fits base w0 S1 { C.st σ (pre.map (·.1)) with rn := true } a W
theorem range_sound {C : RNote} {σ : St} {a : Act} {w : World} {id : Nat} {g : Operand} {ps : Array Tmp} {asg body : Code} {gf : FuncId} {caps : List DV} {l : List (Tmp × Tmp)} {K : Exit → St → VT} {Q : Exit → Act → World → Prop}
    (htrk : trk = false) (hm1 : 1 ≤ m) (hsh : S0.sh = []) (hwb : S0.wb = none) (hlo : σ.lo = 0) (hclo : σ.ev g = .clo gf caps) (hasg : asgOf asg = some l) (hcalm : calmC A body = true) (hclosed : DV.closed.go caps = true) (hkept : gKept C.keep g = true)
    (hfits : asgFits σ.nt l = true) (hps : allLt σ.nt ps.toList = true) (hseq : SeqC P gf caps C.N C.enc) (hlen : ∀ k, k < C.N → (C.enc k).length = ps.size) (hat : AllP (C.at σ σ [])) (hinv0 : C.inv σ [])
    (hafter : C.inv σ (List.range C.N) → (K .normal (C.st σ (List.range C.N))).holds)
    (hround : ∀ q : List Nat × Nat, (C.inv σ q.1 ∧ q.2 < C.N ∧ q.1.length < C.N ∧ ∀ y ∈ q.1, y < C.N) → (evalCode P A body (roundSt C σ ps.toList l q.1 q.2) (rngK P A C σ id q K)).holds)
    (ih : ∀ ro m base w0 S0, SoundAt P A ro m base w0 S0 body) (hf : Fits base w0 S0 σ a w) (hK : ∀ e σ', (K e σ').holds → ∀ a w, Fits base w0 S0 σ' a w → Q e a w) :
    (Code.block id (.rangeFunc g ps asg body)).wpIn (FW none) m P Q a w := by
  have hf0 := hf
  obtain ⟨kn, blk, r, hk⟩ := hf
  -- the closure
  have hcl := r.ev g
  rw [hclo] at hcl
  obtain ⟨lb, hlb, hlbs, hlbr⟩ : ∃ lb : Array Value, a.eval g = .func (.func gf) #[] lb ∧ lb.size = caps.length ∧ ∀ (j : Nat) (d : DV) (v : Value), caps[j]? = some d → lb[j]? = some v → Rel (rdOf w base S0 blk) kn blk d v := by
    generalize hg : a.eval g = v at hcl
    cases hcl with
    | clo hs hr => exact ⟨_, rfl, hs, hr⟩
  have grownFits : ∀ {τ : St} {W W' : World} {row : Option Nat}, Fits base w0 (S0.round w.heap.size) τ a W → W.grownBy W' row → (∀ k, row = some k → w.heap.size ≤ k ∧ ∃ o : Obj, W.heap[k]? = some o ∧ o.isCells = false) → Fits base w0 (S0.round w.heap.size) τ a W' := by
    intro τ W W' row ⟨kn', blk', r', hk'⟩ hg hr
    refine ⟨kn', blk', r'.grown hg (fun k e => ?_) (fun h => by rw [htrk] at h; cases h), hk'⟩
    obtain ⟨h1, h2⟩ := hr k e
    refine ⟨Nat.le_trans r.hbase h1, .inl ⟨_, rfl, h1⟩, Nat.le_trans r.kpo.1 h1, h2, fun d hd e2 => ?_⟩
    obtain ⟨D, e3, _, hh⟩ := r.dfr.2 d hd
    rw [e3] at e2
    have : D = k := by cases e2; rfl
    have := heap_lt hh
    omega
  have marked : ∀ {τ : St} {W : World} {D : Nat}, w.heap.size ≤ D → Fits base w0 S0 τ a W → W.heap[D]? = some (.deferred (some [])) → Fits base w0 S0 τ { a with defers := { target := .collected D, args := #[] } :: a.defers } W := by
    intro τ W D hD ⟨kn', blk', r', hk'⟩ hh
    refine ⟨kn', blk', ⟨r'.below, r'.xs, r'.hbase, ⟨⟨List.nodup_cons.2 ⟨fun hm => ?_, r'.dfr.1.1⟩, fun h => by rw [hsh] at h; cases h⟩, fun d hd => ?_⟩, r'.kpo, r'.rnd, r'.mlow, r'.shp, r'.size, r'.tmps, r'.objs, r'.inj, r'.ge, r'.live, r'.pin⟩, hk'⟩
    · obtain ⟨D', e, _, h'⟩ := r.dfr.2 _ hm
      have : D = D' := by cases e; rfl
      have := heap_lt h'
      omega
    · rcases List.mem_cons.1 hd with rfl | hd
      · exact ⟨D, rfl, Nat.le_trans r.hbase hD, hh⟩
      · exact r'.dfr.2 d hd
  -- a round's end, told for the frame ahead of the rounds
  have outFits : ∀ {W W' : World} {σ' : St} {a' : Act}, (∃ τ : List Nat, Fits base w0 (S0.round w.heap.size) { C.st σ τ with rn := true } a W) → Fits base w0 { S0.round w.heap.size with sh := C.keep.map fun t => (σ.get t, a.tmps.getD t undef), wr := W } σ' a' W' → Fits base w0 (S0.round w.heap.size) { outSt C σ σ' with rn := true } a W' := by
    intro W W' σ' a' ⟨τ, kn1, blk1, r1, _⟩ ⟨kn2, blk2, r2, hk2⟩
    refine ⟨kn2, blk2, ⟨r2.below, r2.xs, r2.hbase, ⟨r.dfr.1, fun d hd => ?_⟩, ⟨Nat.le_trans r1.kpo.1 r2.kpo.1, fun B hB => (r1.kpo.2.1 B hB).trans (r2.kpo.2.1 B hB), fun k o h1 h2 h3 => r2.kpo.2.2 k o (r1.kpo.2.2 k o h1 h2 h3) h2 h3⟩, fun _ => rfl, r2.mlow, fun d v h => r2.shp d v (List.mem_append_left _ (by
      have h : (d, v) ∈ shG ++ S0.sh := h
      rw [hsh, List.append_nil] at h; exact h)), r.size, fun t => ?_, r2.objs, r2.inj, r2.ge, r2.live, fun t ht => by
        have ht : t < σ.lo := ht
        omega⟩, hk2⟩
    · obtain ⟨D, e, hD, hh⟩ := r1.dfr.2 d hd
      exact ⟨D, e, hD, r2.kpo.2.2 D _ hh rfl not_mapO_mark⟩
    · unfold St.get outSt
      cases hl : look (keepT σ C.keep) t with
      | none => exact .any _
      | some d =>
        obtain ⟨h1, rfl⟩ := look_keepT_inv hl
        exact r2.shp _ _ (List.mem_append_right _ (List.mem_map.2 ⟨t, h1, rfl⟩))
  have start : Fits base w0 (S0.round w.heap.size) { C.st σ [] with rn := true } a w := (weaken hsh (fun h => absurd hwb h) hat hf0).inRound
  have rdA : ∀ {W : World} {S1 : Env} {blk : Nat → Option Loc} (ad : Addr) (u : Value), S1.wb = some w.heap.size → rdOf W base S1 blk ad u → rdAll W w.heap.size ad u := fun ad u hB h => ⟨h.1, fun hm => h.2.2.2 _ hB hm⟩
  refine wpIn_block (wpIn_rangeFunc_ownG (α := { x : Nat // x < C.N }) rfl hm1 hlb trivial (fun args w => callFunc_run hseq.1 w) (hseq.2 (m - 1) lb w hlbs (fun j d v h1 h2 => ?_) (r.glob.mono fun ad u h => ⟨h.1, fun _ => rdw_lt h.1⟩)) (fun h1 h2 => ⟨fun j d v e1 e2 hr => h2.1 j d v e1 e2 (h1.1 j d v e1 e2 hr), fun h => h2.2 (h1.2 h)⟩) (fun W lc o o' hlc ho hc _ => ?_)
    (Go.RowKit.Below.refl _ _) (fun x => by simpa using hlen x.1 x.2)
    (rngI base w0 (S0.round w.heap.size) C σ a)
    (fun c _ W => ∃ σo, Fits base w0 (S0.round w.heap.size) { σo with rn := true } a W ∧ σo.rn = σ.rn ∧ ((c = .ret ∧ (K .ret σo).holds) ∨ ∃ j, c = .exit j ∧ ((bif Nat.beq j id then K .normal σo else K (.exit j) σo)).holds))
    (fun pre W W' row h hg hr => ⟨h.1, grownFits h.2 hg hr⟩)
    (fun c pre W W' row hs hg hr => by obtain ⟨σo, i1, i2⟩ := hs; exact ⟨σo, grownFits i1 hg hr, i2⟩)
    ⟨hinv0, start⟩ (fun x => runAsg l { tmps := (ps.zip (C.enc x.1).toArray).foldl (fun t (pv : Tmp × Value) => t.setIfInBounds pv.1 pv.2) a.tmps, defers := [] })
    (fun lr x W K' hk' => asg_sound asg hasg hk') (fun lr pre x W ⟨i1, i2⟩ hl => ?_) (fun D xs W hD hS ⟨i1, i2⟩ hh => ?_) (fun D c pre W hD _ ⟨σo, i1, hrnσ, i2⟩ hh => ?_))
  · exact ((hlbr j d v h1 h2).close (closed_go hclosed d (List.mem_of_getElem? h1))).mono (fun _ _ h => ⟨h.1, fun _ => rdw_lt h.1⟩) (fun _ h => h) fun _ _ h => h.elim
  · -- the law's own book-keeping turns no cell and no map that may be read
    have keep : ∀ ad u, rdAll W w.heap.size ad u → rdAll (W.putObj lc o') w.heap.size ad u := fun ad u ⟨h1, h2⟩ => by
      have hb : (W.putObj lc o').heap[ad.block]? = W.heap[ad.block]? := by
        refine (grownBy_putObj' W lc o').block _ (rdw_lt h1) (fun e => ?_)
        cases e
        rcases h1 with h1 | ⟨es, c, h1, _⟩ | ⟨cs, T, fr, h1, _⟩
        · obtain ⟨x, hx, hxc⟩ := cells_of_cell h1.1
          rw [ho] at hx; cases hx; rw [hc] at hxc; cases hxc
        · have := h2 (.mk h1); omega
        · rw [ho] at h1; cases h1; cases hc
      exact ⟨rdw_of hb h1, fun hm => h2 (isMapAt_of hb hm)⟩
    exact ⟨fun j d v e1 e2 hr => hr.mono keep (fun _ h => h) fun _ _ h => h.elim, fun hgl => hgl.mono keep⟩
  · -- a round
    obtain ⟨kn1, blk1, r1, hk1⟩ := i2
    have hpre : ∀ y ∈ pre.map (·.1), y < C.N := fun y hy => by
      obtain ⟨z, _, rfl⟩ := List.mem_map.1 hy
      exact z.2
    have hv := hround (pre.map (·.1), x.1) ⟨i1, x.2, by simpa using hl, hpre⟩
    have rs : R base w0 { S0.round w.heap.size with sh := C.keep.map fun t => (σ.get t, a.tmps.getD t undef), wr := W } { C.st σ (pre.map (·.1)) with rn := true } kn1 blk1 { a with defers := [] } W :=
      ⟨r1.below, r1.xs, r1.hbase, ⟨by simp, fun d hd => by cases hd⟩, ⟨Nat.le_refl _, fun B _ => KeepsFrom.refl _ _, fun k o h _ _ => h⟩, fun _ => rfl, r1.mlow, fun d v h => by
        rcases List.mem_append.1 h with h | h
        · exact r1.shp d v (List.mem_append_left _ h)
        obtain ⟨t, h1, h2⟩ := List.mem_map.1 h
        cases h2
        have := r1.tmps t
        have e : St.get { C.st σ (pre.map (·.1)) with rn := true } t = σ.get t := by
          show (match look (keepT σ C.keep) t with | some d => d | none => DV.any) = _
          rw [look_keepT h1]
        rw [e] at this
        exact this, r1.size, r1.tmps, r1.objs, r1.inj, r1.ge, r1.live, r1.pin⟩
    have ra := R.asg l (by rw [bindP_lo]; exact hlo) (by rw [bindP_nt]; exact hfits) (R.bindP (σ := { C.st σ (pre.map (·.1)) with rn := true }) ps.toList (C.enc x.1) hlo hps rs)
    have ea : ({ tmps := (ps.toList.zip (C.enc x.1)).foldl (fun t (pv : Tmp × Value) => t.setIfInBounds pv.1 pv.2) a.tmps, defers := [] } : Act) = { tmps := (ps.zip (C.enc x.1).toArray).foldl (fun t (pv : Tmp × Value) => t.setIfInBounds pv.1 pv.2) a.tmps, defers := [] } := by
      rw [← Array.foldl_toList, Array.toList_zip]
    refine ih (some lr) (m - 1 - 1) base w0 { S0.round w.heap.size with sh := C.keep.map fun t => (σ.get t, a.tmps.getD t undef), wr := W } (.inr hcalm) _ _ _ hv (fun e σ' hh a' w' hf' => ?_) _ _ ⟨kn1, blk1, ?_, fun i hi => ?_⟩
    · have hout := outFits ⟨_, kn1, blk1, r1, hk1⟩ hf'
      have hkeep : KeepsFrom w.heap.size W w' := by obtain ⟨_, _, r2, _⟩ := hf'; exact r2.kpo.2.1 _ rfl
      cases e with
      | normal =>
        obtain ⟨k1, k2⟩ := AllP.app (AllT.all hh)
        refine ⟨hkeep, ⟨fun j d v e1 e2 _ => ?_, fun _ => (by obtain ⟨_, _, r2, _⟩ := hf'; exact r2.glob.mono fun ad u h => rdA ad u rfl h)⟩, ?_⟩
        · obtain ⟨kn2, blk2, r2, _⟩ := hf'
          cases g with
          | tmp tg =>
            have ht : tg ∈ C.keep := by
              obtain ⟨z, hz, hzz⟩ := List.any_eq_true.1 hkept
              rw [Nat.eq_of_beq_eq_true hzz]; exact hz
            have hs := r2.shp _ _ (List.mem_append_right _ (List.mem_map.2 ⟨tg, ht, rfl⟩))
            have e3 : σ.get tg = .clo gf caps := hclo
            have e4 : a.tmps.getD tg undef = .func (.func gf) #[] lb := hlb
            rw [e3, e4] at hs
            cases hs with
            | clo hs2 hr2 => exact ((hr2 j d v e1 e2).close (closed_go hclosed d (List.mem_of_getElem? e1))).mono (fun ad u h => rdA ad u rfl h) (fun _ h => h) fun _ _ h => h.elim
          | _ => cases hkept
        · have em : (pre ++ [x]).map (·.1) = pre.map (·.1) ++ [x.1] := by simp
          have q : C.inv σ (pre.map (·.1) ++ [x.1]) ∧ Fits base w0 (S0.round w.heap.size) { C.st σ (pre.map (·.1) ++ [x.1]) with rn := true } a w' := ⟨k2.one, weaken (ρ := C.note.rn σ (outSt C σ σ') (pre.map (·.1) ++ [x.1])) (σ := { outSt C σ σ' with rn := true }) (σ' := { C.st σ (pre.map (·.1) ++ [x.1]) with rn := true }) hsh (fun _ => rfl) (by rw [weakVC_rn]; exact k1) hout⟩
          rw [← em] at q
          exact q
      | ret => exact ⟨hkeep, _, hout, rfl, .inl ⟨rfl, hh⟩⟩
      | exit j => exact ⟨hkeep, _, hout, rfl, .inr ⟨j, rfl, hh⟩⟩
      | _ => exact hh.elim
    · rw [ea] at ra; exact ra
    · have := hk1 i hi
      show i < (roundSt C σ ps.toList l (pre.map (·.1)) x.1).nx
      unfold roundSt
      rw [runAsgD_nx, bindP_nx]
      exact this
  · have hS' : xs.map (·.1) = List.range C.N := hS
    rw [hS'] at i1 i2
    exact hK _ _ (hafter i1) _ _ (marked hD (i2.outRound hwb σ.rn) hh)
  · have i1' : Fits base w0 S0 σo a W := by
      have := i1.outRound hwb σ.rn
      rw [← hrnσ] at this
      exact this
    have hfm := marked hD i1' hh
    rcases i2 with ⟨rfl, h2⟩ | ⟨j, rfl, h2⟩
    · exact wpIn_ret (hK _ _ h2 _ _ hfm)
    · refine wpIn_exit ?_
      simp only [Exit.inBlock]
      cases hb : Nat.beq j id with
      | true =>
        simp only [hb, cond_true] at h2
        rw [if_pos (Nat.eq_of_beq_eq_true hb)]
        exact hK _ _ h2 _ _ hfm
      | false =>
        simp only [hb, cond_false] at h2
        rw [if_neg (fun e => by rw [e] at hb; simp at hb)]
        exact hK _ _ h2 _ _ hfm
theorem R.under {σ : St} {kn : Nat → Prop} {blk : Nat → Option Loc} {a : Act} {w w' : World} (r : R base w0 S0 σ kn blk a w) (hb : Below w.heap.size w w') : R base w0 S0 σ kn blk a w' :=
  r.step (kn' := kn) (blk' := blk) (fun _ => False) (fun _ => False) hb.size hb.os hb.tape hb.output (fun k hk _ => hb.block k hk) (fun _ h => h.elim) (fun _ h => h) (fun _ _ => rfl) (fun _ _ h => h.elim) (fun _ _ _ h => h.elim) (fun _ _ h => h.elim) rfl rfl rfl (fun _ => rfl) (fun _ _ => rfl)
    (fun _ _ _ _ _ h => h.elim) (fun _ _ h => h.elim) (fun _ _ _ _ _ h => h.elim) (fun _ _ _ _ _ h => h.elim) hb.drawn
def rngKB (C : RNote) (σ : St) (id : Nat) (x : Nat) (K : Exit → St → VT) : Exit → St → VT := fun e σ' => match e with
  | .normal => .done (C.at σ (outSt C σ σ') [x + 1] ++ [C.inv σ [x + 1]])
  | .ret => K .ret (outSt C σ σ')
  | .exit j => bif Nat.beq j id then K .normal (outSt C σ σ') else K (.exit j) (outSt C σ σ')
  | _ => .done [False]
def rngKA (P : Program) (A : Ann) (body : Code) (K : Exit → St → VT) : Exit → St → VT := fun e σ1 => match e with
  | .normal => evalCode P A body σ1 K
  | _ => .done [False]
def freeF (F : Nat → Prop) (blk : Nat → Option Loc) (W : World) : Prop := ∀ k, F k → k < W.heap.size ∧ ∀ id l, blk id = some l → ¬ l.has k
def rngIB (base : Nat) (w0 : World) (S1 : Env) (n0 : Nat) (C : RNote) (σ : St) (a : Act) (x : Nat) (F : Nat → Prop) (W : World) : Prop :=
  C.inv σ [x] ∧ n0 ≤ W.heap.size ∧ ∃ kn blk, R base w0 S1 { C.st σ [x] with rn := true } kn blk a W ∧ (∀ i, kn i → i < (C.st σ [x]).nx) ∧ freeF F blk W
theorem pieceB {S1 : Env} {τ : St} {kn : Nat → Prop} {blk : Nat → Option Loc} {a1 : Act} {W : World} {c : Code} {F : Nat → Prop} {B : Nat} {lr : Nat} {K : Exit → St → VT} {Q : Exit → Act → World → Prop}
    (hnd : ndF ∈ S1.sh) (hwb : S1.wb = some B) (hcalm : calmC A c = true) (ih : ∀ ro m base w0 S0, SoundAt P A ro m base w0 S0 c) (h : (evalCode P A c τ K).holds) (r1 : R base w0 S1 τ kn blk a1 W) (hk1 : ∀ i, kn i → i < τ.nx) (hF : freeF F blk W)
    (hQ : ∀ e σ' a' W' kn' blk', (K e σ').holds → R base w0 S1 σ' kn' blk' a' W' → (∀ i, kn' i → i < σ'.nx) → KeepsFrom B W W' → keptF F W W' → freeF F blk' W' → (∀ k, k < W.heap.size → (∀ id l, blk id = some l → ¬ l.has k) → W'.heap[k]? = W.heap[k]?) → Q e a' W') : c.wpIn (FW (some lr)) m P Q a1 W := by
  obtain ⟨S2, hS2⟩ : ∃ S2 : Env, S2 = { S := fun k => S1.S k ∨ base ≤ k, sh := S1.sh, wr := W, wb := S1.wb, X := fun k => ∃ id l, blk id = some l ∧ l.has k, pv := S1.pv } := ⟨_, rfl⟩
  have hm1' : ∀ {V : World} {b : Nat → Option Loc} (ad : Addr) (u : Value), rdOf V base S1 b ad u → rdOf V W.heap.size S2 b ad u := fun ad u ⟨x, y, z, q⟩ => by subst hS2; exact ⟨x, y, .inl z, q⟩
  have hm2' : ∀ {V : World} {b : Nat → Option Loc} (ad : Addr) (u : Value), rdOf V W.heap.size S2 b ad u → rdOf V base S1 b ad u := fun ad u ⟨x, y, z, q⟩ => by
    subst hS2
    exact ⟨x, y, z.elim (fun h => h) fun h => .inr (Nat.le_trans r1.hbase h), q⟩
  have rel1 : ∀ {V : World} {k : Nat → Prop} {b : Nat → Option Loc} {d v}, Rel (rdOf V base S1 b) k b d v → Rel (rdOf V W.heap.size S2 b) k b d v := fun h => h.mono hm1' (fun _ h => h) fun _ _ _ h => ⟨_, h, rfl⟩
  have rel2 : ∀ {V : World} {k : Nat → Prop} {b : Nat → Option Loc} {d v}, Rel (rdOf V W.heap.size S2 b) k b d v → Rel (rdOf V base S1 b) k b d v := fun h => h.mono hm2' (fun _ h => h) fun _ _ _ h => ⟨_, h, rfl⟩
  have hsh2 : S2.sh = S1.sh := by subst hS2; rfl
  have hwb2 : S2.wb = S1.wb := by subst hS2; rfl
  have hpv2 : S2.pv = S1.pv := by subst hS2; rfl
  have hwr : S2.wr = W := by subst hS2; rfl
  have hX : ∀ k, (∃ id l, blk id = some l ∧ l.has k) ↔ S2.X k := fun k => by subst hS2; exact Iff.rfl
  have hdf := r1.dfr.1.2 hnd
  have rs : R W.heap.size W S2 τ kn blk a1 W :=
    ⟨BelowX.refl _ _ _, (by subst hS2; exact fun k ⟨id, l, e, h⟩ => (r1.ge id l k e h).1.elim .inr fun h => .inl (r1.xs _ h)), Nat.le_refl _, ⟨by rw [hdf]; exact ⟨List.nodup_nil, fun _ => rfl⟩, fun d hd => by rw [hdf] at hd; cases hd⟩, (by rw [hwr]; exact ⟨Nat.le_refl _, fun B _ => KeepsFrom.refl _ _, fun k o h _ _ => h⟩), fun h => r1.rnd (by rw [← hwb2]; exact h), (by rw [hwb2]; exact r1.mlow), fun d v h => rel1 (r1.shp d v (by rw [← hsh2]; exact h)), r1.size, fun t => rel1 (r1.tmps t), fun id o h => ⟨(r1.objs id o h).1, (r1.objs id o h).2.rd hm1'⟩, r1.inj, fun id l g e h => ⟨.inr ((hX g).1 ⟨id, l, e, h⟩), (r1.ge id l g e h).2⟩, r1.live, (by rw [hpv2]; exact r1.pin)⟩
  refine ih (some lr) m W.heap.size W S2 (.inr hcalm) _ _ _ h (fun e σ' hh a' w' hf' => ?_) _ _ ⟨kn, blk, rs, hk1⟩
  obtain ⟨kn2, blk2, r2, hk2⟩ := hf'
  have hdf2 := r2.dfr.1.2 (by rw [hsh2]; exact hnd)
  refine hQ e σ' a' w' kn2 blk2 hh ?_ hk2 (by have := r2.kpo.2.1 B (by rw [hwb2]; exact hwb); rw [hwr] at this; exact this) ⟨r2.hbase, fun k hk => ⟨(hF k hk).1, r2.below.block k (hF k hk).1 fun h => ?_⟩⟩ (fun k hk => ⟨Nat.lt_of_lt_of_le (hF k hk).1 r2.hbase, fun id l e h => ?_⟩) fun k hk hn => r2.below.block k hk fun h => by
    obtain ⟨i, l, e, h⟩ := (hX k).2 h
    exact hn i l e h
  · refine ⟨r1.below.trans ⟨r2.below.os, r2.below.tape, r2.below.output, r2.below.size, fun k hk' hx => r2.below.block k (Nat.lt_of_lt_of_le hk' r1.hbase) fun h => ?_, r2.below.drawn⟩, r1.xs, Nat.le_trans r1.hbase r2.hbase, ⟨by rw [hdf2]; exact ⟨List.nodup_nil, fun _ => rfl⟩, fun d hd => by rw [hdf2] at hd; cases hd⟩, ⟨Nat.le_trans r1.kpo.1 r2.hbase, fun B hB => (r1.kpo.2.1 B hB).trans (by have := r2.kpo.2.1 B (by rw [hwb2]; exact hB); rw [hwr] at this; exact this), fun k o h1 h2 h3 => r2.kpo.2.2 k o (by rw [hwr]; exact r1.kpo.2.2 k o h1 h2 h3) h2 h3⟩, fun h => r2.rnd (by rw [hwb2]; exact h), (by rw [← hwb2]; exact r2.mlow), fun d v h => rel2 (r2.shp d v (by rw [hsh2]; exact h)), r2.size, fun t => rel2 (r2.tmps t), fun id o h => ⟨(r2.objs id o h).1, (r2.objs id o h).2.rd hm2'⟩, r2.inj, fun id l g e h => ⟨?_, (r2.ge id l g e h).2⟩, r2.live, (by rw [← hpv2]; exact r2.pin)⟩
    · obtain ⟨i, l, e, h⟩ := (hX k).2 h
      rcases (r1.ge i l k e h).1 with h' | h'
      · omega
      · exact hx h'
    · rcases (r2.ge id l g e h).1 with h' | h'
      · exact .inl (Nat.le_trans r1.hbase h')
      · obtain ⟨i, l', e', h2⟩ := (hX g).2 h'
        exact (r1.ge i l' g e' h2).1
  · obtain ⟨i, l, e, h⟩ := (hX k).2 h
    exact (hF k hk).2 i l e h
  · rcases (r2.ge id l k e h).1 with h' | h'
    · have := (hF k hk).1; omega
    · obtain ⟨i, l', e', h2⟩ := (hX k).2 h'
      exact (hF k hk).2 i l' e' h2
theorem range_soundB {C : RNote} {σ : St} {a : Act} {w : World} {id : Nat} {g : Operand} {ps : Array Tmp} {asg body : Code} {gf : FuncId} {fs : List DV} {K : Exit → St → VT} {Q : Exit → Act → World → Prop}
    (hm1 : 1 ≤ m) (hsh : S0.sh = []) (hwb : S0.wb = none) (hlo : σ.lo = 0) (hbnd : σ.ev g = .bnd gf fs) (hcalma : calmC A asg = true) (hcalm : calmC A body = true) (hclosed : DV.closed.go fs = true)
    (hps : allLt σ.nt ps.toList = true) (hseq : SeqB P gf fs C.N C.enc) (hlen : ∀ k, k < C.N → (C.enc k).length = ps.size) (hat : AllP (C.at σ σ [0])) (hinv0 : C.inv σ [0])
    (hafter : C.inv σ [C.N] → (K .normal (C.st σ [C.N])).holds)
    (hround : ∀ x : Nat, (C.inv σ [x] ∧ x < C.N) → (evalCode P A asg (bindP ps.toList (C.enc x) { C.st σ [x] with rn := true }) (rngKA P A body (rngKB C σ id x K))).holds)
    (iha : ∀ ro m base w0 S0, SoundAt P A ro m base w0 S0 asg) (ih : ∀ ro m base w0 S0, SoundAt P A ro m base w0 S0 body) (hf : Fits base w0 S0 σ a w) (hK : ∀ e σ', (K e σ').holds → ∀ a w, Fits base w0 S0 σ' a w → Q e a w) :
    (Code.block id (.rangeFunc g ps asg body)).wpIn (FW none) m P Q a w := by
  have hf0 := hf
  obtain ⟨kn, blk, r, hk⟩ := hf
  have hcl := r.ev g
  rw [hbnd] at hcl
  obtain ⟨vs, hlb, hlbs, hlbr⟩ : ∃ vs : Array Value, a.eval g = .func (.func gf) vs #[] ∧ vs.size = fs.length ∧ ∀ (j : Nat) (d : DV) (v : Value), fs[j]? = some d → vs[j]? = some v → Rel (rdOf w base S0 blk) kn blk d v := by
    generalize hg : a.eval g = v at hcl
    cases hcl with
    | bnd hs hr => exact ⟨_, rfl, hs, hr⟩
  -- a record's block turns
  have grownR : ∀ {S1 : Env} {τ : St} {kn' : Nat → Prop} {blk' : Nat → Option Loc} {a1 : Act} {W : World} {k : Nat} {st st' : Loop}, S1.wr = S0.wr → S1.wb = some w.heap.size → (∀ d ∈ a1.defers, d ∈ a.defers) → R base w0 S1 τ kn' blk' a1 W → w.heap.size ≤ k → W.heap[k]? = some (.loop st) → R base w0 S1 τ kn' blk' a1 (W.putObj k (.loop st')) := by
    intro S1 τ kn' blk' a1 W k st st' hwr hwb1 hdf r' hk' ho
    refine r'.grown (grownBy_putObj' W k _) fun k2 e => ?_
    cases e
    refine ⟨Nat.le_trans r.hbase hk', .inl ⟨_, hwb1, hk'⟩, by rw [hwr]; exact Nat.le_trans r.kpo.1 hk', ⟨_, ho, rfl⟩, fun d hd e2 => ?_⟩
    obtain ⟨D, e3, _, hh⟩ := r.dfr.2 d (hdf d hd)
    rw [e3] at e2
    have : D = k := by cases e2; rfl
    have := heap_lt hh
    omega
  have marked : ∀ {τ : St} {W : World} {D : Nat}, w.heap.size ≤ D → Fits base w0 S0 τ a W → W.heap[D]? = some (.deferred (some [])) → Fits base w0 S0 τ { a with defers := { target := .collected D, args := #[] } :: a.defers } W := by
    intro τ W D hD ⟨kn', blk', r', hk'⟩ hh
    refine ⟨kn', blk', ⟨r'.below, r'.xs, r'.hbase, ⟨⟨List.nodup_cons.2 ⟨fun hm => ?_, r'.dfr.1.1⟩, fun h => by rw [hsh] at h; cases h⟩, fun d hd => ?_⟩, r'.kpo, r'.rnd, r'.mlow, r'.shp, r'.size, r'.tmps, r'.objs, r'.inj, r'.ge, r'.live, r'.pin⟩, hk'⟩
    · obtain ⟨D', e, _, h'⟩ := r.dfr.2 _ hm
      have : D = D' := by cases e; rfl
      have := heap_lt h'
      omega
    · rcases List.mem_cons.1 hd with rfl | hd
      · exact ⟨D, rfl, Nat.le_trans r.hbase hD, hh⟩
      · exact r'.dfr.2 d hd
  -- who is in nobody's hands
  obtain ⟨kn0, blk0, r0, hk0, hblk0⟩ : ∃ kn0 blk0, R base w0 (S0.round w.heap.size) { C.st σ [0] with rn := true } kn0 blk0 a w ∧ (∀ i, kn0 i → i < (C.st σ [0]).nx) ∧ ∀ i l, blk0 i = some l → ∀ g, l.has g → ∃ i' l', blk i' = some l' ∧ l'.has g := by
    obtain ⟨x1, x2⟩ := weakenR hsh (fun h => absurd hwb h) hat r
    refine ⟨_, _, x1.inRound, x2, fun i l h g hg => ?_⟩
    obtain ⟨b, _, hb⟩ := blkOf_at h hg
    exact ⟨b, l, hb, hg⟩
  have F0lt : ∀ k, (k < w.heap.size ∧ ∀ id l, blk id = some l → ¬ l.has k) → k < w.heap.size := fun k h => h.1
  have rdF0 : ∀ {W : World}, Below w.heap.size w W → ∀ ad u, rdOf w base S0 blk ad u → rdF (fun k => k < w.heap.size ∧ ∀ id l, blk id = some l → ¬ l.has k) W ad u := fun hb ad u h => ⟨rdw_of (hb.block _ (rdw_lt h.1)) h.1, rdw_lt h.1, h.2.1⟩
  -- the frame of the rounds
  obtain ⟨SR, hSR⟩ : ∃ SR : Env, SR = { S0.round w.heap.size with sh := ndF :: C.keep.map fun t => (σ.get t, a.tmps.getD t undef) } := ⟨_, rfl⟩
  have hSRnd : ndF ∈ SR.sh := by rw [hSR]; exact List.mem_cons_self
  have hSRwb : SR.wb = some w.heap.size := by rw [hSR]; rfl
  have hSRwr : SR.wr = S0.wr := by rw [hSR]; rfl
  refine wpIn_block (wpIn_rangeB hm1 hlb (fun args w => callFunc_run hseq.1 w) F0lt (fun W hb => hseq.2 (m - 1) vs _ W hlbs (fun j d v h1 h2 => ((hlbr j d v h1 h2).close (closed_go hclosed d (List.mem_of_getElem? h1))).mono (rdF0 hb) (fun _ h => h) fun _ _ h => h.elim) (r.glob.mono (rdF0 hb))) hlen
    (rngIB base w0 (S0.round w.heap.size) w.heap.size C σ a)
    (fun c W => ∃ σo, Fits base w0 (S0.round w.heap.size) { σo with rn := true } a W ∧ σo.rn = σ.rn ∧ ((c = .ret ∧ (K .ret σo).holds) ∨ ∃ j, c = .exit j ∧ ((bif Nat.beq j id then K .normal σo else K (.exit j) σo)).holds))
    (fun x F W ⟨_, h1, _, _, _, _, h2⟩ => ⟨h1, fun k hk => (h2 k hk).1⟩)
    (fun x F X Y ⟨i1, i2, kn', blk', r', hk', hF⟩ hb => ⟨i1, Nat.le_trans i2 hb.size, kn', blk', r'.under hb, hk', fun k hk => hk.elim (fun h => ⟨Nat.lt_of_lt_of_le (hF k h).1 hb.size, (hF k h).2⟩) fun ⟨h1, h2⟩ => ⟨h2, fun id l e hl => by have := (r'.ge id l k e hl).2; omega⟩⟩)
    (fun x F W lc st st' ⟨i1, i2, kn', blk', r', hk', hF⟩ hlc _ ho => ⟨i1, Nat.le_trans i2 (grownBy_putObj' W _ _).size, kn', blk', grownR rfl rfl (fun _ h => h) r' hlc ho, hk', fun k hk => ⟨Nat.lt_of_lt_of_le (hF k hk).1 (grownBy_putObj' W _ _).size, (hF k hk).2⟩⟩)
    (fun c X Y ⟨σo, ⟨kn', blk', r', hk'⟩, i2⟩ hb => ⟨σo, ⟨kn', blk', r'.under hb, hk'⟩, i2⟩)
    (fun c W lc st st' ⟨σo, ⟨kn', blk', r', hk'⟩, i2⟩ hlc ho => ⟨σo, ⟨kn', blk', grownR rfl rfl (fun _ h => h) r' hlc ho, hk'⟩, i2⟩)
    (fun W hb => ⟨hinv0, hb.size, kn0, blk0, r0.under hb, hk0, fun k hk => ⟨Nat.lt_of_lt_of_le hk.1 hb.size, fun i l h hg => let ⟨i', l', h', hg'⟩ := hblk0 i l h k hg; hk.2 i' l' h' hg'⟩⟩)
    (fun x F a1 W => w.heap.size ≤ W.heap.size ∧ (∀ d ∈ a.defers, ∃ D, d = { target := .collected D, args := #[] } ∧ base ≤ D ∧ W.heap[D]? = some (.deferred (some []))) ∧ ∃ τ kn' blk', (evalCode P A body τ (rngKB C σ id x K)).holds ∧ R base w0 SR τ kn' blk' a1 W ∧ (∀ i, kn' i → i < τ.nx) ∧ freeF F blk' W)
    (fun lr x F W ⟨i1, i2, kn1, blk1, r1, hk1, hF⟩ hl => ?_)
    (fun x F a1 W lc st st' ⟨i2, im, τ, kn', blk', ht, r', hk', hF⟩ hlc _ ho => ⟨Nat.le_trans i2 (grownBy_putObj' W _ _).size, (fun d hd => let ⟨D, e, h1, h2⟩ := im d hd; ⟨D, e, h1, (World.putObj_heap_other (fun e => by rw [e] at h2; rw [h2] at ho; cases ho)).trans h2⟩), τ, kn', blk', ht, grownR hSRwr hSRwb (fun d hd => by rw [r'.dfr.1.2 hSRnd] at hd; cases hd) r' hlc ho, hk', fun k hk => ⟨Nat.lt_of_lt_of_le (hF k hk).1 (grownBy_putObj' W _ _).size, (hF k hk).2⟩⟩)
    (fun lr x F a1 W ⟨i2, im, τ, kn1, blk1, ht, r1, hk1, hF⟩ hl => ?_) (fun D F W hD ⟨i1, _, kn', blk', r', hk', _⟩ hh => ?_) (fun D c W hD ⟨σo, i1, hrnσ, i2⟩ hh => ?_))
  · -- the round's own assignments
    have hv := hround x ⟨i1, hl⟩
    have rs : R base w0 SR { C.st σ [x] with rn := true } kn1 blk1 { a with defers := [] } W := by
      have hS : SR.S = S0.S := by rw [hSR]; rfl
      have hm : ∀ ad u, rdOf W base (S0.round w.heap.size) blk1 ad u → rdOf W base SR blk1 ad u := by subst hSR; exact fun ad u h => h
      have rel : ∀ {d v}, Rel (rdOf W base (S0.round w.heap.size) blk1) kn1 blk1 d v → Rel (rdOf W base SR blk1) kn1 blk1 d v := fun h => h.mono hm (fun _ h => h) fun _ _ _ h => ⟨_, h, rfl⟩
      refine ⟨(by subst hSR; exact r1.below), (by subst hSR; exact r1.xs), r1.hbase, ⟨⟨List.nodup_nil, fun _ => rfl⟩, fun d hd => by cases hd⟩, (by subst hSR; exact r1.kpo), fun _ => rfl, (by subst hSR; exact r1.mlow), fun d v h => ?_, r1.size, fun t => rel (r1.tmps t), fun id o h => ⟨(r1.objs id o h).1, (r1.objs id o h).2.rd hm⟩, r1.inj, (by subst hSR; exact r1.ge), r1.live, (by subst hSR; exact r1.pin)⟩
      have h : (d, v) ∈ shG ++ (ndF :: C.keep.map fun t => (σ.get t, a.tmps.getD t undef)) := by subst hSR; exact h
      rcases List.mem_append.1 h with h | h
      · exact rel (r1.shp d v (List.mem_append_left _ h))
      rcases List.mem_cons.1 h with h | h
      · cases h; exact .any _
      obtain ⟨t, h1, h2⟩ := List.mem_map.1 h
      cases h2
      have := r1.tmps t
      have e : St.get { C.st σ [x] with rn := true } t = σ.get t := by
        show (match look (keepT σ C.keep) t with | some d => d | none => DV.any) = _
        rw [look_keepT h1]
      rw [e] at this
      exact rel this
    have ra := R.bindP (σ := { C.st σ [x] with rn := true }) ps.toList (C.enc x) hlo hps rs
    have ea : ({ tmps := (ps.toList.zip (C.enc x)).foldl (fun t (pv : Tmp × Value) => t.setIfInBounds pv.1 pv.2) a.tmps, defers := [] } : Act) = { tmps := (ps.zip (C.enc x).toArray).foldl (fun t (pv : Tmp × Value) => t.setIfInBounds pv.1 pv.2) a.tmps, defers := [] } := by
      rw [← Array.foldl_toList, Array.toList_zip]
    rw [ea] at ra
    refine pieceB hSRnd hSRwb hcalma iha hv ra (fun i hi => by rw [bindP_nx]; exact hk1 i hi) hF fun e σ' a' W' kn' blk' hh r' hk' h1 h2 h3 h4 => ?_
    cases e with
    | normal => exact ⟨h1, h2, Nat.le_trans i2 h2.1, (fun d hd => let ⟨D, e, e1, e2⟩ := r1.dfr.2 d hd; ⟨D, e, e1, (h4 D (heap_lt e2) fun id l h5 h6 => r1.not_mark h5 h6 e2).trans e2⟩), σ', kn', blk', hh, r', hk', h3⟩
    | _ => exact hh.elim
  · -- the round's body
    refine pieceB hSRnd hSRwb hcalm ih ht r1 hk1 hF fun e σ' a' w' kn2 blk2 hh r2 hk2 hkeep hkF hF2 hown => ?_
    have hm2' : ∀ (ad : Addr) (u : Value), rdOf w' base SR blk2 ad u → rdOf w' base (S0.round w.heap.size) blk2 ad u := by subst hSR; exact fun ad u h => h
    have rel2 : ∀ {d v}, Rel (rdOf w' base SR blk2) kn2 blk2 d v → Rel (rdOf w' base (S0.round w.heap.size) blk2) kn2 blk2 d v := fun h => h.mono hm2' (fun _ h => h) fun _ _ _ h => ⟨_, h, rfl⟩
    have rout : R base w0 (S0.round w.heap.size) { outSt C σ σ' with rn := true } kn2 blk2 a w' := by
      refine ⟨(by have := r2.below; subst hSR; exact this), (by have := r2.xs; subst hSR; exact this), r2.hbase, ⟨⟨r.dfr.1.1, fun h => by rw [show (S0.round w.heap.size).sh = S0.sh from rfl, hsh] at h; cases h⟩, fun d hd => ?_⟩, (by have := r2.kpo; subst hSR; exact this), fun _ => rfl, (by have := r2.mlow; subst hSR; exact this), fun d v h => ?_, r.size, fun t => ?_, fun id o h => ⟨(r2.objs id o h).1, (r2.objs id o h).2.rd hm2'⟩, r2.inj, (by have := r2.ge; subst hSR; exact this), r2.live, fun t ht => by
          have ht : t < σ.lo := ht
          omega⟩
      · obtain ⟨D, e, hD, h2⟩ := im d hd
        exact ⟨D, e, hD, (hown D (heap_lt h2) fun id l h5 h6 => r1.not_mark h5 h6 h2).trans h2⟩
      · have h : (d, v) ∈ shG ++ S0.sh := h
        rw [hsh, List.append_nil] at h
        exact rel2 (r2.shp d v (List.mem_append_left _ h))
      · unfold St.get outSt
        cases hl' : look (keepT σ C.keep) t with
        | none => exact .any _
        | some d =>
          obtain ⟨h1, rfl⟩ := look_keepT_inv hl'
          exact rel2 (r2.shp _ _ (List.mem_append_right _ (by subst hSR; exact List.mem_cons_of_mem _ (List.mem_map.2 ⟨t, h1, rfl⟩))))
    have hout : Fits base w0 (S0.round w.heap.size) { outSt C σ σ' with rn := true } a w' := ⟨kn2, blk2, rout, hk2⟩
    cases e with
    | normal =>
      obtain ⟨k1, k2⟩ := AllP.app (AllT.all hh)
      obtain ⟨x1, x2⟩ := weakenR (S0 := S0.round w.heap.size) (ρ := C.note.rn σ (outSt C σ σ') [x + 1]) (σ := { outSt C σ σ' with rn := true }) (σ' := { C.st σ [x + 1] with rn := true }) hsh (fun _ => rfl) (by rw [weakVC_rn]; exact k1) rout
      refine ⟨hkeep, ⟨k2.one, Nat.le_trans i2 hkF.1, _, _, x1, x2, fun k hk => ⟨(hF2 k hk).1, fun i l e h => ?_⟩⟩, hkF⟩
      obtain ⟨b, _, hb⟩ := blkOf_at e h
      exact (hF2 k hk).2 b l hb h
    | ret => exact ⟨hkeep, ⟨_, hout, rfl, .inl ⟨rfl, hh⟩⟩, hkF⟩
    | exit j => exact ⟨hkeep, ⟨_, hout, rfl, .inr ⟨j, rfl, hh⟩⟩, hkF⟩
    | _ => exact hh.elim
  · have i2 : Fits base w0 (S0.round w.heap.size) { C.st σ [C.N] with rn := true } a W := ⟨kn', blk', r', hk'⟩
    exact hK _ _ (hafter i1) _ _ (marked hD (i2.outRound hwb σ.rn) hh)
  · have i1' : Fits base w0 S0 σo a W := by
      have := i1.outRound hwb σ.rn
      rw [← hrnσ] at this
      exact this
    have hfm := marked hD i1' hh
    rcases i2 with ⟨rfl, h2⟩ | ⟨j, rfl, h2⟩
    · exact wpIn_ret (hK _ _ h2 _ _ hfm)
    · refine wpIn_exit ?_
      simp only [Exit.inBlock]
      cases hb : Nat.beq j id with
      | true =>
        simp only [hb, cond_true] at h2
        rw [if_pos (Nat.eq_of_beq_eq_true hb)]
        exact hK _ _ h2 _ _ hfm
      | false =>
        simp only [hb, cond_false] at h2
        rw [if_neg (fun e => by rw [e] at hb; simp at hb)]
        exact hK _ _ h2 _ _ hfm
theorem evalCode_both (hm : P.follows .mixedOrders = true) (hx0 : ExtsOK P A) : ∀ (c : Code), (∀ ro m base w0 S0, SoundAt P A ro m base w0 S0 c) ∧ (∀ body, c = .loop body → ∀ ro m base w0 S0, SoundAt P A ro m base w0 S0 body) ∧ ∀ g ps asg body, c = .rangeFunc g ps asg body → (∀ ro m base w0 S0, SoundAt P A ro m base w0 S0 asg) ∧ ∀ ro m base w0 S0, SoundAt P A ro m base w0 S0 body := by
  intro c
  induction c with
  | skip => refine ⟨fun ro m base w0 S0 => ?_, fun b e => (by cases e), fun _ _ _ _ e => by cases e⟩; intro hs σ K Q h hK a w hf; exact wpIn_skip (hK _ _ h a w hf)
  | label l => refine ⟨fun ro m base w0 S0 => ?_, fun b e => (by cases e), fun _ _ _ _ e => by cases e⟩; intro hs σ K Q h hK a w hf; exact wpIn_label (hK _ _ h a w hf)
  | ret => refine ⟨fun ro m base w0 S0 => ?_, fun b e => (by cases e), fun _ _ _ _ e => by cases e⟩; intro hs σ K Q h hK a w hf; exact wpIn_ret (hK _ _ h a w hf)
  | exit id => refine ⟨fun ro m base w0 S0 => ?_, fun b e => (by cases e), fun _ _ _ _ e => by cases e⟩; intro hs σ K Q h hK a w hf; exact wpIn_exit (hK _ _ h a w hf)
  | region id ops draw =>
    refine ⟨fun ro m base w0 S0 => ?_, fun b e => (by cases e), fun _ _ _ _ e => by cases e⟩
    intro hs σ K Q h hK a w hf
    simp only [evalCode] at h
    cases hd : draw with
    | false =>
      simp only [hd, cond_false] at h
      obtain ⟨h1, h2⟩ := need_holds h
      exact region_sound hf h1.all fun a' w' hf' => hK _ _ h2 a' w' hf'
    | true =>
      simp only [hd, cond_true] at h
      cases ho : drawOK P ops (orcsAt A.orc id) σ with
      | false =>
        simp only [ho, cond_false] at h
        split at h
        · rename_i p hp
          obtain ⟨h1, h2⟩ := h
          obtain ⟨h3, h4⟩ := AllP.app (AllT.all h1)
          exact region_soft_sound hm hf h3 hp h4.one fun a' w' hf' => hK _ _ h2 a' w' hf'
        · exact h.elim
      | true =>
        simp only [ho, cond_true] at h
        obtain ⟨h1, h2⟩ := need_holds h
        exact region_draw_sound hm hf h1.all ho fun a' w' hf' => hK _ _ h2 a' w' hf'
  | seq x y ihx ihy =>
    refine ⟨fun ro m base w0 S0 => ?_, fun b e => (by cases e), fun _ _ _ _ e => by cases e⟩
    intro hs σ K Q h hK a w hf
    simp only [evalCode] at h
    have hsx : ((S0.sh = [] ∧ S0.wb = none) ∧ ro = none ∧ 1 ≤ m) ∨ calmC A x = true := hs.imp id fun h => by
      simp only [calmC] at h
      cases hx : calmC A x
      · simp [hx] at h
      · rfl
    have hsy : ((S0.sh = [] ∧ S0.wb = none) ∧ ro = none ∧ 1 ≤ m) ∨ calmC A y = true := hs.imp id fun h => by
      simp only [calmC] at h
      cases hx : calmC A x
      · simp [hx] at h
      · cases hy : calmC A y
        · simp [hx, hy] at h
        · rfl
    split at h
    · split at h
      · rename_i hcut _ E hext
        have hsh : (S0.sh = [] ∧ S0.wb = none) ∧ ro = none ∧ 1 ≤ m := by
          rcases hs with h | h
          · exact h
          · simp only [calmC, hcut, hext] at h
            cases hx : calmC A x <;> cases hy : calmC A y <;> simp [hx, hy] at h
        obtain ⟨⟨h1, h2⟩, rfl, h3⟩ := hsh
        cases x with
        | region id ops draw => exact hx0 id E hext m base w0 S0 h1 h2 h3 _ _ σ K Q h hK a w hf
        | _ => simp [extAt] at hext
      refine wpIn_seq ?_
      refine ihx.1 _ _ _ _ _ hsx σ _ _ h (fun e σ' hh a' w' hf' => ?_) a w hf
      cases e with
      | normal =>
        obtain ⟨h1, h2⟩ := need_holds hh
        exact ihy.1 _ _ _ _ _ hsy _ K Q h2 hK a' w' (hf'.pre h1.all)
      | _ => exact hK _ _ hh a' w' hf'
    · rename_i C hcut
      have hsh : S0.sh = [] ∧ S0.wb = none := by
        rcases hs with h | h
        · exact h.1
        · simp only [calmC, hcut] at h
          cases hx : calmC A x <;> cases hy : calmC A y <;> simp [hx, hy] at h
      obtain ⟨h1, h2⟩ := h
      refine wpIn_seq ?_
      refine ihx.1 _ _ _ _ _ hsx σ _ _ h1 (fun e σ' hh a' w' hf' => ?_) a w hf
      cases e with
      | normal =>
        obtain ⟨k1, k2⟩ := AllP.app (AllT.all hh)
        exact ihy.1 _ _ _ _ _ hsy _ K Q (h2 _ k2.one) hK a' w' (weaken hsh.1 (fun h => absurd hsh.2 h) k1 hf')
      | _ => exact hK _ _ hh a' w' hf'
  | cond c x y ihx ihy =>
    refine ⟨fun ro m base w0 S0 => ?_, fun b e => (by cases e), fun _ _ _ _ e => by cases e⟩
    intro hs σ K Q h hK a w hf
    simp only [evalCode] at h
    split at h
    · rename_i p hp
      replace h := mkIf_holds h
      obtain ⟨kn, blk, r, hk⟩ := hf
      have hv := r.ev c
      rw [hp] at hv
      have hsx : ((S0.sh = [] ∧ S0.wb = none) ∧ ro = none ∧ 1 ≤ m) ∨ calmC A x = true := hs.imp id fun h => by
        simp only [calmC] at h
        cases hx : calmC A x
        · simp [hx] at h
        · rfl
      have hsy : ((S0.sh = [] ∧ S0.wb = none) ∧ ro = none ∧ 1 ≤ m) ∨ calmC A y = true := hs.imp id fun h => by
        simp only [calmC] at h
        cases hx : calmC A x
        · simp [hx] at h
        · simpa [hx] using h
      exact wpIn_cond_split hv.val_eq (fun hp => ihx.1 _ _ _ _ _ hsx σ K Q (h.1 hp) hK a w ⟨kn, blk, r, hk⟩) fun hp => ihy.1 _ _ _ _ _ hsy σ K Q (h.2 hp) hK a w ⟨kn, blk, r, hk⟩
    · exact h.elim
  | block id c ih =>
    refine ⟨fun ro m base w0 S0 => ?_, fun b e => (by cases e), fun _ _ _ _ e => by cases e⟩
    intro hs σ K Q h hK a w hf
    have plain : (evalCode P A c σ fun e σ' => match e with
        | .exit j => bif Nat.beq j id then K .normal σ' else K (.exit j) σ'
        | e => K e σ').holds → (((S0.sh = [] ∧ S0.wb = none) ∧ ro = none ∧ 1 ≤ m) ∨ calmC A c = true) → (Code.block id c).wpIn (FW ro) m P Q a w := by
      intro h hsc
      refine wpIn_block (ih.1 _ _ _ _ _ hsc σ _ _ h (fun e σ' hh a' w' hf' => ?_) a w hf)
      cases e with
      | exit j =>
        simp only [Exit.inBlock]
        cases hb : Nat.beq j id with
        | true =>
          simp only [hb, cond_true] at hh
          rw [if_pos (Nat.eq_of_beq_eq_true hb)]
          exact hK _ _ hh a' w' hf'
        | false =>
          simp only [hb, cond_false] at hh
          rw [if_neg (fun e => by rw [e] at hb; simp at hb)]
          exact hK _ _ hh a' w' hf'
      | _ => exact hK _ _ hh a' w' hf'
    cases c with
    | loop body =>
      simp only [evalCode] at h
      split at h
      · rename_i C _
        have hsh : S0.sh = [] ∧ S0.wb = none := hs.elim (fun h => h.1) fun h => by simp [calmC] at h
        obtain ⟨h1, h2, h3⟩ := h
        -- the loop's own statement, out of the induction's for 'loop body'
        have hbody := ih.2.1 body rfl ro m base w0 S0
        refine wpIn_block (loop_ghost_in (fun n a w => ∃ i, C.mu σ i = n ∧ C.inv σ i ∧ Fits base w0 S0 (C.st σ i) a w) (C.mu σ (C.rd σ σ)) ⟨_, rfl, h2, weaken hsh.1 (fun h => absurd hsh.2 h) (AllT.all h1) hf⟩ fun n a w ⟨i, hi, hinv, hfi⟩ => ?_)
        subst hi
        refine hbody (hs.imp (fun h => h) fun h => by simp [calmC] at h) _ _ _ (h3 i hinv) (fun e σ' hh a' w' hf' => ?_) a w hfi
        cases e with
        | normal =>
          obtain ⟨k1, k2⟩ := AllP.app (AllT.all hh)
          exact ⟨_, k2.tl.one, _, rfl, k2.hd, weaken hsh.1 (fun h => absurd hsh.2 h) k1 hf'⟩
        | exit j =>
          simp only [Exit.then, Exit.inBlock]
          cases hb : Nat.beq j id with
          | true =>
            simp only [hb, cond_true] at hh
            rw [if_pos (Nat.eq_of_beq_eq_true hb)]
            exact hK _ _ hh a' w' hf'
          | false =>
            simp only [hb, cond_false] at hh
            rw [if_neg (fun e => by rw [e] at hb; simp at hb)]
            exact hK _ _ hh a' w' hf'
        | _ => exact hK _ _ hh a' w' hf'
      · have hbody := ih.2.1 body rfl ro m base w0 S0
        have hsb : ((S0.sh = [] ∧ S0.wb = none) ∧ ro = none ∧ 1 ≤ m) ∨ calmC A body = true := hs.imp (fun h => h) fun h => by simp [calmC] at h
        have key : ∀ (n : Nat) (σ : St) (a : Act) (w : World), (unrollE (evalCode P A body) id K n σ).holds → Fits base w0 S0 σ a w → Code.roundsIn (FW ro) m P body (Exit.inBlock id Q) n a w := by
          intro n
          induction n with
          | zero => intro σ a w h _; simp [unrollE, VT.holds, AllT] at h
          | succ n ihn =>
            intro σ a w h hf
            refine hbody hsb σ _ _ h (fun e σ' hh a' w' hf' => ?_) a w hf
            cases e with
            | normal => exact ihn σ' a' w' hh hf'
            | exit j =>
              simp only [Exit.then, Exit.inBlock]
              cases hb : Nat.beq j id with
              | true =>
                simp only [hb, cond_true] at hh
                rw [if_pos (Nat.eq_of_beq_eq_true hb)]
                exact hK _ _ hh a' w' hf'
              | false =>
                simp only [hb, cond_false] at hh
                rw [if_neg (fun e => by rw [e] at hb; simp at hb)]
                exact hK _ _ hh a' w' hf'
            | _ => exact hK _ _ hh a' w' hf'
        exact wpIn_block (wpIn_loop_rounds (unrollOf A id) (key _ σ a w h hf))
    | rangeFunc g ps asg body =>
      rcases hs with ⟨hsh, hro, hm1⟩ | h'
      · subst hro
        simp only [evalCode] at h
        split at h
        · rename_i C gf caps _ hclo
          split at h
          · rename_i l hasg
            cases hb : !trk && (Nat.beq σ.lo 0 && calmC A body) && (DV.closed.go caps && (gKept C.keep g && (asgFits σ.nt l && allLt σ.nt ps.toList))) with
            | false => simp only [hb, cond_false] at h; exact h.elim
            | true =>
              simp only [hb, cond_true] at h
              simp only [Bool.and_eq_true] at hb
              obtain ⟨⟨htk, hlo, hcalm⟩, hclosed, hkept, hfits, hps⟩ := hb
              have hx0 : trk = false := by simpa using htk
              obtain ⟨h1, hx, hround⟩ := h
              have h1 := AllT.all h1
              have hseq := h1.hd
              have hlen := h1.tl.hd
              obtain ⟨hat, hinv0⟩ := AllP.app h1.tl.tl
              exact range_sound hx0 hm1 hsh.1 hsh.2 (Nat.eq_of_beq_eq_true hlo) hclo hasg hcalm hclosed hkept hfits hps hseq hlen hat hinv0.one (fun hi => hx.2 () hi) hround (fun ro m base w0 S0 => (ih.2.2 g ps asg body rfl).2 ro m base w0 S0) hf hK
          · exact h.elim
        · rename_i C gf fs _ hbnd
          cases hb : Nat.beq σ.lo 0 && (calmC A asg && calmC A body) && (DV.closed.go fs && allLt σ.nt ps.toList) with
          | false => simp only [hb, cond_false] at h; exact h.elim
          | true =>
            simp only [hb, cond_true] at h
            simp only [Bool.and_eq_true] at hb
            obtain ⟨⟨hlo, hcalma, hcalm⟩, hclosed, hps⟩ := hb
            obtain ⟨h1, hx, hround⟩ := h
            have h1 := AllT.all h1
            have hseq := h1.hd
            have hlen := h1.tl.hd
            obtain ⟨hat, hinv0⟩ := AllP.app h1.tl.tl
            exact range_soundB hm1 hsh.1 hsh.2 (Nat.eq_of_beq_eq_true hlo) hbnd hcalma hcalm hclosed hps hseq hlen hat hinv0.one (fun hi => hx.2 () hi) hround (ih.2.2 g ps asg body rfl).1 (ih.2.2 g ps asg body rfl).2 hf hK
        · exact h.elim
      · simp [calmC] at h'
    | _ => exact plain (by simpa only [evalCode] using h) (by simpa only [calmC] using hs)
  | loop body ih => exact ⟨fun ro m base w0 S0 hs σ K Q h hK a w hf => h.elim, fun b e => (by cases e; exact ih.1), fun _ _ _ _ e => by cases e⟩
  | rangeFunc g ps asg body iha ihb => exact ⟨fun ro m base w0 S0 hs σ K Q h hK a w hf => h.elim, fun b e => (by cases e), fun _ _ _ _ e => (by cases e; exact ⟨iha.1, ihb.1⟩)⟩
  | _ => exact ⟨fun ro m base w0 S0 hs σ K Q h hK a w hf => h.elim, fun b e => (by cases e), fun _ _ _ _ e => by cases e⟩
theorem evalCode_sound (hm : P.follows .mixedOrders = true) (hx0 : ExtsOK P A) (c : Code) : SoundAt P A ro m base w0 S0 c := (evalCode_both hm hx0 c).1 ro m base w0 S0
def resOf (P : Program) (σ : St) : ResultVar → Option (DV × List Prop)
  | .tmp t => match (σ.get t).cond? with
    | none => some ((σ.get t).un, [])
    | some _ => none
  | .cell t ty => match σ.get t with
    | .ptr id j => match evLoad P σ.obj ty (.ptr id j) with
      | { d, hw := [], vc } => some (d, vc)
      | _ => none
    | _ => none
def frzL (ob : Heap) : List DV → Option (List DV × List Prop)
  | [] => some ([], [])
  | d :: r => match lend ob d, frzL ob r with
    | some (e, vc), some (es, vcs) => some (e :: es, vc ++ vcs)
    | _, _ => none
def frzP (ob : Heap) : DV → Option (DV × List Prop)
  | .ptr id 0 => match ob id with
    | some (.box cs) => match frzL ob cs with
      | some (es, vc) => some (.cptr es, vc)
      | none => none
    | _ => none
  | d => lend ob d
def frzPL (ob : Heap) : List DV → Option (List DV × List Prop)
  | [] => some ([], [])
  | d :: r => match frzP ob d, frzPL ob r with
    | some (e, vc), some (es, vcs) => some (e :: es, vc ++ vcs)
    | _, _ => none
def frz (ob : Heap) : DV → Option (DV × List Prop)
  | .agg cs => match frzL ob cs with
    | some (es, vc) => some (.agg es, vc)
    | none => none
  | .clo f cs => match frzPL ob cs with
    | some (es, vc) => some (.clo f es, vc)
    | none => none
  | d => frzP ob d
def resList (P : Program) (σ : St) : List ResultVar → Option (List DV × List Prop)
  | [] => some ([], [])
  | rv :: r => match resOf P σ rv with
    | some (d, vc) => match frz σ.obj d, resList P σ r with
      | some (e, vc1), some (es, vcs) => some (e :: es, vc ++ (vc1 ++ vcs))
      | _, _ => none
    | none => none
def resDV : List DV → DV
  | [d] => d
  | l => .tup l
def retVT (P : Program) (fn : Func) (res : DV) (σ : St) : VT := match resList P σ fn.results.toList with
  | some (ds, vc) => .done (vc ++ leN 4 (resDV ds) res)
  | none => .done [False]
def retK (P : Program) (fn : Func) (res : DV) : Exit → St → VT
  | .ret, σ => retVT P fn res σ
  | .normal, σ => retVT P fn res σ
  | _, _ => .done [False]
def entry : List DV → Nat → List (Nat × DV)
  | [], _ => []
  | d :: r, k => (k, d) :: entry r (k + 1)
section
variable {w : World} {σ : St} {a : Act} {kn : Nat → Prop} {blk : Nat → Option Loc}
theorem frzL_sound (r : R base w0 S0 σ kn blk a w) : ∀ {ds es : List DV} {vc : List Prop}, frzL σ.obj ds = some (es, vc) → AllP vc → es.length = ds.length ∧
    ∀ (j : Nat) (d e : DV) (v : Value), ds[j]? = some d → es[j]? = some e → Rel (rdOf w base S0 blk) kn blk d v → RelC (rdRes w S0.S base) e v
  | [], es, vc, h, _ => by
    simp only [frzL, Option.some.injEq, Prod.mk.injEq] at h
    obtain ⟨rfl, rfl⟩ := h
    exact ⟨rfl, by simp⟩
  | d :: ds, es, vc, h, hvc => by
    simp only [frzL] at h
    split at h
    · rename_i e vc1 es1 vcs1 h1 h2
      simp only [Option.some.injEq, Prod.mk.injEq] at h
      obtain ⟨rfl, rfl⟩ := h
      obtain ⟨k1, k2⟩ := AllP.app hvc
      obtain ⟨l1, l2⟩ := frzL_sound r h2 k2
      refine ⟨by simp [l1], fun j d' e' v hd he hv => ?_⟩
      cases j with
      | zero =>
        simp only [List.getElem?_cons_zero, Option.some.injEq] at hd he
        subst hd he
        exact (lend_sound r h1 k1 hv).1
      | succ j => exact l2 j d' e' v (by simpa using hd) (by simpa using he) hv
    · cases h
theorem frzP_sound (r : R base w0 S0 σ kn blk a w) {d e : DV} {vc : List Prop} {v : Value} (h : frzP σ.obj d = some (e, vc)) (hvc : AllP vc) (hv : Rel (rdOf w base S0 blk) kn blk d v) : RelC (rdRes w S0.S base) e v := by
  unfold frzP at h
  split at h
  · rename_i id
    split at h
    · rename_i cs hob
      split at h
      · rename_i es vc' hl
        simp only [Option.some.injEq, Prod.mk.injEq] at h
        obtain ⟨rfl, rfl⟩ := h
        obtain ⟨l1, l2⟩ := frzL_sound r hl hvc
        obtain ⟨g, C, cv, T, hbk, hh, hsz, hr, hone⟩ := (r.objs _ _ hob).2
        cases hv with
        | ptr hk hv h =>
          rw [h g C hbk]
          have cell : ∀ j, j < es.length → ∃ d u, cs[j]? = some d ∧ cv[j]? = some u ∧ w.cell? (Addr.add ⟨g, 0, none⟩ j) = some u := fun j hj => by
            have h1 : j < cs.length := by omega
            have h2 : j < cv.size := by omega
            refine ⟨_, _, List.getElem?_eq_getElem h1, Array.getElem?_eq_getElem h2, ?_⟩
            rw [add_off, Nat.zero_add]
            simp only [World.cell?, hh, Array.getElem?_eq_getElem h2]
            rfl
          refine .cptr (fun j => (w.cell? (Addr.add ⟨g, 0, none⟩ j)).getD undef) (fun j d hd => ?_) (fun j d hd => ?_) fun j d hd => ?_
          · obtain ⟨d', u, h1, h2, h3⟩ := cell j (List.getElem?_eq_some_iff.1 hd).1
            refine ⟨.inl ⟨by rw [h3]; rfl, by rw [h3]; exact hone u (Array.mem_toList_iff.2 (Array.mem_of_getElem? h2))⟩, ?_⟩
            rw [add_off]
            exact own_S r hbk rfl
          · obtain ⟨d', u, h1, h2, h3⟩ := cell j (List.getElem?_eq_some_iff.1 hd).1
            rw [h3]; exact hone u (Array.mem_toList_iff.2 (Array.mem_of_getElem? h2))
          · obtain ⟨d', u, h1, h2, h3⟩ := cell j (List.getElem?_eq_some_iff.1 hd).1
            rw [h3]
            exact l2 j d' d u h1 hd (hr j d' u h1 h2)
      · cases h
    · cases h
  · exact (lend_sound r h hvc hv).1
theorem frzPL_sound (r : R base w0 S0 σ kn blk a w) : ∀ {ds es : List DV} {vc : List Prop}, frzPL σ.obj ds = some (es, vc) → AllP vc → es.length = ds.length ∧
    ∀ (j : Nat) (d e : DV) (v : Value), ds[j]? = some d → es[j]? = some e → Rel (rdOf w base S0 blk) kn blk d v → RelC (rdRes w S0.S base) e v
  | [], es, vc, h, _ => by
    simp only [frzPL, Option.some.injEq, Prod.mk.injEq] at h
    obtain ⟨rfl, rfl⟩ := h
    exact ⟨rfl, by simp⟩
  | d :: ds, es, vc, h, hvc => by
    simp only [frzPL] at h
    split at h
    · rename_i e vc1 es1 vcs1 h1 h2
      simp only [Option.some.injEq, Prod.mk.injEq] at h
      obtain ⟨rfl, rfl⟩ := h
      obtain ⟨k1, k2⟩ := AllP.app hvc
      obtain ⟨l1, l2⟩ := frzPL_sound r h2 k2
      refine ⟨by simp [l1], fun j d' e' v hd he hv => ?_⟩
      cases j with
      | zero =>
        simp only [List.getElem?_cons_zero, Option.some.injEq] at hd he
        subst hd he
        exact frzP_sound r h1 k1 hv
      | succ j => exact l2 j d' e' v (by simpa using hd) (by simpa using he) hv
    · cases h
theorem frz_sound (r : R base w0 S0 σ kn blk a w) {d e : DV} {vc : List Prop} {v : Value} (h : frz σ.obj d = some (e, vc)) (hvc : AllP vc) (hv : Rel (rdOf w base S0 blk) kn blk d v) : RelC (rdRes w S0.S base) e v := by
  unfold frz at h
  split at h
  · split at h
    · rename_i es vc' hl
      simp only [Option.some.injEq, Prod.mk.injEq] at h
      obtain ⟨rfl, rfl⟩ := h
      obtain ⟨l1, l2⟩ := frzL_sound r hl hvc
      cases hv with
      | agg hs hr =>
        refine .agg (by rw [l1]; exact hs) fun j d u hd hu => ?_
        have hlt := (List.getElem?_eq_some_iff.1 hd).1
        have hd' := List.getElem?_eq_getElem (l1 ▸ hlt)
        exact l2 j _ d u hd' hd (hr j _ u hd' hu)
    · cases h
  · split at h
    · rename_i es vc' hl
      simp only [Option.some.injEq, Prod.mk.injEq] at h
      obtain ⟨rfl, rfl⟩ := h
      obtain ⟨l1, l2⟩ := frzPL_sound r hl hvc
      cases hv with
      | clo hs hr =>
        refine .clo (by rw [l1]; exact hs) fun j d u hd hu => ?_
        have hlt := (List.getElem?_eq_some_iff.1 hd).1
        have hd' := List.getElem?_eq_getElem (l1 ▸ hlt)
        exact l2 j _ d u hd' hd (hr j _ u hd' hu)
    · cases h
  · exact frzP_sound r h hvc hv
def resSem (a : Act) : ResultVar → Sem Value
  | .tmp t => pure (a.tmps.getD t undef)
  | .cell b t => do loadVar t (← asAddr (a.tmps.getD b undef))
theorem resOf_sound (r : R base w0 S0 σ kn blk a w) {rv : ResultVar} {d : DV} {vc : List Prop} (h : resOf P σ rv = some (d, vc)) (hvc : AllP vc) :
    ∃ v, (resSem a rv).run P w = .ok v w ∧ Rel (rdOf w base S0 blk) kn blk d v := by
  unfold resOf at h
  split at h
  · rename_i t
    split at h
    · rename_i hc
      simp only [Option.some.injEq, Prod.mk.injEq] at h
      obtain ⟨rfl, rfl⟩ := h
      exact ⟨_, rfl, (r.tmps t).un fun b hb => by rw [hc] at hb; cases hb⟩
    · cases h
  · rename_i t ty
    split at h
    · rename_i id j hp
      split at h
      · rename_i d' vc' he
        simp only [Option.some.injEq, Prod.mk.injEq] at h
        obtain ⟨rfl, rfl⟩ := h
        have hv := r.tmps t
        rw [hp] at hv
        obtain ⟨_, v, hrun, hrel⟩ := evLoad_sound (P := P) (t := ty) r (by rw [he]; exact hvc) hv
        rw [he] at hrel
        obtain ⟨_, ⟨ad, had⟩, _⟩ := ptr_val' hv
        refine ⟨v, ?_, hrel⟩
        simp only [resSem]
        rw [had] at hrun ⊢
        simpa [Instr.loadAt, Instr.sureAddr, asAddr] using hrun
      · cases h
    · cases h
theorem resList_sound (r : R base w0 S0 σ kn blk a w) : ∀ {rs : List ResultVar} {ds : List DV} {vc : List Prop}, resList P σ rs = some (ds, vc) → AllP vc →
    ∃ vs : List Value, (rs.mapM (resSem a)).run P w = .ok vs w ∧ vs.length = ds.length ∧
      ∀ (j : Nat) (d : DV) (u : Value), ds[j]? = some d → vs[j]? = some u → RelC (rdRes w S0.S base) d u
  | [], ds, vc, h, _ => by
    simp only [resList, Option.some.injEq, Prod.mk.injEq] at h
    obtain ⟨rfl, rfl⟩ := h
    exact ⟨[], by simp, rfl, by simp⟩
  | rv :: rs, ds, vc, h, hvc => by
    simp only [resList] at h
    split at h
    · rename_i d vc0 h0
      split at h
      · rename_i e vc1 es vcs h1 h2
        simp only [Option.some.injEq, Prod.mk.injEq] at h
        obtain ⟨rfl, rfl⟩ := h
        obtain ⟨k0, k12⟩ := AllP.app hvc
        obtain ⟨k1, k2⟩ := AllP.app k12
        obtain ⟨v, hrun, hrel⟩ := resOf_sound r h0 k0
        have hc := frz_sound r h1 k1 hrel
        obtain ⟨vs, hruns, hlen, hall⟩ := resList_sound r h2 k2
        refine ⟨v :: vs, ?_, by simp [hlen], fun j d' u hd hu => ?_⟩
        · simp only [List.mapM_cons, Sem.run_bind, hrun, hruns, Result.andThen_ok, Sem.run_pure]
        · cases j with
          | zero => simp at hd hu; subst hd hu; exact hc
          | succ j => exact hall j d' u (by simpa using hd) (by simpa using hu)
      · cases h
    · cases h
theorem results_run (r : R base w0 S0 σ kn blk a w) {fn : Func} {ds : List DV} {vc : List Prop} (h : resList P σ fn.results.toList = some (ds, vc)) (hvc : AllP vc) :
    ∃ v, (results fn a.tmps).run P w = .ok v w ∧ RelC (rdRes w S0.S base) (resDV ds) v := by
  obtain ⟨vs, hrun, hlen, hall⟩ := resList_sound r h hvc
  have hm : (results fn a.tmps).run P w = .ok (if h : vs.toArray.size = 1 then vs.toArray[0] else .tuple vs.toArray) w := by
    have hfun : results fn a.tmps = (do
        let vs ← fn.results.mapM (resSem a)
        return (if h : vs.size = 1 then vs[0] else Value.tuple vs)) := by
      unfold results
      congr 2
    rw [hfun, Array.mapM_eq_mapM_toList]
    simp only [Sem.run_bind, Sem.run_map, hrun, Result.andThen_ok, Sem.run_pure]
  refine ⟨_, hm, ?_⟩
  match ds, vs, hlen, hall with
  | [], [], _, _ => exact .tup rfl (by simp)
  | [d], [v], _, hall => exact hall 0 d v rfl rfl
  | d :: d2 :: r, v :: v2 :: q, hl, hall =>
    have hne : ¬ ((v :: v2 :: q).toArray.size = 1) := by simp
    rw [dif_neg hne]
    exact .tup (by simpa using hl) fun j d' u hd hu => hall j d' u hd (by simpa using hu)
end
theorem look_entry : ∀ (l : List DV) (k t : Nat), look (entry l k) t = if k ≤ t then l[t - k]? else none
  | [], k, t => by simp [entry, look]
  | d :: r, k, t => by
    simp only [entry, look_cons]
    rw [look_entry r (k + 1) t]
    by_cases h : k = t
    · subst h; simp
    · rw [if_neg h]
      by_cases hk : k ≤ t
      · rw [if_pos (by omega), if_pos hk, show t - k = (t - (k + 1)) + 1 by omega, List.getElem?_cons_succ]
      · rw [if_neg (by omega), if_neg hk]
theorem leaves_marks {P : Program} {fn : Func} {w0 : World} {base : Nat} {S : Nat → Prop} {σ : St} {kn : Nat → Prop} {blk : Nat → Option Loc} {res : DV} {rds : List DV} {vc : List Prop} (hwr : w0.heap.size ≤ base)
    (hres : resList P σ fn.results.toList = some (rds, vc)) (hvc : AllP vc) (hle : AllP (leN 4 (resDV rds) res)) : ∀ {ds : List Deferred} {a : Act} {w : World}, a.defers = ds → R base w0 ⟨S, [], w0, none, fun _ => False, fun _ => undef⟩ σ kn blk a w →
    LeavesInM Fence.wide 1 P fn a.tmps (fun e w' => ∃ v, e = .returned v ∧ RelC (rdRes w' S base) res v ∧ Below base w0 w') ds .returning w
  | [], a, w, hd, r => by
    obtain ⟨v, hrun, hrel⟩ := results_run r hres hvc
    exact ⟨v, hrun, v, rfl, leN_sound 4 hle hrel, r.below.none fun _ h => h⟩
  | d :: ds, a, w, hd, r => by
    obtain ⟨D, e, hD, hh⟩ := r.dfr.2 d (by rw [hd]; exact List.mem_cons_self)
    have hnd := r.dfr.1.1
    rw [hd, List.nodup_cons] at hnd
    refine ⟨(by intro h; cases h), .inl ⟨D, _, by rw [e], run_takeDeferred hh, ?_⟩⟩
    have r' : R base w0 ⟨S, [], w0, none, fun _ => False, fun _ => undef⟩ σ kn blk { a with defers := ds } w :=
      ⟨r.below, r.xs, r.hbase, ⟨⟨hnd.2, fun h => by cases h⟩, fun x hx => r.dfr.2 x (by rw [hd]; exact List.mem_cons_of_mem _ hx)⟩, r.kpo, r.rnd, r.mlow, r.shp, r.size, r.tmps, r.objs, r.inj, r.ge, r.live, r.pin⟩
    refine leaves_marks hwr hres hvc hle (a := { a with defers := ds }) rfl (r'.grown (grownBy_putObj' w D _) fun k hk => ?_)
    cases hk
    exact ⟨hD, .inr (not_mapAt_mark hh), Nat.le_trans hwr hD, ⟨_, hh, rfl⟩, fun x hx e2 => hnd.1 (by rw [e, ← e2]; exact hx)⟩
theorem FnC_of (hm : P.follows .mixedOrders = true) {f : FuncId} {fn : Func} {c : Code} {args : List DV} {res : DV} (hf : P.funcs[f]? = some fn) (hb : fn.body = some c) (hn : (fn.name == "runtime.NumGoroutine") = false) (hlen : args.length ≤ fn.ntmps)
    (h : (evalCode P A c { t := entry args 0, h := [], nx := 0, nt := fn.ntmps } (retK P fn res)).holds) (hx0 : ExtsOK P A := by exact extsOK_nil rfl) : FnC P f args res := by
  refine ⟨⟨fn, hf, by rw [hb]; rfl, hn⟩, fun S w vs hvs hargs hglob => callsIn_wide.1 (callsIn_of_wp_marks (F := Fence.wide) (n := 1) hf hb trivial ?_)⟩
  refine evalCode_sound (A := A) (ro := none) (m := 1) (base := w.heap.size) (w0 := w) (S0 := ⟨S, [], w, none, fun _ => False, fun _ => undef⟩) hm hx0 c (.inl ⟨⟨rfl, rfl⟩, rfl, Nat.le_refl 1⟩) _ _ _ h (fun e σ' hh a' w' hf' => ?_) _ _ ?_
  · have fin : (retVT P fn res σ').holds → LeavesInM Fence.wide 1 P fn a'.tmps (fun e w' => ∃ v, e = .returned v ∧ RelC (rdRes w' S w.heap.size) res v ∧ Below w.heap.size w w') a'.defers .returning w' := by
      intro hh
      obtain ⟨kn, blk, r, _⟩ := hf'
      unfold retVT at hh
      split at hh
      · rename_i ds vc hds
        obtain ⟨h1, h2⟩ := AllP.app (AllT.all hh)
        exact leaves_marks (Nat.le_refl _) hds h1 h2 rfl r
      · exact hh.elim
    cases e with
    | ret => exact fin hh
    | normal => exact fin hh
    | _ => exact hh.elim
  · refine ⟨fun _ => False, fun _ => none, ⟨BelowX.refl _ _ _, (fun _ h => h.elim), Nat.le_refl _, ⟨by simp, fun d hd => by cases hd⟩, ⟨Nat.le_refl _, (fun B h => by cases h), fun _ _ h _ _ => h⟩, (fun h => absurd rfl h), (fun B h => by cases h), (fun d v hd => (hglob d v (by simpa using hd)).mono (fun ad u ⟨x, y⟩ => ⟨x, (fun id l e => by cases e), .inl y, fun B h => by cases h⟩) (fun _ h => h) fun _ _ h => h.elim), ?_, fun t => ?_, fun id o ho => ?_, (fun i i' l l' g e => by cases e), (fun i l g e => by cases e), (fun i l e => by cases e), fun t ht => absurd ht (Nat.not_lt_zero t)⟩, fun i hi => hi.elim⟩
    · simp; omega
    · have hrd : ∀ {d v}, RelC (rdArg w S) d v → Rel (rdOf w w.heap.size ⟨S, [], w, none, fun _ => False, fun _ => undef⟩ fun _ => none) (fun _ => False) (fun _ => none) d v := fun hr => hr.mono (fun ad u ⟨x, y⟩ => ⟨x, (fun id l e => by cases e), .inl y, fun B h => by cases h⟩) (fun _ h => h) fun _ _ h => h.elim
      unfold St.get
      simp only [look_entry, Nat.zero_le, if_true, Nat.sub_zero]
      cases ht : args[t]? with
      | none => exact .any _
      | some d =>
        have hlt : t < vs.size := by rw [hvs]; exact (List.getElem?_eq_some_iff.1 ht).1
        have hv : vs[t]? = some vs[t] := Array.getElem?_eq_getElem hlt
        have := hrd (hargs t d _ ht hv)
        simp only [Array.getD_eq_getD_getElem?, Array.getElem?_append, hlt, if_true, hv, Option.getD_some]
        exact this
    · simp [St.obj, look] at ho
def owed (P : Program) (A : Ann) (f : FuncId) (args : List DV) (res : DV) : VT := match P.funcs[f]? with
  | some fn => match fn.body with
    | some c => bif (!(fn.name == "runtime.NumGoroutine")) && Nat.ble args.length fn.ntmps then
        evalCode P A c { t := entry args 0, h := [], nx := 0, nt := fn.ntmps } (retK P fn res) else .done [False]
    | none => .done [False]
  | none => .done [False]
theorem FnC_owed (hm : P.follows .mixedOrders = true) {f : FuncId} {args : List DV} {res : DV} {V : VT} (A : Ann) (e : owed P A f args res = V) (h : V.holds) (hx0 : ExtsOK P A := by exact extsOK_nil rfl) : FnC P f args res := by
  subst e
  unfold owed at h
  split at h
  · rename_i fn hf
    split at h
    · rename_i c hb
      cases hx : ((!(fn.name == "runtime.NumGoroutine")) && Nat.ble args.length fn.ntmps) with
      | false => simp only [hx, cond_false] at h; exact h.elim
      | true =>
        simp only [hx, cond_true] at h
        simp only [Bool.and_eq_true, Bool.not_eq_true'] at hx
        exact FnC_of hm hf hb hx.1 (Nat.le_of_ble_eq_true hx.2) h hx0
    · exact h.elim
  · exact h.elim
def retVR (P : Program) (fn : Func) (n : Nat) (cols : List (Nat → DV)) (σ : St) : VT := match fn.results.toList with
  | [rv] => match resOf P σ rv with
    | some (.row s id 0 len, vc) => match σ.obj id with
      | some (.row n' cols') => bif Nat.beq cols'.length s then .done (vc ++ ((len = n ∧ len ≤ n') :: leC (leN 2) cols' cols n)) else .done [False]
      | _ => .done [False]
    | some (.val (.slice none 0 0), vc) => .done (vc ++ [n = 0])
    | _ => .done [False]
  | _ => .done [False]
def retKR (P : Program) (fn : Func) (n : Nat) (cols : List (Nat → DV)) : Exit → St → VT
  | .ret, σ => retVR P fn n cols σ
  | .normal, σ => retVR P fn n cols σ
  | _, _ => .done [False]
def RowNew (S : Nat → Prop) (base : Nat) (n : Nat) (cols : List (Nat → DV)) (v : Value) (w' : World) : Prop := (v = .slice none 0 0 ∧ n = 0) ∨ ∃ g C cv T, v = .slice (some ⟨g, 0, none⟩) n C ∧ base ≤ g ∧ w'.heap[g]? = some (.cells cv T (0, 0)) ∧ cv.size = C * cols.length ∧ n ≤ C ∧
    ∀ (i j : Nat) (f : Nat → DV), i < n → cols[j]? = some f → ∃ u, cv[i * cols.length + j]? = some u ∧ oneV u = true ∧ RelC (fun a u => rdw w' a u ∧ a.block ≠ g ∧ (S a.block ∨ base ≤ a.block)) (f i) u
theorem results_one {base : Nat} {w0 : World} {S0 : Env} {w : World} {σ : St} {a : Act} {kn : Nat → Prop} {blk : Nat → Option Loc} (r : R base w0 S0 σ kn blk a w) {fn : Func} {rv : ResultVar} {d : DV} {vc : List Prop} (hfn : fn.results.toList = [rv]) (h : resOf P σ rv = some (d, vc)) (hvc : AllP vc) :
    ∃ v, (results fn a.tmps).run P w = .ok v w ∧ Rel (rdOf w base S0 blk) kn blk d v := by
  obtain ⟨v, hrun, hrel⟩ := resOf_sound r h hvc
  refine ⟨v, ?_, hrel⟩
  have hfun : results fn a.tmps = (do
      let vs ← fn.results.mapM (resSem a)
      return (if h : vs.size = 1 then vs[0] else Value.tuple vs)) := by
    unfold results
    congr 2
  rw [hfun, Array.mapM_eq_mapM_toList, hfn]
  simp only [List.mapM_cons, List.mapM_nil, Sem.run_bind, Sem.run_map, hrun, Result.andThen_ok, Sem.run_pure]
  rfl
theorem retVR_sound {base : Nat} {w0 w : World} {S : Nat → Prop} {σ : St} {a : Act} {kn : Nat → Prop} {blk : Nat → Option Loc} (r : R base w0 ⟨S, [], w0, none, fun _ => False, fun _ => undef⟩ σ kn blk a w) {fn : Func} {n : Nat} {cols : List (Nat → DV)} (h : (retVR P fn n cols σ).holds) :
    ∃ v, (results fn a.tmps).run P w = .ok v w ∧ RowNew S base n cols v w := by
  unfold retVR at h
  split at h
  · rename_i rv hfn
    split at h
    · rename_i s id len vc hres
      split at h
      · rename_i n' cols' hob
        cases hb : Nat.beq cols'.length s
        · simp only [hb, cond_false] at h; exact h.elim
        · simp only [hb, cond_true] at h
          have hcs := Nat.eq_of_beq_eq_true hb
          have hisr : isRow σ.obj id s = true := by unfold isRow; rw [hob]; exact hb
          obtain ⟨h1, h2⟩ := AllP.app (AllT.all h)
          obtain ⟨hlen, hle⟩ := h2.hd
          subst hlen
          obtain ⟨k1, k2⟩ := leC_sound h2.tl
          obtain ⟨v, hrun, hrel⟩ := results_one r hfn hres h1
          refine ⟨v, hrun, ?_⟩
          obtain ⟨_, ⟨rfl, _, rfl, _⟩ | ⟨g, C, rfl, hC, hl⟩ | ⟨h0, _⟩⟩ := row_val r hisr hrel
          rotate_left 2
          · omega
          · exact .inl ⟨rfl, rfl⟩
          · obtain ⟨_, hor⟩ := r.objs _ _ hob
            rcases hor with ⟨hln, _⟩ | ⟨g', C', cv, T, hl', hh, hsz, hn', hcell⟩
            · rw [hln] at hl; cases hl
            · rw [hl] at hl'
              cases hl'
              refine .inr ⟨g, C, cv, T, by simp, ((r.ge _ _ _ hl rfl).1.resolve_right fun h => h), hh, by rw [hsz, k1], by omega, fun i j f hi hj => ?_⟩
              have hjl : j < cols'.length := by rw [k1]; exact (List.getElem?_eq_some_iff.1 hj).1
              have hj' := List.getElem?_eq_getElem hjl
              obtain ⟨u, hu, ho, hr⟩ := hcell i j _ (by omega) hj'
              refine ⟨u, by rw [← k1]; exact hu, ho, leN_sound 2 (k2 j _ f hj' hj i hi) (hr.mono (fun ad u ⟨x, y, z, _⟩ => ⟨x, y _ _ hl, z⟩) (fun _ h => h) fun _ _ h => h.elim)⟩
      · exact h.elim
    · rename_i vc hres
      obtain ⟨h1, h2⟩ := AllP.app (AllT.all h)
      obtain ⟨v, hrun, hrel⟩ := results_one r hfn hres h1
      exact ⟨v, hrun, .inl ⟨hrel.val_eq, h2.one⟩⟩
    · exact h.elim
  · exact h.elim
theorem leaves_marksR {P : Program} {fn : Func} {w0 : World} {base : Nat} {S : Nat → Prop} {σ : St} {kn : Nat → Prop} {blk : Nat → Option Loc} {n : Nat} {cols : List (Nat → DV)} (hwr : w0.heap.size ≤ base)
    (hres : (retVR P fn n cols σ).holds) : ∀ {ds : List Deferred} {a : Act} {w : World}, a.defers = ds → R base w0 ⟨S, [], w0, none, fun _ => False, fun _ => undef⟩ σ kn blk a w →
    LeavesInM Fence.wide 1 P fn a.tmps (fun e w' => ∃ v, e = .returned v ∧ Below base w0 w' ∧ RowNew S base n cols v w') ds .returning w
  | [], a, w, hd, r => by
    obtain ⟨v, hrun, hrow⟩ := retVR_sound r hres
    exact ⟨v, hrun, v, rfl, r.below.none fun _ h => h, hrow⟩
  | d :: ds, a, w, hd, r => by
    obtain ⟨D, e, hD, hh⟩ := r.dfr.2 d (by rw [hd]; exact List.mem_cons_self)
    have hnd := r.dfr.1.1
    rw [hd, List.nodup_cons] at hnd
    refine ⟨(by intro h; cases h), .inl ⟨D, _, by rw [e], run_takeDeferred hh, ?_⟩⟩
    have r' : R base w0 ⟨S, [], w0, none, fun _ => False, fun _ => undef⟩ σ kn blk { a with defers := ds } w :=
      ⟨r.below, r.xs, r.hbase, ⟨⟨hnd.2, fun h => by cases h⟩, fun x hx => r.dfr.2 x (by rw [hd]; exact List.mem_cons_of_mem _ hx)⟩, r.kpo, r.rnd, r.mlow, r.shp, r.size, r.tmps, r.objs, r.inj, r.ge, r.live, r.pin⟩
    refine leaves_marksR hwr hres (a := { a with defers := ds }) rfl (r'.grown (grownBy_putObj' w D _) fun k hk => ?_)
    cases hk
    exact ⟨hD, .inr (not_mapAt_mark hh), Nat.le_trans hwr hD, ⟨_, hh, rfl⟩, fun x hx e2 => hnd.1 (by rw [e, ← e2]; exact hx)⟩
theorem FnR_of (hm : P.follows .mixedOrders = true) {f : FuncId} {fn : Func} {c : Code} {args : List DV} {n : Nat} {cols : List (Nat → DV)} (hf : P.funcs[f]? = some fn) (hb : fn.body = some c) (hn : (fn.name == "runtime.NumGoroutine") = false) (hlen : args.length ≤ fn.ntmps)
    (h : (evalCode P A c { t := entry args 0, h := [], nx := 0, nt := fn.ntmps } (retKR P fn n cols)).holds) (hx0 : ExtsOK P A := by exact extsOK_nil rfl) : FnR P f args n cols := by
  refine ⟨⟨fn, hf, by rw [hb]; rfl, hn⟩, fun S w vs hvs hargs hglob => callsIn_wide.1 (callsIn_of_wp_marks (F := Fence.wide) (n := 1) hf hb trivial ?_)⟩
  refine evalCode_sound (A := A) (ro := none) (m := 1) (base := w.heap.size) (w0 := w) (S0 := ⟨S, [], w, none, fun _ => False, fun _ => undef⟩) hm hx0 c (.inl ⟨⟨rfl, rfl⟩, rfl, Nat.le_refl 1⟩) _ _ _ h (fun e σ' hh a' w' hf' => ?_) _ _ ?_
  · have fin : (retVR P fn n cols σ').holds → LeavesInM Fence.wide 1 P fn a'.tmps (fun e w' => ∃ v, e = .returned v ∧ Below w.heap.size w w' ∧ RowNew S w.heap.size n cols v w') a'.defers .returning w' := by
      intro hh
      obtain ⟨kn, blk, r, _⟩ := hf'
      exact leaves_marksR (Nat.le_refl _) hh rfl r
    cases e with
    | ret => exact fin hh
    | normal => exact fin hh
    | _ => exact hh.elim
  · refine ⟨fun _ => False, fun _ => none, ⟨BelowX.refl _ _ _, (fun _ h => h.elim), Nat.le_refl _, ⟨by simp, fun d hd => by cases hd⟩, ⟨Nat.le_refl _, (fun B h => by cases h), fun _ _ h _ _ => h⟩, (fun h => absurd rfl h), (fun B h => by cases h), (fun d v hd => (hglob d v (by simpa using hd)).mono (fun ad u ⟨x, y⟩ => ⟨x, (fun id l e => by cases e), .inl y, fun B h => by cases h⟩) (fun _ h => h) fun _ _ h => h.elim), ?_, fun t => ?_, fun id o ho => ?_, (fun i i' l l' g e => by cases e), (fun i l g e => by cases e), (fun i l e => by cases e), fun t ht => absurd ht (Nat.not_lt_zero t)⟩, fun i hi => hi.elim⟩
    · simp; omega
    · have hrd : ∀ {d v}, RelC (rdArg w S) d v → Rel (rdOf w w.heap.size ⟨S, [], w, none, fun _ => False, fun _ => undef⟩ fun _ => none) (fun _ => False) (fun _ => none) d v := fun hr => hr.mono (fun ad u ⟨x, y⟩ => ⟨x, (fun id l e => by cases e), .inl y, fun B h => by cases h⟩) (fun _ h => h) fun _ _ h => h.elim
      unfold St.get
      simp only [look_entry, Nat.zero_le, if_true, Nat.sub_zero]
      cases ht : args[t]? with
      | none => exact .any _
      | some d =>
        have hlt : t < vs.size := by rw [hvs]; exact (List.getElem?_eq_some_iff.1 ht).1
        have hv : vs[t]? = some vs[t] := Array.getElem?_eq_getElem hlt
        have := hrd (hargs t d _ ht hv)
        simp only [Array.getD_eq_getD_getElem?, Array.getElem?_append, hlt, if_true, hv, Option.getD_some]
        exact this
    · simp [St.obj, look] at ho
def owedR (P : Program) (A : Ann) (f : FuncId) (args : List DV) (n : Nat) (cols : List (Nat → DV)) : VT := match P.funcs[f]? with
  | some fn => match fn.body with
    | some c => bif (!(fn.name == "runtime.NumGoroutine")) && Nat.ble args.length fn.ntmps then
        evalCode P A c { t := entry args 0, h := [], nx := 0, nt := fn.ntmps } (retKR P fn n cols) else .done [False]
    | none => .done [False]
  | none => .done [False]
theorem FnR_owed (hm : P.follows .mixedOrders = true) {f : FuncId} {args : List DV} {n : Nat} {cols : List (Nat → DV)} {V : VT} (A : Ann) (e : owedR P A f args n cols = V) (h : V.holds) (hx0 : ExtsOK P A := by exact extsOK_nil rfl) : FnR P f args n cols := by
  subst e
  unfold owedR at h
  split at h
  · rename_i fn hf
    split at h
    · rename_i c hb
      cases hx : ((!(fn.name == "runtime.NumGoroutine")) && Nat.ble args.length fn.ntmps) with
      | false => simp only [hx, cond_false] at h; exact h.elim
      | true =>
        simp only [hx, cond_true] at h
        simp only [Bool.and_eq_true, Bool.not_eq_true'] at hx
        exact FnR_of hm hf hb hx.1 (Nat.le_of_ble_eq_true hx.2) h hx0
    · exact h.elim
  · exact h.elim
def iOf : DV → Int
  | .val (.int _ n) => n
  | _ => 0
def nOf : DV → Nat
  | .row _ _ _ len => len
  | _ => 0
def colD (j : Nat) : DV → Nat → DV
  | .lst _ cols => match cols[j]? with
    | some c => c
    | none => fun _ => .any
  | _ => fun _ => .any
def colI (j : Nat) (d : DV) (i : Nat) : Int := iOf (colD j d i)
def lenOf : DV → Nat
  | .lst n _ => n
  | _ => 0
def arg (l : List DV) (j : Nat) : DV := match l[j]? with
  | some d => d
  | none => .any
def fD (j : Nat) : DV → DV
  | .val (.agg vs) => match vs[j]? with
    | some v => .val v
    | none => .any
  | .agg cs => match cs[j]? with
    | some d => d
    | none => .any
  | _ => .any
def fI (j : Nat) (d : DV) : Int := iOf (fD j d)
abbrev dI (n : Int) : DV := .val (.int .i64 n)
abbrev dB (b : Bool) : DV := .val (.bool b)
end
end Go.Abs
end
