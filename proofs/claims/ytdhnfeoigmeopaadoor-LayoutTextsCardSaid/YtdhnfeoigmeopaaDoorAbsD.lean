/- A region's operations, one behind the other. -/
import Derived.Test.YtdhnfeoigmeopaaDoorAbsC
namespace Go.Abs
open Go.RowKit
def St.ev (σ : St) : Operand → DV
  | .tmp t => σ.get t
  | .const v => .val v
  | .func f => .val (.func (.func f) #[] #[])
  | .global g => match look gl g with
    | some cs => .cptr cs
    | none => .any
def condVC (σ : St) : List Operand → List Prop
  | [] => []
  | y :: r => match (σ.ev y).cond? with
    | none => condVC σ r
    | some b => (b = true) :: condVC σ r
inductive Grd where
  | always
  | when (b : Bool)
  | unknown
def grd (ops : Array Oper) (σ : St) (o : Oper) : Grd := match o.guard with
  | none => .always
  | some (j, want) => match (ops[j]?).bind (·.dst) with
    | some t => match (σ.get t).un with
      | .val (.bool p) => match (σ.get t).cond? with
        | none => .when (match want with | true => p | false => !p)
        | some q => .when (q && (match want with | true => p | false => !p))
      | _ => .unknown
    | none => .unknown
def evOpR (P : Program) (oc : Orc) (id : Nat) (o : Oper) (x : Operand → DV) (ob : Heap) : Bool → Eff
  | false => evOp P oc id o x ob
  | true => match o.op with
    | .makeMap _ _ => bad
    | .call c => match c.callee with
      | .value _ => match evOp P oc id o x ob with
        | { d, hw, vc } => bif d.plain then { d, hw, vc } else { hw, vc := [False] }
      | _ => evOp P oc id o x ob
    | _ => evOp P oc id o x ob
def opEff0 (P : Program) (oc : Orc) (id : Nat) (σ : St) (o : Oper) : Eff := match condVC σ o.op.operands.toList with
  | [] => evOpR P oc id o (fun y => (σ.ev y).un) σ.obj σ.rn
  | p :: ps => match evOpR P oc id o (fun y => (σ.ev y).un) σ.obj σ.rn with
    | { d, hw, vc } => { d, hw, vc := (p :: ps) ++ vc }
def plainEff (P : Program) (oc : Orc) (id : Nat) (σ : St) (o : Oper) : Eff := match o.op with
  | .pick c a b => evPick (σ.ev c) (σ.ev a) (σ.ev b)
  | _ => opEff0 P oc id σ o
def selBox (b : Bool) : List DV → List DV → Option (List DV)
  | [], [] => some []
  | .val v :: r, .val u :: q => match selV b v u, selBox b r q with
    | some x, some l => some (.val x :: l)
    | _, _ => none
  | _, _ => none
def selHw (b : Bool) (ob : Heap) : List (Nat × Option AObj) → Option (List (Nat × Option AObj))
  | [] => some []
  | (id, some (.box cs)) :: r => match ob id with
    | some (.box cs0) => match selBox b cs cs0, selHw b ob r with
      | some l, some t => some ((id, some (.box l)) :: t)
      | _, _ => none
    | _ => none
  | (id, some (.row n [c])) :: r => match ob id with
    | some (.row _ [c0]) => match selHw b ob r with
      | some t => some ((id, some (.row n [fun i => .val (.int .i64 (if b = true then iOfC (c i) else iOfC (c0 i)))])) :: t)
      | none => none
    | _ => none
  | _ => none
def selVC (ob : Heap) : List (Nat × Option AObj) → List Prop
  | [] => []
  | (id, some (.row n [c])) :: r => match ob id with
    | some (.row n0 [c0]) => (n = n0) :: intCol c :: intCol c0 :: selVC ob r
    | _ => selVC ob r
  | _ :: r => selVC ob r
theorem intCol_fun {c : Nat → DV} (h : intCol c) : (fun i => .val (.int .i64 (iOfC (c i)))) = c := by
  funext i
  have := h i
  split at this
  · rename_i n e
    rw [e]; rfl
  · exact this.elim
theorem selV_true {v u x : Value} (h : selV true v u = some x) : x = v := by
  unfold selV at h
  split at h
  · split at h
    · simp only [if_true, Option.some.injEq] at h; exact h.symm
    · cases h
  · simp only [if_true, Option.some.injEq] at h; exact h.symm
  · simp only [if_true, Option.some.injEq] at h; exact h.symm
  · cases h
theorem selV_false {v u x : Value} (h : selV false v u = some x) : x = u := by
  unfold selV at h
  split at h
  · split at h
    · rename_i hk; subst hk; simp only [Bool.false_eq_true, if_false, Option.some.injEq] at h; exact h.symm
    · cases h
  · simp only [Bool.false_eq_true, if_false, Option.some.injEq] at h; exact h.symm
  · simp only [Bool.false_eq_true, if_false, Option.some.injEq] at h; exact h.symm
  · cases h
theorem selBox_true : ∀ {cs ds l : List DV}, selBox true cs ds = some l → l = cs
  | [], [], l, h => by simp only [selBox, Option.some.injEq] at h; exact h.symm
  | [], _ :: _, l, h => by simp [selBox] at h
  | c :: r, [], l, h => by cases c <;> simp [selBox] at h
  | c :: r, d :: q, l, h => by
    cases c <;> cases d <;> simp only [selBox] at h <;> first | (cases h; done) | skip
    split at h
    · rename_i x l' h1 h2
      simp only [Option.some.injEq] at h
      rw [← h, selV_true h1, selBox_true h2]
    · cases h
theorem selBox_false : ∀ {cs ds l : List DV}, selBox false cs ds = some l → l = ds
  | [], [], l, h => by simp only [selBox, Option.some.injEq] at h; exact h.symm
  | [], _ :: _, l, h => by simp [selBox] at h
  | c :: r, [], l, h => by cases c <;> simp [selBox] at h
  | c :: r, d :: q, l, h => by
    cases c <;> cases d <;> simp only [selBox] at h <;> first | (cases h; done) | skip
    split at h
    · rename_i x l' h1 h2
      simp only [Option.some.injEq] at h
      rw [← h, selV_false h1, selBox_false h2]
    · cases h
theorem selHw_true {ob : Heap} : ∀ {hw hw' : List (Nat × Option AObj)}, (∀ p ∈ selVC ob hw, p) → selHw true ob hw = some hw' → hw' = hw
  | [], hw', _, h => by simp only [selHw, Option.some.injEq] at h; exact h.symm
  | (id, none) :: r, hw', _, h => by simp [selHw] at h
  | (id, some o) :: r, hw', hv, h => by
    unfold selHw at h
    split at h
    · rename_i e; cases e
    · rename_i id' cs r' e
      cases e
      split at h
      · split at h
        · rename_i l t h1 h2
          simp only [Option.some.injEq] at h
          rw [← h, selBox_true h1, selHw_true (fun p hp => hv p (by simpa only [selVC] using hp)) h2]
        · cases h
      · cases h
    · rename_i id' n c r' e
      cases e
      split at h
      · rename_i n0 c0 ho
        simp only [selVC, ho] at hv
        split at h
        · rename_i t h2
          simp only [Option.some.injEq] at h
          rw [← h, selHw_true (fun p hp => hv p (List.mem_cons_of_mem _ (List.mem_cons_of_mem _ (List.mem_cons_of_mem _ hp)))) h2]
          simp only [if_true]
          rw [intCol_fun (hv _ (List.mem_cons_of_mem _ List.mem_cons_self))]
        · cases h
      · cases h
    · cases h
theorem selHw_false {ob : Heap} {id : Nat} {o : Option AObj} : ∀ {hw hw' : List (Nat × Option AObj)}, (∀ p ∈ selVC ob hw, p) → selHw false ob hw = some hw' → look hw' id = some o → o = ob id
  | [], hw', _, h, hl => by simp only [selHw, Option.some.injEq] at h; subst h; simp [look] at hl
  | (i, none) :: r, hw', _, h, hl => by simp [selHw] at h
  | (i, some x) :: r, hw', hv, h, hl => by
    unfold selHw at h
    split at h
    · rename_i e; cases e
    · rename_i id' cs r' e
      cases e
      split at h
      · rename_i cs0 ho
        split at h
        · rename_i l t h1 h2
          simp only [Option.some.injEq] at h
          subst h
          rw [look_cons] at hl
          by_cases hi : i = id
          · rw [if_pos hi] at hl
            subst hi
            rw [ho, ← Option.some.inj hl, selBox_false h1]
          · rw [if_neg hi] at hl
            exact selHw_false (fun p hp => hv p (by simpa only [selVC] using hp)) h2 hl
        · cases h
      · cases h
    · rename_i id' n c r' e
      cases e
      split at h
      · rename_i n0 c0 ho
        simp only [selVC, ho] at hv
        split at h
        · rename_i t h2
          simp only [Option.some.injEq] at h
          have hn : n = n0 := hv _ List.mem_cons_self
          subst hn
          subst h
          rw [look_cons] at hl
          by_cases hi : i = id
          · rw [if_pos hi] at hl
            subst hi
            rw [ho, ← Option.some.inj hl]
            simp only [Bool.false_eq_true, if_false]
            rw [intCol_fun (hv _ (List.mem_cons_of_mem _ (List.mem_cons_of_mem _ List.mem_cons_self)))]
          · rw [if_neg hi] at hl
            exact selHw_false (fun p hp => hv p (List.mem_cons_of_mem _ (List.mem_cons_of_mem _ (List.mem_cons_of_mem _ hp)))) h2 hl
        · cases h
      · cases h
    · cases h
theorem selHw_ids {b : Bool} {ob : Heap} : ∀ {hw hw' : List (Nat × Option AObj)}, selHw b ob hw = some hw' → hw'.map (·.1) = hw.map (·.1)
  | [], hw', h => by simp only [selHw, Option.some.injEq] at h; rw [← h]
  | (i, none) :: r, hw', h => by simp [selHw] at h
  | (i, some x) :: r, hw', h => by
    unfold selHw at h
    split at h
    · rename_i e; cases e
    · rename_i id' cs r' e
      cases e
      split at h
      · split at h
        · rename_i l t h1 h2
          simp only [Option.some.injEq] at h
          rw [← h, List.map_cons, List.map_cons, selHw_ids h2]
        · cases h
      · cases h
    · rename_i id' n c r' e
      cases e
      split at h
      · rename_i n0 c0 ho
        split at h
        · rename_i t h2
          simp only [Option.some.injEq] at h
          rw [← h, List.map_cons, List.map_cons, selHw_ids h2]
        · cases h
      · cases h
    · cases h
theorem selHw_local {b : Bool} {ob ob' : Heap} : ∀ {hw : List (Nat × Option AObj)}, (∀ i ∈ hw.map (·.1), ob i = ob' i) → selHw b ob hw = selHw b ob' hw ∧ selVC ob hw = selVC ob' hw
  | [], _ => ⟨rfl, rfl⟩
  | (i, x) :: r, h => by
    have h1 := h i (by simp)
    obtain ⟨h2, h3⟩ := selHw_local (b := b) (hw := r) fun j hj => h j (List.mem_cons_of_mem _ hj)
    cases x with
    | none => exact ⟨rfl, by simp only [selVC, h3]⟩
    | some o =>
      cases o with
      | row n cols =>
        cases cols with
        | nil => exact ⟨rfl, by simp only [selVC, h3]⟩
        | cons c cs => cases cs <;> exact ⟨by simp only [selHw, h1, h2], by simp only [selVC, h1, h3]⟩
      | _ => exact ⟨by simp only [selHw, h1, h2], by simp only [selVC, h3]⟩
def opEff (P : Program) (ops : Array Oper) (oc : Orc) (id : Nat) (σ : St) (o : Oper) : Eff := match grd ops σ o with
  | .always => plainEff P oc id σ o
  | .when b => let e := plainEff P oc id σ o
    match e.hw with
    | [] => { d := .opt b e.d, vc := e.vc.map fun p => (b = true → p) }
    | hw => match selHw b σ.obj hw with
      | some hw' => { d := .opt b e.d, hw := hw', vc := selVC σ.obj hw ++ e.vc.map fun p => (b = true → p) }
      | none => { d := .opt b e.d, hw := hw, vc := (b = true) :: e.vc }
  | .unknown => bad
def St.eff (σ : St) (dst : Option Tmp) (e : Eff) : St := { σ with t := match dst with | some t => (t, e.d) :: σ.t | none => σ.t, h := e.hw ++ σ.h }
def dstOK (nt lo : Nat) : Option Tmp → Bool
  | some t => bif Nat.ble lo t then Nat.blt t nt else false
  | none => true
def orcAt : List (Nat × Orc) → Nat → Orc
  | l, k => match look l k with
    | some o => o
    | none => .no
def runOps (P : Program) (ops : Array Oper) (orc : List (Nat × Orc)) (n0 : Nat) : List Oper → Nat → St → List Prop → St × List Prop
  | [], _, σ, vc => (σ, vc)
  | o :: r, k, σ, vc => let e := opEff P ops (orcAt orc k) (n0 + k) σ o
    runOps P ops orc n0 r (k + 1) (σ.eff o.dst e) (vc ++ (bif dstOK σ.nt σ.lo o.dst then e.vc else [False]))
def AllT : List Prop → Prop
  | [] => True
  | [p] => p
  | p :: r => p ∧ AllT r
def regionOut (P : Program) (ops : Array Oper) (orc : List (Nat × Orc)) (σ : St) : St × List Prop :=
  runOps P ops orc σ.nx ops.toList 0 { σ with nx := σ.nx + ops.size } []
end Go.Abs
