/- What an operation looks at: its operands, and the objects that these name. -/
import Derived.Test.YtdhnfeoigmeopaaDoorAbsN
namespace Go.Abs
open Go.RowKit
def topId : DV → List Nat
  | .ptr id _ => [id]
  | .rptr _ id _ _ => [id]
  | .row _ id _ _ => [id]
  | .mph id => [id]
  | .tok _ m => [m]
  | .grd _ g _ => [g]
  | .gptr _ g _ _ => [g]
  | _ => []
def topIds : DV → List Nat
  | .clo _ caps => go caps
  | .bnd _ fs => go fs
  | .agg cs => go cs
  | d => topId d
where go : List DV → List Nat
  | [] => []
  | d :: r => topId d ++ go r
theorem topIds_of {d : DV} {id : Nat} (h : id ∈ topId d) : id ∈ topIds d := by
  cases d <;> first | exact h | simp [topId] at h
theorem mem_go : ∀ {caps : List DV} {d : DV} {id : Nat}, d ∈ caps → id ∈ topId d → id ∈ topIds.go caps
  | c :: r, d, id, hd, hi => by
    simp only [topIds.go, List.mem_append]
    rcases List.mem_cons.1 hd with rfl | hd
    · exact .inl hi
    · exact .inr (mem_go hd hi)
def tmpReads (ops : Array Oper) (o : Oper) : List Nat := o.looksAt ops
def objReads (σ : St) : List Operand → List Nat
  | [] => []
  | y :: r => topIds (σ.ev y).un ++ objReads σ r
theorem mem_objReads {σ : St} : ∀ {l : List Operand} {y : Operand} {id : Nat}, y ∈ l → id ∈ topIds (σ.ev y).un → id ∈ objReads σ l
  | c :: r, y, id, hy, hi => by
    simp only [objReads, List.mem_append]
    rcases List.mem_cons.1 hy with rfl | hy
    · exact .inl hi
    · exact .inr (mem_objReads hy hi)
def looksOb : Op → Bool
  | .buildSlice .. => true
  | .slice .. => true
  | .load .. => true
  | .store .. => true
  | .lookup .. => true
  | .mapUpdate .. => true
  | .mapEntry .. => true
  | .entryStore .. => true
  | .convert .. => true
  | .call c => match c.callee with
    | .builtin .len => false
    | .builtin .min => false
    | .builtin .max => false
    | _ => true
  | _ => false
def lookOps (op : Op) : List Operand := bif looksOb op then op.operands.toList else []
theorem mem_lookOps {op : Op} (h : looksOb op = true) {y : Operand} (hy : y ∈ op.operands.toList) : y ∈ lookOps op := by rw [lookOps, h]; exact hy
section
variable {P : Program} {ob ob' : Heap}
theorem readAt_local {p : DV} (h : ∀ id ∈ topId p, ob id = ob' id) : readAt ob p = readAt ob' p := by
  cases p <;> first | rfl | (simp only [topId, List.mem_singleton, forall_eq] at h; simp only [readAt, h])
theorem evLoad_local {t : TypeId} {p : DV} (h : ∀ id ∈ topId p, ob id = ob' id) : evLoad P ob t p = evLoad P ob' t p := by simp only [evLoad, readAt_local h]
theorem evStore_local {t : TypeId} {p d : DV} (h : ∀ id ∈ topId p, ob id = ob' id) : evStore P ob t p d = evStore P ob' t p d := by
  cases p <;> first | rfl | (simp only [topId, List.mem_singleton, forall_eq] at h; simp only [evStore, h])
theorem evLoadO_local {id : Nat} {t : TypeId} {p : DV} (h : ∀ id ∈ topId p, ob id = ob' id) : evLoadO P ob id t p = evLoadO P ob' id t p := by
  cases p with
  | gptr s g i j => simp only [topId, List.mem_singleton, forall_eq] at h; simp only [evLoadO, evGout, h]
  | _ => simp only [evLoadO]; exact evLoad_local h
theorem evStoreO_local {t : TypeId} {p d : DV} (h : ∀ id ∈ topId p, ob id = ob' id) (h2 : ∀ id ∈ topId d, ob id = ob' id) : evStoreO P ob t p d = evStoreO P ob' t p d := by
  cases p with
  | gptr s g i j =>
    simp only [topId, List.mem_singleton, forall_eq] at h
    cases d with
    | row s' r off n =>
      simp only [topId, List.mem_singleton, forall_eq] at h2
      match s', off with
      | 1, 0 => simp only [evStoreO, evGin, h, h2]
      | 0, _ => rfl
      | 1, _ + 1 => rfl
      | _ + 2, _ => rfl
    | _ => rfl
  | _ => simp only [evStoreO]; exact evStore_local h
theorem evIndexAddr_any {t : TypeId} {x i : DV} : evIndexAddr P ob t x i = evIndexAddr P ob' t x i := by unfold evIndexAddr; rfl
theorem evSlice_local {t : TypeId} {x : DV} {lo hi : Option DV} (h : ∀ id ∈ topId x, ob id = ob' id) : evSlice P ob t x lo hi = evSlice P ob' t x lo hi := by
  cases x with
  | val v => cases v <;> first | rfl | (rename_i a n c; cases a <;> cases n <;> cases c <;> rfl)
  | row s' id off len =>
    simp only [topId, List.mem_singleton, forall_eq] at h
    simp only [evSlice, isRow, h]
  | _ => rfl
theorem evConvS_local {src dst : TypeId} {x : DV} (h : ∀ id ∈ topId x, ob id = ob' id) : evConvS P ob src dst x = evConvS P ob' src dst x := by
  cases x with
  | row s id off len =>
    simp only [topId, List.mem_singleton, forall_eq] at h
    simp only [evConvS, convRow, h]
  | _ => rfl
theorem evSliceO_local {oc : Orc} {id : Nat} {t : TypeId} {x : DV} {lo hi : Option DV} (h : ∀ id ∈ topId x, ob id = ob' id) : evSliceO P oc id ob t x lo hi = evSliceO P oc id ob' t x lo hi := by
  unfold evSliceO
  split
  · cases hi with
    | some _ => rfl
    | none =>
      cases x with
      | row s' r off len =>
        simp only [topId, List.mem_singleton, forall_eq] at h
        cases off <;> simp only [evSliceB, h]
      | _ => simp only [evSliceB]
  · exact evSlice_local h
theorem evLen_any {t : TypeId} {x : DV} : evLen P ob t x = evLen P ob' t x := by unfold evLen; rfl
theorem source_local {s : Nat} {x : DV} (h : ∀ id ∈ topId x, ob id = ob' id) : source ob s x = source ob' s x := by
  cases x with
  | val v => cases v <;> first | rfl | (rename_i a n c; cases a <;> cases n <;> cases c <;> rfl)
  | row s' id off len => simp only [topId, List.mem_singleton, forall_eq] at h; simp only [source, h]
  | tok t m => simp only [topId, List.mem_singleton, forall_eq] at h; simp only [source, h]
  | _ => rfl
theorem evAppend_local {id : Nat} {t : TypeId} {x y : DV} (h : ∀ id ∈ topId x, ob id = ob' id) (h2 : ∀ id ∈ topId y, ob id = ob' id) : evAppend P ob id t x y = evAppend P ob' id t x y := by
  unfold evAppend
  simp only [source_local h2]
  cases x with
  | val v => cases v <;> first | rfl | (rename_i a n c; cases a <;> cases n <;> cases c <;> rfl)
  | row s' r off len =>
    simp only [topId, List.mem_singleton, forall_eq] at h
    cases off with
    | zero => simp only [h]
    | succ => rfl
  | tok t m =>
    simp only [topId, List.mem_singleton, forall_eq] at h
    simp only [h]
  | _ => rfl
theorem lend_local {x : DV} (h : ∀ id ∈ topId x, ob id = ob' id) : lend ob x = lend ob' x := by
  cases x <;> first | rfl | (simp only [topId, List.mem_singleton, forall_eq] at h; simp only [lend, h])
theorem lends_local : ∀ {l : List DV}, (∀ d ∈ l, ∀ id ∈ topId d, ob id = ob' id) → lends ob l = lends ob' l
  | [], _ => rfl
  | d :: r, h => by
    simp only [lends]
    rw [lend_local (h d List.mem_cons_self), lends_local fun d' hd => h d' (List.mem_cons_of_mem _ hd)]
theorem lendA_local {x : DV} (h : ∀ id ∈ topIds x, ob id = ob' id) : lendA ob x = lendA ob' x := by
  cases x with
  | agg cs => simp only [lendA]; rw [lends_local fun d hd id hi => h id (mem_go hd hi)]
  | _ => rfl
theorem lendParts_local : ∀ {l : List (Nat × DV)}, (∀ p ∈ l, ∀ id ∈ topIds p.2, ob id = ob' id) → lendParts ob l = lendParts ob' l
  | [], _ => rfl
  | (i, d) :: r, h => by
    simp only [lendParts]
    rw [lendA_local (h (i, d) List.mem_cons_self), lendParts_local fun d' hd => h d' (List.mem_cons_of_mem _ hd)]
theorem lendP_local {x : DV} (h : ∀ id ∈ topId x, ob id = ob' id) : lendP ob x = lendP ob' x := by
  cases x with
  | ptr id j =>
    simp only [topId, List.mem_singleton, forall_eq] at h
    cases j with
    | zero => simp only [lendP, h]
    | succ j => rfl
  | _ => exact lend_local h
theorem lendPL_local : ∀ {l : List DV}, (∀ d ∈ l, ∀ id ∈ topId d, ob id = ob' id) → lendPL ob l = lendPL ob' l
  | [], _ => rfl
  | d :: r, h => by
    simp only [lendPL]
    rw [lendP_local (h d List.mem_cons_self), lendPL_local fun d' hd => h d' (List.mem_cons_of_mem _ hd)]
theorem lendB_local {x : DV} (h : ∀ id ∈ topIds x, ob id = ob' id) : lendB ob x = lendB ob' x := by
  cases x with
  | clo f cs => simp only [lendB]; rw [lendPL_local fun d hd id hi => h id (mem_go hd hi)]
  | agg cs => simp only [lendB]; rw [lendPL_local fun d hd id hi => h id (mem_go hd hi)]
  | _ => exact lendP_local fun id hi => h id (topIds_of hi)
theorem lendBs_local : ∀ {l : List DV}, (∀ d ∈ l, ∀ id ∈ topIds d, ob id = ob' id) → lendBs ob l = lendBs ob' l
  | [], _ => rfl
  | d :: r, h => by
    simp only [lendBs]
    rw [lendB_local (h d List.mem_cons_self), lendBs_local fun d' hd => h d' (List.mem_cons_of_mem _ hd)]
theorem closed_noId : ∀ {d : DV}, d.closed = true → topId d = [] := by
  intro d h
  cases d <;> first | rfl | simp [DV.closed] at h
theorem closed_noIds : ∀ {cs : List DV}, DV.closed.go cs = true → topIds.go cs = []
  | [], _ => rfl
  | d :: r, h => by
    simp only [DV.closed.go] at h
    cases hd : d.closed
    · simp [hd] at h
    · simp only [hd, cond_true] at h
      simp only [topIds.go, closed_noId hd, closed_noIds h, List.append_nil]
theorem flat_ids : ∀ {cap : List DV}, flatCaps cap = true → ∀ d ∈ cap, ∀ id ∈ topIds d, id ∈ topId d
  | c :: r, h, d, hd, id, hi => by
    have hr : flatCaps r = true := by
      cases c <;> first | exact h | skip
      all_goals
        rename_i cs
        simp only [flatCaps] at h
        cases hc : DV.closed.go cs
        · simp [hc] at h
        · simpa [hc] using h
    rcases List.mem_cons.1 hd with rfl | hd
    · cases d <;> first | exact hi | skip
      all_goals
        rename_i cs
        simp only [flatCaps] at h
        cases hc : DV.closed.go cs
        · simp [hc] at h
        · simp only [topIds, closed_noIds hc] at hi
          cases hi
    · exact flat_ids hr d hd id hi
theorem turnEff_local {f : FuncId} {A' : Nat → Int} {l : List DV} (h : ∀ d ∈ l, ∀ id ∈ topId d, ob id = ob' id) : turnEff P f ob A' l = turnEff P f ob' A' l := by
  cases l with
  | nil => rfl
  | cons d rest =>
    cases d <;> first | rfl | skip
    rename_i s r off len
    have e := h _ List.mem_cons_self r (by simp [topId])
    cases off with
    | zero => simp only [turnEff, e]
    | succ => rfl
theorem takeEff_local {f : FuncId} {n' : Nat} {A' : Nat → Int} {l : List DV} (h : ∀ d ∈ l, ∀ id ∈ topId d, ob id = ob' id) : takeEff P f ob n' A' l = takeEff P f ob' n' A' l := by
  cases l with
  | nil => rfl
  | cons d rest =>
    cases rest with
    | cons => cases d <;> rfl
    | nil =>
      cases d <;> first | rfl | skip
      rename_i s r off len
      have e := h _ List.mem_cons_self r (by simp [topId])
      cases off with
      | zero => simp only [takeEff, e]
      | succ => rfl
theorem wrArg_local {d : DV} {o : WO} (h : ∀ id ∈ topIds d, ob id = ob' id) : wrArg ob d o = wrArg ob' d o := by
  cases o with
  | no => cases d <;> simp only [wrArg, lendB_local h]
  | row cols =>
    cases d with
    | row s id off len =>
      have h' := h id (by simp [topIds, topId])
      cases off with
      | zero => simp only [wrArg, h']
      | succ => simp only [wrArg]
    | ptr id j => cases j <;> simp only [wrArg]
    | _ => simp only [wrArg]
  | box cs =>
    cases d with
    | ptr id j =>
      have h' := h id (by simp [topIds, topId])
      cases j with
      | zero => simp only [wrArg, h']
      | succ => simp only [wrArg]
    | _ => simp only [wrArg]
theorem wrArgs_local : ∀ {l : List DV} {q : List WO}, (∀ d ∈ l, ∀ id ∈ topIds d, ob id = ob' id) → wrArgs ob l q = wrArgs ob' l q
  | [], _, _ => rfl
  | d :: r, q, h => by
    simp only [wrArgs]
    rw [wrArg_local (h d List.mem_cons_self), wrArgs_local fun d' hd => h d' (List.mem_cons_of_mem _ hd)]
theorem wrEff_local {f : FuncId} {g : List DV → List WO × DV} {l : List DV} (h : ∀ d ∈ l, ∀ id ∈ topIds d, ob id = ob' id) : wrEff P f ob l g = wrEff P f ob' l g := by
  have e1 := fun q => wrArgs_local (q := q) h
  simp only [wrEff, lendBs_local h, e1]
theorem shPo_local {id : Nat} {x : DV} (h : ∀ i ∈ topId x, ob i = ob' i) : shPo ob id x = shPo ob' id x := by
  cases x with
  | ptr i j =>
    cases j with
    | zero => simp only [shPo, lendP_local h]
    | succ j => simp only [shPo, lendP_local h]
  | _ => simp only [shPo, lendP_local h]
theorem shPL_local {id : Nat} : ∀ {l : List DV}, (∀ d ∈ l, ∀ i ∈ topId d, ob i = ob' i) → shPL ob id l = shPL ob' id l
  | [], _ => rfl
  | d :: r, h => by
    simp only [shPL]
    rw [shPo_local (h d List.mem_cons_self), shPL_local fun d' hd => h d' (List.mem_cons_of_mem _ hd)]
theorem shA_local {id : Nat} {x : DV} (h : ∀ i ∈ topIds x, ob i = ob' i) : shA ob id x = shA ob' id x := by
  cases x with
  | clo f cs => simp only [shA]; rw [shPL_local fun d hd i hi => h i (mem_go hd hi)]
  | _ => simp only [shA, lendB_local h]
theorem shAs_local {id : Nat} : ∀ {l : List DV}, (∀ d ∈ l, ∀ i ∈ topIds d, ob i = ob' i) → shAs ob id l = shAs ob' id l
  | [], _ => rfl
  | d :: r, h => by
    simp only [shAs]
    rw [shA_local (h d List.mem_cons_self), shAs_local fun d' hd => h d' (List.mem_cons_of_mem _ hd)]
theorem shEff_local {f : FuncId} {k c : Nat} {g : List DV → List DV × DV} {l : List DV} (h : ∀ d ∈ l, ∀ i ∈ topIds d, ob i = ob' i) : shEff P f ob l k c g = shEff P f ob' l k c g := by
  unfold shEff
  cases hs : shId l k c with
  | none => rfl
  | some id =>
    have e : ob id = ob' id := by
      unfold shId at hs
      split at hs
      · rename_i f' cs hk
        split at hs
        · rename_i i hc
          cases hs
          exact h _ (List.mem_of_getElem? hk) id (mem_go (List.mem_of_getElem? hc) (by simp [topId]))
        · cases hs
      · cases hs
    simp only [lendBs_local h, shAs_local h, e]
theorem broRow_hw {f : FuncId} {x : DV} {b s r len : Nat} {g : Nat → List (Nat → DV) → DV → (Nat → Int) × DV} {o : Option AObj} : ∃ o', (broRow P f x b s r len g o).hw = [(r, o')] := by
  unfold broRow
  split
  · split
    · cases Nat.beq s 1 && !(Nat.beq b r) <;> exact ⟨_, rfl⟩
    · exact ⟨_, rfl⟩
  · exact ⟨_, rfl⟩
theorem broEff_local {f : FuncId} {g : Nat → List (Nat → DV) → DV → (Nat → Int) × DV} {l : List DV} (h : ∀ d ∈ l, ∀ i ∈ topIds d, ob i = ob' i) (hw : ∀ i ∈ (broEff P f ob l g).hw.map (·.1), ob i = ob' i) : broEff P f ob l g = broEff P f ob' l g := by
  unfold broEff at hw ⊢
  split
  · rename_i x b
    have e := h (.ptr b 0) (by simp) b (by simp [topIds, topId])
    simp only [← e]
    split
    · rename_i s r len hob
      simp only [hob] at hw
      obtain ⟨o', ho'⟩ := broRow_hw (P := P) (f := f) (x := x) (b := b) (s := s) (r := r) (len := len) (g := g) (o := ob r)
      rw [ho'] at hw
      rw [hw r (by simp)]
    · rfl
  · rfl
theorem evCall_local {oc : Orc} {id : Nat} {f : FuncId} {l : List DV} (h : ∀ d ∈ l, ∀ id ∈ topIds d, ob id = ob' id) (hw : ∀ i ∈ (evCall P oc id ob f l).hw.map (·.1), ob i = ob' i) : evCall P oc id ob f l = evCall P oc id ob' f l := by
  cases oc with
  | bro g => exact broEff_local h hw
  | _ =>
    clear hw
    have h' : ∀ d ∈ l, ∀ id ∈ topId d, ob id = ob' id := fun d hd id hi => h d hd id (topIds_of hi)
    have e1 := fun g => wrEff_local (P := P) (f := f) (g := g) h
    have e2 := fun k c g => shEff_local (P := P) (f := f) (k := k) (c := c) (g := g) h
    simp only [evCall, lends_local h', lendBs_local h, turnEff_local h', takeEff_local h', e1, e2]
theorem evLookup_local {id : Nat} {t : TypeId} {x k : DV} {ok : Bool} (h : ∀ id ∈ topId x, ob id = ob' id) : evLookup P ob id t x k ok = evLookup P ob' id t x k ok := by
  cases x with
  | mph m => simp only [topId, List.mem_singleton, forall_eq] at h; simp only [evLookup, h]
  | val v => cases v <;> first | rfl | (rename_i a; cases a <;> rfl)
  | _ => rfl
theorem evMapUpdate_local {t : TypeId} {m k v : DV} (h : ∀ id ∈ topId m, ob id = ob' id) (h2 : ∀ id ∈ topId v, ob id = ob' id) : evMapUpdate P ob t m k v = evMapUpdate P ob' t m k v := by
  cases m with
  | mph mi =>
    simp only [topId, List.mem_singleton, forall_eq] at h
    cases v with
    | row s r off n =>
      simp only [topId, List.mem_singleton, forall_eq] at h2
      cases off with
      | zero => simp only [evMapUpdate, h, h2]
      | succ => simp only [evMapUpdate, h]
    | _ => simp only [evMapUpdate, h]
  | _ => simp only [evMapUpdate]
theorem evMapEntry_local {id : Nat} {t : TypeId} {m k : DV} (h : ∀ id ∈ topId m, ob id = ob' id) : evMapEntry P ob id t m k = evMapEntry P ob' id t m k := by
  cases m with
  | mph m => simp only [topId, List.mem_singleton, forall_eq] at h; simp only [evMapEntry, h]
  | _ => rfl
theorem evEntryStore_local {m s v : DV} (h : ∀ id ∈ topId m, ob id = ob' id) : evEntryStore ob m s v = evEntryStore ob' m s v := by
  cases m with
  | mph m =>
    simp only [topId, List.mem_singleton, forall_eq] at h
    cases s <;> first | rfl | simp only [evEntryStore, h]
  | _ => rfl
theorem evDelete_local {t : TypeId} {m k : DV} (h : ∀ id ∈ topId m, ob id = ob' id) : evDelete P ob t m k = evDelete P ob' t m k := by
  cases m with
  | mph m => simp only [topId, List.mem_singleton, forall_eq] at h; simp only [evDelete, h]
  | _ => rfl
theorem evClear_local {t : TypeId} {x : DV} (h : ∀ id ∈ topId x, ob id = ob' id) : evClear P ob t x = evClear P ob' t x := by
  cases x with
  | row s id off len => simp only [topId, List.mem_singleton, forall_eq] at h; simp only [evClear, h]
  | _ => rfl
theorem map_parts {x x' : Operand → DV} : ∀ (l : List (Nat × Operand)), (∀ p ∈ l, x p.2 = x' p.2) → (l.map fun p => (p.1, x p.2)) = l.map fun p => (p.1, x' p.2)
  | [], _ => rfl
  | p :: l, h => by rw [List.map_cons, List.map_cons, h p List.mem_cons_self, map_parts l fun q hq => h q (List.mem_cons_of_mem _ hq)]
theorem evOp_local {oc : Orc} {id : Nat} {o : Oper} {x x' : Operand → DV} (hx : ∀ y ∈ o.op.operands.toList, x y = x' y) (ho : ∀ y ∈ lookOps o.op, ∀ i ∈ topIds (x y), ob i = ob' i) (hw : ∀ i ∈ (evOp P oc id o x ob).hw.map (·.1), ob i = ob' i) :
    evOp P oc id o x ob = evOp P oc id o x' ob' := by
  have ho : looksOb o.op = true → ∀ y ∈ o.op.operands.toList, ∀ i ∈ topIds (x y), ob i = ob' i := fun h y hy => ho y (mem_lookOps h hy)
  have top : looksOb o.op = true → ∀ y ∈ o.op.operands.toList, ∀ i ∈ topId (x y), ob i = ob' i := fun h y hy i hi => ho h y hy i (topIds_of hi)
  unfold evOp
  cases hop : o.op with
  | move y => simp only [hop] at hx ⊢; rw [hx y (by simp [Op.operands])]
  | assign y => simp only [hop] at hx ⊢; rw [hx y (by simp [Op.operands])]
  | box t y => simp only [hop] at hx ⊢; rw [hx y (by simp [Op.operands])]
  | build t parts =>
    simp only [hop] at hx ⊢
    congr 1
    exact map_parts parts.toList fun p hp => hx p.2 (by simp only [Op.operands]; exact List.mem_map_of_mem hp)
  | buildSlice t len parts =>
    simp only [hop] at hx ho ⊢
    have e1 := map_parts (x := x) (x' := x') parts.toList fun p hp => hx p.2 (by simp only [Op.operands]; exact List.mem_map_of_mem hp)
    have e2 : lendParts ob (parts.toList.map fun p => (p.1, x p.2)) = lendParts ob' (parts.toList.map fun p => (p.1, x p.2)) := lendParts_local fun q hq id hi => by
      obtain ⟨p, hp, rfl⟩ := List.mem_map.1 hq
      exact ho rfl p.2 (by simp only [Op.operands]; exact List.mem_map_of_mem hp) id hi
    simp only [evBuildSliceF, e2]
    rw [e1]
  | slice t y lo hi mx =>
    cases mx with
    | some m => rfl
    | none =>
      simp only [hop] at hx top ⊢
      have hl : lo.map x = lo.map x' := by cases lo with
        | none => rfl
        | some z => simp only [Option.map_some]; rw [hx z (by simp [Op.operands])]
      have hh : hi.map x = hi.map x' := by cases hi with
        | none => rfl
        | some z => simp only [Option.map_some]; rw [hx z (by simp [Op.operands])]
      rw [← hx y (by simp [Op.operands]), hl, hh]
      exact evSliceO_local (top rfl y (by simp [Op.operands]))
  | load t y =>
    simp only [hop] at hx top ⊢
    rw [← hx y (by simp [Op.operands])]
    exact evLoadO_local (top rfl y (by simp [Op.operands]))
  | store t p y =>
    simp only [hop] at hx top ⊢
    rw [← hx p (by simp [Op.operands]), ← hx y (by simp [Op.operands])]
    exact evStoreO_local (top rfl p (by simp [Op.operands])) (top rfl y (by simp [Op.operands]))
  | nilCheck y => simp only [hop] at hx ⊢; rw [hx y (by simp [Op.operands])]
  | makeMap t rs => cases rs <;> rfl
  | lookup t y i ok =>
    simp only [hop] at hx top ⊢
    rw [← hx y (by simp [Op.operands]), ← hx i (by simp [Op.operands])]
    exact evLookup_local (top rfl y (by simp [Op.operands]))
  | mapUpdate t m k y =>
    simp only [hop] at hx top ⊢
    rw [← hx m (by simp [Op.operands]), ← hx k (by simp [Op.operands]), ← hx y (by simp [Op.operands])]
    exact evMapUpdate_local (top rfl m (by simp [Op.operands])) (top rfl y (by simp [Op.operands]))
  | mapEntry t m k =>
    simp only [hop] at hx top ⊢
    rw [← hx m (by simp [Op.operands]), ← hx k (by simp [Op.operands])]
    exact evMapEntry_local (top rfl m (by simp [Op.operands]))
  | entryStore t m s y =>
    simp only [hop] at hx top ⊢
    rw [← hx m (by simp [Op.operands]), ← hx s (by simp [Op.operands]), ← hx y (by simp [Op.operands])]
    exact evEntryStore_local (top rfl m (by simp [Op.operands]))
  | makeSlice t y z => simp only [hop] at hx ⊢; rw [hx y (by simp [Op.operands]), hx z (by simp [Op.operands])]
  | binOp op t y z ty => simp only [hop] at hx ⊢; rw [hx y (by simp [Op.operands]), hx z (by simp [Op.operands])]
  | unOp op t y => simp only [hop] at hx ⊢; rw [hx y (by simp [Op.operands])]
  | convert a b y =>
    simp only [hop] at hx top ⊢
    rw [← hx y (by simp [Op.operands])]
    exact evConvS_local (top rfl y (by simp [Op.operands]))
  | fieldAddr s y f => simp only [hop] at hx ⊢; rw [hx y (by simp [Op.operands])]
  | field s y f => simp only [hop] at hx ⊢; rw [hx y (by simp [Op.operands])]
  | indexAddr t y i =>
    simp only [hop] at hx top ⊢
    rw [← hx y (by simp [Op.operands]), ← hx i (by simp [Op.operands])]
    exact evIndexAddr_any
  | index t y i => simp only [hop] at hx ⊢; rw [hx y (by simp [Op.operands]), hx i (by simp [Op.operands])]
  | extract y i => simp only [hop] at hx ⊢; rw [hx y (by simp [Op.operands])]
  | makeFunc fn first cap =>
    cases fn with
    | func f =>
      simp only [hop] at hx ⊢
      have : cap.toList.map x = cap.toList.map x' := List.map_congr_left fun y hy => hx y (by simp only [Op.operands]; simp; exact .inr (by simpa using hy))
      have that : first.toList.map x = first.toList.map x' := List.map_congr_left fun y hy => hx y (by simp only [Op.operands]; simp; exact .inl (by simpa using hy))
      rw [this]
      cases hl : first.toList with
      | nil => rfl
      | cons y r =>
        rw [hl] at that
        simp only
        rw [that]
    | _ => rfl
  | call c =>
    simp only [hop] at hx top ⊢
    have hargs : ∀ y ∈ c.args.toList, y ∈ (Op.call c).operands.toList := fun y hy => by simp only [Op.operands, Call.operands]; simp; exact .inr (by simpa using hy)
    have hmap : c.args.toList.map x = c.args.toList.map x' := List.map_congr_left fun y hy => hx y (hargs y hy)
    cases hcal : c.callee with
    | builtin b =>
      cases b with
      | len =>
        simp only
        cases h1 : c.args.toList with
        | nil => rfl
        | cons y r =>
          cases r with
          | cons => rfl
          | nil =>
            cases h2 : c.argTypes.toList with
            | nil => rfl
            | cons t q =>
              cases q with
              | cons => rfl
              | nil =>
                have hy := hargs y (by rw [h1]; exact List.mem_cons_self)
                simp only
                rw [← hx y hy]
                exact evLen_any
      | append =>
        simp only
        split
        · rename_i y z t t' h1 h2
          have hy := hargs y (by rw [h1]; exact List.mem_cons_self)
          have hz := hargs z (by rw [h1]; exact List.mem_cons_of_mem _ List.mem_cons_self)
          rw [← hx y hy, ← hx z hz, evAppend_local (top (by simp only [looksOb, hcal]) y hy) (top (by simp only [looksOb, hcal]) z hz)]
        · rfl
      | delete =>
        simp only
        split
        · rename_i y z t ts h1 h2
          have hy := hargs y (by rw [h1]; exact List.mem_cons_self)
          have hz := hargs z (by rw [h1]; exact List.mem_cons_of_mem _ List.mem_cons_self)
          rw [← hx y hy, ← hx z hz, evDelete_local (top (by simp only [looksOb, hcal]) y hy)]
        · rfl
      | clear =>
        simp only
        split
        · rename_i y t ts h1 h2
          have hy := hargs y (by rw [h1]; exact List.mem_cons_self)
          rw [← hx y hy, evClear_local (top (by simp only [looksOb, hcal]) y hy)]
        · rfl
      | min => simp only [hmap]
      | max => simp only [hmap]
      | _ => rfl
    | value y =>
      have hy : y ∈ (Op.call c).operands.toList := by simp only [Op.operands, Call.operands, hcal]; simp
      have hargo : ∀ d ∈ c.args.toList.map x, ∀ id ∈ topIds d, ob id = ob' id := by
        intro d hd id hid
        obtain ⟨z, hz, rfl⟩ := List.mem_map.1 hd
        simp only [hop] at ho
        exact ho (by simp only [looksOb, hcal]) z (hargs z hz) id hid
      unfold evOp at hw
      simp only [hop, hcal] at hw
      simp only
      rw [← hx y hy, ← hmap]
      split
      · rename_i f first cap hv
        simp only [hv] at hw
        split
        · rename_i h1 h2
          simp only [h1, h2] at hw
          exact evCall_local hargo hw
        · rfl
      · rename_i f cap hv
        simp only [hv] at hw
        cases hfl : flatCaps cap with
        | false => rfl
        | true =>
          simp only [hfl, cond_true] at hw
          refine evCall_local (fun d hd id hid => ?_) hw
          rcases List.mem_append.1 hd with hd | hd
          · exact hargo d hd id hid
          · simp only [hop] at ho
            exact ho (by simp only [looksOb, hcal]) y hy id (by rw [hv]; exact mem_go hd (flat_ids hfl d hd id hid))
      · rfl
    | invoke r m => rfl
  | _ => rfl
theorem ev_agree {σ σ' : St} {ops : Array Oper} {o : Oper} (ht : ∀ t ∈ tmpReads ops o, σ.get t = σ'.get t) : ∀ y ∈ o.op.operands.toList, σ.ev y = σ'.ev y := by
  intro y hy
  cases y with
  | tmp t =>
    refine ht t ?_
    simp only [tmpReads, Oper.looksAt, List.mem_append]
    exact .inl (List.mem_filterMap.2 ⟨.tmp t, hy, rfl⟩)
  | _ => rfl
theorem condVC_agree {σ σ' : St} : ∀ {l : List Operand}, (∀ y ∈ l, σ.ev y = σ'.ev y) → condVC σ l = condVC σ' l
  | [], _ => rfl
  | y :: r, h => by
    simp only [condVC]
    rw [h y List.mem_cons_self, condVC_agree fun z hz => h z (List.mem_cons_of_mem _ hz)]
theorem evOpR_hw {oc : Orc} {id : Nat} {o : Oper} {x : Operand → DV} {b : Bool} : (evOpR P oc id o x ob b).hw = (evOp P oc id o x ob).hw ∨ b = true ∧ ∃ t rs, o.op = .makeMap t rs := by
  cases b with
  | false => exact .inl rfl
  | true =>
    unfold evOpR
    cases ho : o.op with
    | makeMap t rs => exact .inr ⟨rfl, _, _, rfl⟩
    | call c =>
      left
      simp only
      split
      · cases (evOp P oc id o x ob).d.plain <;> rfl
      · rfl
    | _ => exact .inl rfl
theorem opEff0_hw {σ : St} {oc : Orc} {id : Nat} {o : Oper} : (opEff0 P oc id σ o).hw = (evOpR P oc id o (fun y => (σ.ev y).un) σ.obj σ.rn).hw := by
  unfold opEff0
  split <;> rfl
theorem opEff_local {σ σ' : St} {ops : Array Oper} {oc : Orc} {id : Nat} {o : Oper} (ht : ∀ t ∈ tmpReads ops o, σ.get t = σ'.get t) (hh : ∀ i ∈ objReads σ (lookOps o.op), σ.obj i = σ'.obj i) (hrn : σ.rn = σ'.rn) (hw : ∀ i ∈ (opEff P ops oc id σ o).hw.map (·.1), σ.obj i = σ'.obj i) :
    opEff P ops oc id σ o = opEff P ops oc id σ' o := by
  have hev := ev_agree ht
  have hg : grd ops σ o = grd ops σ' o := by
    unfold grd
    cases hgu : o.guard with
    | none => rfl
    | some q =>
      obtain ⟨j, want⟩ := q
      cases hd : (ops[j]?).bind (·.dst) with
      | none => simp only [hd]
      | some t =>
        have : σ.get t = σ'.get t := ht t (by simp only [tmpReads, Oper.looksAt, List.mem_append, hgu, hd]; exact .inr (by simp))
        simp only [hd, this]
  have h0 : (∀ i ∈ (opEff0 P oc id σ o).hw.map (·.1), σ.obj i = σ'.obj i) → opEff0 P oc id σ o = opEff0 P oc id σ' o := by
    intro hw0
    rw [opEff0_hw] at hw0
    unfold opEff0
    have e2 : evOpR P oc id o (fun y => (σ.ev y).un) σ.obj σ.rn = evOpR P oc id o (fun y => (σ'.ev y).un) σ'.obj σ'.rn := by
      rcases evOpR_hw (P := P) (oc := oc) (id := id) (o := o) (x := fun y => (σ.ev y).un) (ob := σ.obj) (b := σ.rn) with e | ⟨e, t, rs, hm⟩
      · rw [e] at hw0
        have e1 : evOp P oc id o (fun y => (σ.ev y).un) σ.obj = evOp P oc id o (fun y => (σ'.ev y).un) σ'.obj :=
          evOp_local (fun y hy => by rw [hev y hy]) (fun y hy i hi => hh i (mem_objReads hy hi)) hw0
        rw [← hrn]
        cases σ.rn <;> simp only [evOpR, e1]
      · rw [← hrn, e]
        simp only [evOpR, hm]
    rw [condVC_agree hev, e2]
  have h1 : (∀ i ∈ (plainEff P oc id σ o).hw.map (·.1), σ.obj i = σ'.obj i) → plainEff P oc id σ o = plainEff P oc id σ' o := by
    intro hwp
    unfold plainEff at hwp ⊢
    cases hop : o.op with
    | pick c a b =>
      have hc := hev c (by rw [hop]; simp [Op.operands])
      have ha := hev a (by rw [hop]; simp [Op.operands])
      have hb := hev b (by rw [hop]; simp [Op.operands])
      simp only [hc, ha, hb]
    | _ => simp only [hop] at hwp; exact h0 hwp
  unfold opEff at hw ⊢
  rw [← hg]
  cases hgr : grd ops σ o with
  | always =>
    simp only [hgr] at hw ⊢
    exact h1 hw
  | when b =>
    simp only [hgr] at hw ⊢
    rw [← h1 (fun i hi => hw i (by
      split
      · rename_i h0
        rw [h0] at hi; exact hi
      · split
        · rename_i hw' hs
          show i ∈ hw'.map (·.1)
          rw [selHw_ids hs]; exact hi
        · exact hi))]
    split
    · rfl
    · rename_i hne
      have e : selHw b σ.obj (plainEff P oc id σ o).hw = selHw b σ'.obj (plainEff P oc id σ o).hw ∧ selVC σ.obj (plainEff P oc id σ o).hw = selVC σ'.obj (plainEff P oc id σ o).hw := by
        refine selHw_local fun i hi => hw i ?_
        split
        · rename_i h0; exact absurd h0 hne
        · split
          · rename_i hw' hs
            show i ∈ hw'.map (·.1)
            rw [selHw_ids hs]; exact hi
          · exact hi
      rw [e.1, e.2]
  | _ => rfl
end
end Go.Abs
