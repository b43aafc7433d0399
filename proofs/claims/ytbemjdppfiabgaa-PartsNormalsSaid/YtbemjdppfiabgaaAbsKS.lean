/- Rows from a cell on: append to them; they begin later. -/
import Derived.Test.YtbemjdppfiabgaaAbsK
namespace Go.Abs
open Go.RowKit
/-- In block g. -/
def Loc.atG (l : Loc) (g : Nat) : Prop := (∃ C, l = .at_ g C) ∨ ∃ o C, l = .sub g o C
theorem Loc.atG_has {l : Loc} {g k : Nat} (h : l.atG g) : l.has k ↔ k = g := by
  rcases h with ⟨C, rfl⟩ | ⟨o, C, rfl⟩ <;> exact Iff.rfl

def blkE (blk : Nat → Option Loc) (q : Nat) : Option Nat := match blk q with
  | some (.at_ g _) => some g
  | some (.sub g _ _) => some g
  | _ => none
theorem blkE_some {blk : Nat → Option Loc} {q g : Nat} (h : blkE blk q = some g) : ∃ l, blk q = some l ∧ l.atG g := by
  unfold blkE at h
  split at h
  · rename_i g' C hb; cases h; exact ⟨_, hb, .inl ⟨_, rfl⟩⟩
  · rename_i g' o C hb; cases h; exact ⟨_, hb, .inr ⟨_, _, rfl⟩⟩
  · cases h

section
variable {P : Program} {base : Nat} {w0 w w' : World} {S0 : Env} {σ σ' : St} {kn : Nat → Prop} {blk : Nat → Option Loc} {a : Act}

/-- A new row comes: in block D, in a new block, or nowhere. -/
def MoverS (base : Nat) (w0 : World) (S0 : Env) (σ' : St) (kn : Nat → Prop) (blk : Nat → Option Loc) (a : Act) (w : World) (id : Nat) (D : Option Nat) (blkF : Loc → Nat → Option Loc) (o : AObj) : Prop :=
  ∀ (l : Loc) (w' : World), (l = .nil ∨ ∃ g, l.atG g ∧ (D = some g ∨ (w.heap.size ≤ g ∧ g < w'.heap.size))) → w.heap.size ≤ w'.heap.size → w'.os = w.os → w'.tape = w.tape → w'.output = w.output → DrOK w w' →
    (∀ k, k < w.heap.size → D ≠ some k → w'.heap[k]? = w.heap[k]?) →
    ((∀ {d v}, RelC (rdOf w base S0 blk) d v → RelC (rdOf w' base S0 (blkF l)) d v) → ObjRel w' (rdOf w' base S0 (blkF l)) (fun i => kn i ∨ i = id) (blkF l) (some l) o) →
    R base w0 S0 σ' (fun i => kn i ∨ i = id) (blkF l) a w'

/-- One object goes (or none: 'q = id'), another comes. -/
theorem R.moverS (r : R base w0 S0 σ kn blk a w) {id q : Nat} {o : AObj} (hid : ¬ kn id) {D : Option Nat} (hq : ∀ l, blk q = some l → l = .nil ∨ ∃ g, l.atG g) (hD : ∀ g, D = some g → ∃ l, blk q = some l ∧ l.atG g) :
    MoverS base w0 S0 ((σ.setObj q none).setObj id (some o)) kn blk a w id D (fun l i => if i = id then some l else if i = q then none else blk i) o := by
  intro l w' hl hsz hos htp hout hdr hk ho
  show R base w0 S0 _ _ (fun i => if i = id then some l else if i = q then none else blk i) a w'
  have hnone := r.fresh hid
  refine r.step (fun k => D = some k) (fun i => i = id ∨ i = q) hsz hos htp hout (fun k h1 h2 => hk k h1 h2) (fun k h => ?_) (fun _ h => .inl h) (fun i h => ?_) (fun i v h hi e => ?_) (fun i l' g h e hg => ?_) (fun i l' h hi e => ?_) rfl rfl rfl (fun _ => rfl) (fun i h => ?_)
    (fun _ _ mC i o' h e => ?_) (fun i l' h e => ?_) (fun i i' l1 l2 g h h' e e' g1 g2 => ?_) (fun B hB i g bs h e => ?_) hdr
  · obtain ⟨l1, h, h3⟩ := hD k h
    exact ⟨q, _, .inr rfl, h, (Loc.atG_has h3).2 rfl⟩
  · rw [not_or] at h
    rw [if_neg h.1, if_neg h.2]
  · rcases h with rfl | rfl
    · exact absurd hi hid
    · rcases hq _ e with h | ⟨g, ⟨C, h⟩ | ⟨o, C, h⟩⟩ <;> cases h
  · by_cases e1 : i = id
    · rw [if_pos e1] at e
      cases e
      rcases hl with rfl | ⟨g', hat, h1 | h1⟩
      · exact hg.elim
      · obtain rfl := (Loc.atG_has hat).1 hg
        obtain ⟨l1, h2, h3⟩ := hD _ h1
        exact .inl ⟨q, _, .inr rfl, h2, (Loc.atG_has h3).2 rfl⟩
      · obtain rfl := (Loc.atG_has hat).1 hg
        exact .inr h1
    · have e2 : i = q := h.resolve_left e1
      rw [if_neg e1, if_pos e2] at e
      cases e
  · have e1 : i ≠ id := fun e' => hid (e' ▸ hi)
    rw [if_neg e1, if_pos (h.resolve_left e1)] at e
    cases e
  · rw [not_or] at h
    rw [St.obj_setObj, if_neg (fun e => h.1 e.symm), St.obj_setObj, if_neg (fun e => h.2 e.symm)]
  · by_cases e1 : i = id
    · subst e1
      rw [St.obj_setObj, if_pos rfl, Option.some.injEq] at e
      subst e
      exact ⟨.inr rfl, by simpa using ho mC⟩
    · rw [St.obj_setObj, if_neg (fun e' => e1 e'.symm), St.obj_setObj, if_pos (h.resolve_left e1).symm] at e
      cases e
  · by_cases e1 : i = id
    · exact ⟨o, by rw [St.obj_setObj, if_pos e1.symm]⟩
    · rw [if_neg e1, if_pos (h.resolve_left e1)] at e
      cases e
  · by_cases e1 : i = id
    · by_cases e2 : i' = id
      · rw [e1, e2]
      · rw [if_neg e2, if_pos (h'.resolve_left e2)] at e'; cases e'
    · rw [if_neg e1, if_pos (h.resolve_left e1)] at e; cases e
  · by_cases e1 : i = id
    · rw [if_pos e1] at e
      cases e
      rcases hl with h | ⟨g', ⟨C, h⟩ | ⟨o, C, h⟩, _⟩ <;> cases h
    · rw [if_neg e1, if_pos (h.resolve_left e1)] at e; cases e

theorem run_app_roomS {t ty e : TypeId} {i : TypeInfo} (ht : P.underlying t = some (.slice e)) (hi : P.info? e = some i)
    {g o n C : Nat} {cur : Array Value} {T : TypeId} (hg : w.heap[g]? = some (.cells cur T (0, 0))) {A : Option Addr} {m c : Nat} {news : List Value}
    (hf : (Builtin.firstCells i.size m (.slice A m c)).run P w = .ok news.toArray w) (h1 : ∀ u ∈ news, oneV u = true)
    (hroom : n + m ≤ C) (hfit : o + n * i.size + news.length ≤ cur.size) :
    (Builtin.append_ #[t, t] ty #[.slice (some ⟨g, o, none⟩) n C, .slice A m c]).run P w =
      .ok (.slice (some ⟨g, o, none⟩) (n + m) C) (w.setRow g (cur.toList.take (o + n * i.size) ++ news ++ cur.toList.drop (o + n * i.size + news.length)).toArray) := by
  have hst := run_storeCells_at P g (o + n * i.size) T news 0 cur w hg (by simpa using hfit) (fun u hu => by rw [← oneV_eq]; exact h1 u hu)
  simp only [Nat.add_zero] at hst
  simp [Builtin.append_, run_underlying ht, sizeOf, typeInfo, hi, Builtin.lenOf, hroom, hf, Addr.add_lit, hst]

theorem oldCellsS {rd : Rd} {n o : Nat} (s : Nat) (cols : List (Nat → DV)) (hcl : cols.length = s) (cv : Array Value) (hold : ∀ (i j : Nat) (f : Nat → DV), i < n → cols[j]? = some f → ∃ u, cv[o + (i * s + j)]? = some u ∧ oneV u = true ∧ RelC rd (f i) u)
    (i j : Nat) (f : Nat → DV) (hi : i < n) (hf : cols[j]? = some f) : ∃ u, ((cv.toList.drop o).take (n * s))[i * s + j]? = some u ∧ oneV u = true ∧ RelC rd (f i) u := by
  obtain ⟨u, hu, ho, hr⟩ := hold i j f hi hf
  have hj : j < s := by rw [← hcl]; exact (List.getElem?_eq_some_iff.1 hf).1
  have hlt : i * s + j < n * s := by
    have : i * s + s ≤ n * s := by rw [← Nat.succ_mul]; exact Nat.mul_le_mul_right _ hi
    omega
  exact ⟨u, by rw [List.getElem?_take, if_pos hlt, List.getElem?_drop, Array.getElem?_toList]; exact hu, ho, hr⟩

theorem appendCoreS (r : R base w0 S0 σ kn blk a w) {id : Nat} {D : Option Nat} {blkF : Loc → Nat → Option Loc} (hBF : ∀ l, blkF l id = some l) {t ty e : TypeId} {i : TypeInfo} {z : Value} {s by_ n m : Nat} (ht : P.underlying t = some (.slice e)) (hi : P.info? e = some i) (hz : i.zero = some z)
    (hs : i.size = s) (hby : i.bytes = by_ + 1) (hzs : z.cells.size = s) (hs0 : 0 < s) {cols cols2 F : List (Nat → DV)} (hF : F.length = s) (hcl : cols.length = s)
    (mv : MoverS base w0 S0 σ' kn blk a w id D blkF (.srow (n + m) F))
    {v : Value} (hdest : (v = .slice none 0 0 ∧ n = 0) ∨ ∃ g o C cv T, v = .slice (some ⟨g, o, none⟩) n C ∧ n ≤ C ∧ D = some g ∧ w.heap[g]? = some (.cells cv T (0, 0)) ∧ o + C * s ≤ cv.size ∧
      ∀ (i j : Nat) (f : Nat → DV), i < n → cols[j]? = some f → ∃ u, cv[o + (i * s + j)]? = some u ∧ oneV u = true ∧ RelC (rdOf w base S0 blk) (f i) u)
    {A : Option Addr} {c : Nat} {news : List Value} (hln : news.length = m * s) (hnone : A = none → m = 0) (hcell : ∀ ad, A = some ad → ∀ j u, news[j]? = some u → w.cell? (ad.add j) = some u) (hone : ∀ u ∈ news, oneV u = true)
    (hnew : ∀ (i j : Nat) (f : Nat → DV), i < m → cols2[j]? = some f → ∃ u, news[i * s + j]? = some u ∧ RelC (rdOf w base S0 blk) (f i) u)
    (hsel : ∀ (rd : Rd) (i j : Nat) (f : Nat → DV), i < n + m → F[j]? = some f → (i < n → ∃ c, cols[j]? = some c ∧ ∀ u, RelC rd (c i) u → RelC rd (f i) u) ∧ (n ≤ i → ∃ d, cols2[j]? = some d ∧ ∀ u, RelC rd (d (i - n)) u → RelC rd (f i) u))
    (hbytes : (n + m) * (by_ + 1) ≤ 140737488355328) :
    ∃ v' w', (Builtin.append_ #[t, t] ty #[v, .slice A m c]).run P w = .ok v' w' ∧ ∃ kn' blk', R base w0 S0 σ' kn' blk' a w' ∧
      Rel (rdOf w' base S0 blk') kn' blk' (.row s id 0 (n + m)) v' ∧ ∀ i, kn' i → kn i ∨ i = id := by
  subst hs
  have hle63 : n + m ≤ 140737488355328 := Nat.le_trans (Nat.le_mul_of_pos_right _ (Nat.succ_pos _)) hbytes
  -- the new row in a new block
  have grown : ∀ (old : Nat) (olds : List Value), old < n + m → olds.length = n * i.size →
      (∀ (i' j : Nat) (f : Nat → DV), i' < n → cols[j]? = some f → ∃ u, olds[i' * i.size + j]? = some u ∧ oneV u = true ∧ RelC (rdOf w base S0 blk) (f i') u) →
      (Builtin.append_ #[t, t] ty #[v, .slice A m c]).run P w = .ok (.slice (some ⟨w.heap.size, 0, none⟩) (n + m) (grownCap w (n + m) old e)) (w.drew.alloc (.cells (olds.toArray ++ news.toArray ++ Builtin.zeroCells z.cells (grownCap w (n + m) old e - (n + m))) e)) →
      ∃ v' w', (Builtin.append_ #[t, t] ty #[v, .slice A m c]).run P w = .ok v' w' ∧ ∃ kn' blk', R base w0 S0 σ' kn' blk' a w' ∧
      Rel (rdOf w' base S0 blk') kn' blk' (.row i.size id 0 (n + m)) v' ∧ ∀ i, kn' i → kn i ∨ i = id := by
    intro old olds ho hlo hold hrun
    have hge := grownCap_ge w (n + m) old e
    refine ⟨_, _, hrun, _, _, mv (.at_ w.heap.size (grownCap w (n + m) old e)) _ (.inr ⟨_, .inl ⟨_, rfl⟩, .inr ⟨Nat.le_refl _, by rw [World.size_alloc]; exact Nat.lt_succ_self _⟩⟩) (by rw [World.size_alloc]; exact Nat.le_succ _) rfl rfl rfl (fun _ => Nat.le_succ _) (fun k hk _ => World.alloc_kept_ w.drew _ k hk)
      (fun mono => .inr ⟨_, 0, _, _, e, .inr ⟨rfl, rfl⟩, heap_alloc_new w.drew _, ?_, hge, fun i' j f hi' hf => ?_⟩), .row (.inr rfl) ⟨_, _, rfl, fun h => by cases h⟩ (fun h => ?_) (fun g C h => ?_) (fun g o C h => by rw [hBF] at h; cases h), fun _ h => h⟩
    · refine Nat.le_of_eq ?_
      simp only [Array.size_append, List.size_toArray, size_zeroCells, hzs, hlo, hln, ← Nat.add_mul, hF, Nat.zero_add]
      congr 1; omega
    · obtain ⟨u, hu, hou, hr⟩ := rowCells (rest := (Builtin.zeroCells z.cells (grownCap w (n + m) old e - (n + m))).toList) hF hlo hold hnew hone (hsel _) i' j f hi' hf
      refine ⟨u, ?_, hou, mono hr⟩
      rw [← hu, Nat.zero_add]
      congr 1
      apply Array.ext'
      simp [List.append_assoc]
    · rw [hBF] at h; cases h
    · rw [hBF] at h
      simp only [Option.some.injEq, Loc.at_.injEq] at h
      obtain ⟨rfl, rfl⟩ := h
      exact .inl ⟨by simp, by omega⟩
  rcases hdest with ⟨rfl, rfl⟩ | ⟨g, o, C, cv, T, rfl, hnC, hbq, hg, hsz, hold⟩
  · by_cases hm : m = 0
    · subst hm
      have hnil : news = [] := List.eq_nil_of_length_eq_zero (by simpa using hln)
      subst hnil
      have hf := firstCells_run (P := P) (w := w) (c := c) hln hnone hcell
      refine ⟨.slice none 0 0, w, ?_, _, _, mv .nil w (.inl rfl) (Nat.le_refl _) rfl rfl rfl (fun _ => Nat.le_refl _) (fun _ _ _ => rfl) (fun _ => .inl ⟨rfl, rfl⟩), .row (.inr rfl) ⟨_, _, rfl, fun _ => rfl⟩ (fun _ => ⟨rfl, rfl, rfl⟩) (fun g C h => ?_) (fun g o C h => by rw [hBF] at h; cases h), fun _ h => h⟩
      · simp [Builtin.append_, run_underlying ht, sizeOf, typeInfo, hi, Builtin.lenOf, hf]
      · rw [hBF] at h; cases h
    · cases A with
      | none => exact absurd (hnone rfl) hm
      | some ad =>
        have hrun := run_append_nil (P := P) w t ty e i z ht hi hz ad m c news hln (hcell ad rfl) (by omega) (by omega) (by rw [hby]; rw [Nat.zero_add] at hbytes; omega)
        refine grown 0 [] (by omega) (by simp) (fun i' j f h => by omega) ?_
        simpa using hrun
  · by_cases hroom : n + m ≤ C
    · have hfit : o + n * i.size + news.length ≤ cv.size := by
        have := Nat.mul_le_mul_right i.size hroom
        rw [Nat.add_mul] at this
        rw [hln]; omega
      have hf := firstCells_run (P := P) (w := w) (c := c) hln hnone hcell
      have hrun := run_app_roomS (P := P) (ty := ty) ht hi hg hf hone hroom hfit
      refine ⟨_, _, hrun, _, _, mv (.sub g o C) _ (.inr ⟨_, .inr ⟨_, _, rfl⟩, .inl hbq⟩) (by simp) rfl rfl rfl (fun _ => Nat.le_refl _) (fun k _ hk => setRow_other w g k _ fun e => hk (e ▸ hbq))
        (fun mono => .inr ⟨g, o, C, _, T, .inl rfl, setRow_heap w g cv _ T _ hg, ?_, hroom, fun i' j f hi' hf' => ?_⟩), .row (.inr rfl) ⟨_, _, rfl, fun h => by cases h⟩ (fun h => ?_) (fun g' C' h => by rw [hBF] at h; cases h) (fun g' o' C' h => ?_), fun _ h => h⟩
      · simp only [List.size_toArray, List.length_append, List.length_take, List.length_drop, Array.length_toList, hF]; omega
      · have hl2 : ((cv.toList.drop o).take (n * i.size)).length = n * i.size := by rw [List.length_take, List.length_drop, Array.length_toList]; omega
        obtain ⟨u, hu, hou, hr⟩ := rowCells (rest := cv.toList.drop (o + n * i.size + news.length)) hF hl2 (oldCellsS i.size cols hcl cv hold) hnew hone (hsel _) i' j f hi' hf'
        refine ⟨u, ?_, hou, mono hr⟩
        rw [List.getElem?_toArray] at hu ⊢
        have ho : (cv.toList.take o).length = o := by rw [List.length_take, Array.length_toList]; omega
        have e : cv.toList.take (o + n * i.size) ++ news ++ cv.toList.drop (o + n * i.size + news.length) = cv.toList.take o ++ ((cv.toList.drop o).take (n * i.size) ++ (news ++ cv.toList.drop (o + n * i.size + news.length))) := by rw [List.take_add]; simp [List.append_assoc]
        rw [e, List.getElem?_append_right (by omega), ho, Nat.add_sub_cancel_left]
        exact hu
      · rw [hBF] at h; cases h
      · rw [hBF] at h
        simp only [Option.some.injEq, Loc.sub.injEq] at h
        obtain ⟨rfl, rfl, rfl⟩ := h
        exact .inl ⟨by simp, by omega⟩
    · cases A with
      | none =>
        have := hnone rfl
        omega
      | some ad =>
        have hfit : o + n * i.size ≤ cv.size := by
          have := Nat.mul_le_mul_right i.size hnC
          omega
        have hl2 : ((cv.toList.drop o).take (n * i.size)).length = n * i.size := by rw [List.length_take, List.length_drop, Array.length_toList]; omega
        have hrun := run_append_grow (P := P) w t ty e i z ht hi hz ⟨g, o, none⟩ n C ((cv.toList.drop o).take (n * i.size)) hl2 (fun j u hu => by
          rw [List.getElem?_take] at hu
          split at hu
          · rw [List.getElem?_drop, Array.getElem?_toList] at hu
            rw [add_off]
            simp only [World.cell?, hg, hu]
            rfl
          · cases hu) ad m c news hln (hcell ad rfl) (by omega) (by omega) (growslice_fits (by omega) (by rw [hby]; exact hbytes))
        exact grown C _ (by omega) hl2 (oldCellsS i.size cols hcl cv hold) hrun
end
end Go.Abs
