/- Rows from a cell on: append to them; they begin later. clear, of a part of a row. -/
import Derived.Test.YtdhnfeoigmeopaaDoorAbsK
section
namespace Go.Abs
open Go.RowKit
def Loc.atG (l : Loc) (g : Nat) : Prop := (∃ C, l = .at_ g C) ∨ ∃ o C, l = .sub g o C
theorem Loc.atG_has {l : Loc} {g k : Nat} (h : l.atG g) : l.has k ↔ k = g := by
  rcases h with ⟨C, rfl⟩ | ⟨o, C, rfl⟩ <;> exact Iff.rfl
def blkE (blk : Nat → Option Loc) (q : Nat) : Option Nat := match blk q with
  | some (.at_ g _) => some g
  | some (.sub g _ _) => some g
  | _ => none
theorem blkE_some {blk : Nat → Option Loc} {q g : Nat} (h : blkE blk q = some g) : ∃ l, blk q = some l ∧ l.atG g := by
  unfold blkE at h
  split at h
  · rename_i g' C hb; cases h; exact ⟨_, hb, .inl ⟨_, rfl⟩⟩
  · rename_i g' o C hb; cases h; exact ⟨_, hb, .inr ⟨_, _, rfl⟩⟩
  · cases h
section
variable {P : Program} {base : Nat} {w0 w w' : World} {S0 : Env} {σ σ' : St} {kn : Nat → Prop} {blk : Nat → Option Loc} {a : Act}
def MoverS (base : Nat) (w0 : World) (S0 : Env) (σ' : St) (kn : Nat → Prop) (blk : Nat → Option Loc) (a : Act) (w : World) (id : Nat) (D : Option Nat) (blkF : Loc → Nat → Option Loc) (o : AObj) : Prop :=
  ∀ (l : Loc) (w' : World), (l = .nil ∨ ∃ g, l.atG g ∧ (D = some g ∨ (w.heap.size ≤ g ∧ g < w'.heap.size))) → w.heap.size ≤ w'.heap.size → w'.os = w.os → w'.tape = w.tape → w'.output = w.output → DrOK w w' →
    (∀ k, k < w.heap.size → D ≠ some k → w'.heap[k]? = w.heap[k]?) →
    ((∀ {d v}, RelC (rdOf w base S0 blk) d v → RelC (rdOf w' base S0 (blkF l)) d v) → ObjRel w' (rdOf w' base S0 (blkF l)) (fun i => kn i ∨ i = id) (blkF l) (some l) o) →
    R base w0 S0 σ' (fun i => kn i ∨ i = id) (blkF l) a w'
theorem R.moverS (r : R base w0 S0 σ kn blk a w) {id q : Nat} {o : AObj} (hid : ¬ kn id) {D : Option Nat} (hq : ∀ l, blk q = some l → l = .nil ∨ ∃ g, l.atG g) (hD : ∀ g, D = some g → ∃ l, blk q = some l ∧ l.atG g) :
    MoverS base w0 S0 ((σ.setObj q none).setObj id (some o)) kn blk a w id D (fun l i => if i = id then some l else if i = q then none else blk i) o := by
  intro l w' hl hsz hos htp hout hdr hk ho
  show R base w0 S0 _ _ (fun i => if i = id then some l else if i = q then none else blk i) a w'
  have hnone := r.fresh hid
  refine r.step (fun k => D = some k) (fun i => i = id ∨ i = q) hsz hos htp hout (fun k h1 h2 => hk k h1 h2) (fun k h => ?_) (fun _ h => .inl h) (fun i h => ?_) (fun i v h hi e => ?_) (fun i l' g h e hg => ?_) (fun i l' h hi e => ?_) rfl rfl rfl (fun _ => rfl) (fun i h => ?_)
    (fun _ _ mC i o' h e => ?_) (fun i l' h e => ?_) (fun i i' l1 l2 g h h' e e' g1 g2 => ?_) (fun B hB i g bs h e => ?_) hdr
  · obtain ⟨l1, h, h3⟩ := hD k h
    exact ⟨q, _, .inr rfl, h, (Loc.atG_has h3).2 rfl⟩
  · rw [not_or] at h
    rw [if_neg h.1, if_neg h.2]
  · rcases h with rfl | rfl
    · exact absurd hi hid
    · rcases hq _ e with h | ⟨g, ⟨C, h⟩ | ⟨o, C, h⟩⟩ <;> cases h
  · by_cases e1 : i = id
    · rw [if_pos e1] at e
      cases e
      rcases hl with rfl | ⟨g', hat, h1 | h1⟩
      · exact hg.elim
      · obtain rfl := (Loc.atG_has hat).1 hg
        obtain ⟨l1, h2, h3⟩ := hD _ h1
        exact .inl ⟨q, _, .inr rfl, h2, (Loc.atG_has h3).2 rfl⟩
      · obtain rfl := (Loc.atG_has hat).1 hg
        exact .inr h1
    · have e2 : i = q := h.resolve_left e1
      rw [if_neg e1, if_pos e2] at e
      cases e
  · have e1 : i ≠ id := fun e' => hid (e' ▸ hi)
    rw [if_neg e1, if_pos (h.resolve_left e1)] at e
    cases e
  · rw [not_or] at h
    rw [St.obj_setObj, if_neg (fun e => h.1 e.symm), St.obj_setObj, if_neg (fun e => h.2 e.symm)]
  · by_cases e1 : i = id
    · subst e1
      rw [St.obj_setObj, if_pos rfl, Option.some.injEq] at e
      subst e
      exact ⟨.inr rfl, by simpa using ho mC⟩
    · rw [St.obj_setObj, if_neg (fun e' => e1 e'.symm), St.obj_setObj, if_pos (h.resolve_left e1).symm] at e
      cases e
  · by_cases e1 : i = id
    · exact ⟨o, by rw [St.obj_setObj, if_pos e1.symm]⟩
    · rw [if_neg e1, if_pos (h.resolve_left e1)] at e
      cases e
  · by_cases e1 : i = id
    · by_cases e2 : i' = id
      · rw [e1, e2]
      · rw [if_neg e2, if_pos (h'.resolve_left e2)] at e'; cases e'
    · rw [if_neg e1, if_pos (h.resolve_left e1)] at e; cases e
  · by_cases e1 : i = id
    · rw [if_pos e1] at e
      cases e
      rcases hl with h | ⟨g', ⟨C, h⟩ | ⟨o, C, h⟩, _⟩ <;> cases h
    · rw [if_neg e1, if_pos (h.resolve_left e1)] at e; cases e
theorem run_app_roomS {t ty e : TypeId} {i : TypeInfo} (ht : P.underlying t = some (.slice e)) (hi : P.info? e = some i)
    {g o n C : Nat} {cur : Array Value} {T : TypeId} (hg : w.heap[g]? = some (.cells cur T (0, 0))) {A : Option Addr} {m c : Nat} {news : List Value}
    (hf : (Builtin.firstCells i.size m (.slice A m c)).run P w = .ok news.toArray w) (h1 : ∀ u ∈ news, oneV u = true)
    (hroom : n + m ≤ C) (hfit : o + n * i.size + news.length ≤ cur.size) :
    (Builtin.append_ #[t, t] ty #[.slice (some ⟨g, o, none⟩) n C, .slice A m c]).run P w =
      .ok (.slice (some ⟨g, o, none⟩) (n + m) C) (w.setRow g (cur.toList.take (o + n * i.size) ++ news ++ cur.toList.drop (o + n * i.size + news.length)).toArray) := by
  have hst := run_storeCells_at P g (o + n * i.size) T news 0 cur w hg (by simpa using hfit) (fun u hu => by rw [← oneV_eq]; exact h1 u hu)
  simp only [Nat.add_zero] at hst
  simp [Builtin.append_, run_underlying ht, sizeOf, typeInfo, hi, Builtin.lenOf, hroom, hf, Addr.add_lit, hst]
theorem oldCellsS {rd : Rd} {n o : Nat} (s : Nat) (cols : List (Nat → DV)) (hcl : cols.length = s) (cv : Array Value) (hold : ∀ (i j : Nat) (f : Nat → DV), i < n → cols[j]? = some f → ∃ u, cv[o + (i * s + j)]? = some u ∧ oneV u = true ∧ RelC rd (f i) u)
    (i j : Nat) (f : Nat → DV) (hi : i < n) (hf : cols[j]? = some f) : ∃ u, ((cv.toList.drop o).take (n * s))[i * s + j]? = some u ∧ oneV u = true ∧ RelC rd (f i) u := by
  obtain ⟨u, hu, ho, hr⟩ := hold i j f hi hf
  have hj : j < s := by rw [← hcl]; exact (List.getElem?_eq_some_iff.1 hf).1
  have hlt : i * s + j < n * s := by
    have : i * s + s ≤ n * s := by rw [← Nat.succ_mul]; exact Nat.mul_le_mul_right _ hi
    omega
  exact ⟨u, by rw [List.getElem?_take, if_pos hlt, List.getElem?_drop, Array.getElem?_toList]; exact hu, ho, hr⟩
theorem appendCoreS (r : R base w0 S0 σ kn blk a w) {id : Nat} {D : Option Nat} {blkF : Loc → Nat → Option Loc} (hBF : ∀ l, blkF l id = some l) {t ty e : TypeId} {i : TypeInfo} {z : Value} {s by_ n m : Nat} (ht : P.underlying t = some (.slice e)) (hi : P.info? e = some i) (hz : i.zero = some z)
    (hs : i.size = s) (hby : i.bytes = by_ + 1) (hzs : z.cells.size = s) (hs0 : 0 < s) {cols cols2 F : List (Nat → DV)} (hF : F.length = s) (hcl : cols.length = s)
    (mv : MoverS base w0 S0 σ' kn blk a w id D blkF (.srow (n + m) F))
    {v : Value} (hdest : (v = .slice none 0 0 ∧ n = 0) ∨ ∃ g o C cv T, v = .slice (some ⟨g, o, none⟩) n C ∧ n ≤ C ∧ D = some g ∧ w.heap[g]? = some (.cells cv T (0, 0)) ∧ o + C * s ≤ cv.size ∧
      ∀ (i j : Nat) (f : Nat → DV), i < n → cols[j]? = some f → ∃ u, cv[o + (i * s + j)]? = some u ∧ oneV u = true ∧ RelC (rdOf w base S0 blk) (f i) u)
    {A : Option Addr} {c : Nat} {news : List Value} (hln : news.length = m * s) (hnone : A = none → m = 0) (hcell : ∀ ad, A = some ad → ∀ j u, news[j]? = some u → w.cell? (ad.add j) = some u) (hone : ∀ u ∈ news, oneV u = true)
    (hnew : ∀ (i j : Nat) (f : Nat → DV), i < m → cols2[j]? = some f → ∃ u, news[i * s + j]? = some u ∧ RelC (rdOf w base S0 blk) (f i) u)
    (hsel : ∀ (rd : Rd) (i j : Nat) (f : Nat → DV), i < n + m → F[j]? = some f → (i < n → ∃ c, cols[j]? = some c ∧ ∀ u, RelC rd (c i) u → RelC rd (f i) u) ∧ (n ≤ i → ∃ d, cols2[j]? = some d ∧ ∀ u, RelC rd (d (i - n)) u → RelC rd (f i) u))
    (hbytes : (n + m) * (by_ + 1) ≤ 140737488355328) :
    ∃ v' w', (Builtin.append_ #[t, t] ty #[v, .slice A m c]).run P w = .ok v' w' ∧ ∃ kn' blk', R base w0 S0 σ' kn' blk' a w' ∧
      Rel (rdOf w' base S0 blk') kn' blk' (.row s id 0 (n + m)) v' ∧ ∀ i, kn' i → kn i ∨ i = id := by
  subst hs
  have hle63 : n + m ≤ 140737488355328 := Nat.le_trans (Nat.le_mul_of_pos_right _ (Nat.succ_pos _)) hbytes
  -- the new row in a new block
  have grown : ∀ (old : Nat) (olds : List Value), old < n + m → olds.length = n * i.size →
      (∀ (i' j : Nat) (f : Nat → DV), i' < n → cols[j]? = some f → ∃ u, olds[i' * i.size + j]? = some u ∧ oneV u = true ∧ RelC (rdOf w base S0 blk) (f i') u) →
      (Builtin.append_ #[t, t] ty #[v, .slice A m c]).run P w = .ok (.slice (some ⟨w.heap.size, 0, none⟩) (n + m) (grownCap w (n + m) old e)) (w.drew.alloc (.cells (olds.toArray ++ news.toArray ++ Builtin.zeroCells z.cells (grownCap w (n + m) old e - (n + m))) e)) →
      ∃ v' w', (Builtin.append_ #[t, t] ty #[v, .slice A m c]).run P w = .ok v' w' ∧ ∃ kn' blk', R base w0 S0 σ' kn' blk' a w' ∧
      Rel (rdOf w' base S0 blk') kn' blk' (.row i.size id 0 (n + m)) v' ∧ ∀ i, kn' i → kn i ∨ i = id := by
    intro old olds ho hlo hold hrun
    have hge := grownCap_ge w (n + m) old e
    refine ⟨_, _, hrun, _, _, mv (.at_ w.heap.size (grownCap w (n + m) old e)) _ (.inr ⟨_, .inl ⟨_, rfl⟩, .inr ⟨Nat.le_refl _, by rw [World.size_alloc]; exact Nat.lt_succ_self _⟩⟩) (by rw [World.size_alloc]; exact Nat.le_succ _) rfl rfl rfl (fun _ => Nat.le_succ _) (fun k hk _ => World.alloc_kept_ w.drew _ k hk)
      (fun mono => .inr ⟨_, 0, _, _, e, .inr ⟨rfl, rfl⟩, heap_alloc_new w.drew _, ?_, hge, fun i' j f hi' hf => ?_⟩), .row (.inr rfl) ⟨_, _, rfl, fun h => by cases h⟩ (fun h => ?_) (fun g C h => ?_) (fun g o C h => by rw [hBF] at h; cases h), fun _ h => h⟩
    · refine Nat.le_of_eq ?_
      simp only [Array.size_append, List.size_toArray, size_zeroCells, hzs, hlo, hln, ← Nat.add_mul, hF, Nat.zero_add]
      congr 1; omega
    · obtain ⟨u, hu, hou, hr⟩ := rowCells (rest := (Builtin.zeroCells z.cells (grownCap w (n + m) old e - (n + m))).toList) hF hlo hold hnew hone (hsel _) i' j f hi' hf
      refine ⟨u, ?_, hou, mono hr⟩
      rw [← hu, Nat.zero_add]
      congr 1
      apply Array.ext'
      simp [List.append_assoc]
    · rw [hBF] at h; cases h
    · rw [hBF] at h
      simp only [Option.some.injEq, Loc.at_.injEq] at h
      obtain ⟨rfl, rfl⟩ := h
      exact .inl ⟨by simp, by omega⟩
  rcases hdest with ⟨rfl, rfl⟩ | ⟨g, o, C, cv, T, rfl, hnC, hbq, hg, hsz, hold⟩
  · by_cases hm : m = 0
    · subst hm
      have hnil : news = [] := List.eq_nil_of_length_eq_zero (by simpa using hln)
      subst hnil
      have hf := firstCells_run (P := P) (w := w) (c := c) hln hnone hcell
      refine ⟨.slice none 0 0, w, ?_, _, _, mv .nil w (.inl rfl) (Nat.le_refl _) rfl rfl rfl (fun _ => Nat.le_refl _) (fun _ _ _ => rfl) (fun _ => .inl ⟨rfl, rfl⟩), .row (.inr rfl) ⟨_, _, rfl, fun _ => rfl⟩ (fun _ => ⟨rfl, rfl, rfl⟩) (fun g C h => ?_) (fun g o C h => by rw [hBF] at h; cases h), fun _ h => h⟩
      · simp [Builtin.append_, run_underlying ht, sizeOf, typeInfo, hi, Builtin.lenOf, hf]
      · rw [hBF] at h; cases h
    · cases A with
      | none => exact absurd (hnone rfl) hm
      | some ad =>
        have hrun := run_append_nil (P := P) w t ty e i z ht hi hz ad m c news hln (hcell ad rfl) (by omega) (by omega) (by rw [hby]; rw [Nat.zero_add] at hbytes; omega)
        refine grown 0 [] (by omega) (by simp) (fun i' j f h => by omega) ?_
        simpa using hrun
  · by_cases hroom : n + m ≤ C
    · have hfit : o + n * i.size + news.length ≤ cv.size := by
        have := Nat.mul_le_mul_right i.size hroom
        rw [Nat.add_mul] at this
        rw [hln]; omega
      have hf := firstCells_run (P := P) (w := w) (c := c) hln hnone hcell
      have hrun := run_app_roomS (P := P) (ty := ty) ht hi hg hf hone hroom hfit
      refine ⟨_, _, hrun, _, _, mv (.sub g o C) _ (.inr ⟨_, .inr ⟨_, _, rfl⟩, .inl hbq⟩) (by simp) rfl rfl rfl (fun _ => Nat.le_refl _) (fun k _ hk => setRow_other w g k _ fun e => hk (e ▸ hbq))
        (fun mono => .inr ⟨g, o, C, _, T, .inl rfl, setRow_heap w g cv _ T _ hg, ?_, hroom, fun i' j f hi' hf' => ?_⟩), .row (.inr rfl) ⟨_, _, rfl, fun h => by cases h⟩ (fun h => ?_) (fun g' C' h => by rw [hBF] at h; cases h) (fun g' o' C' h => ?_), fun _ h => h⟩
      · simp only [List.size_toArray, List.length_append, List.length_take, List.length_drop, Array.length_toList, hF]; omega
      · have hl2 : ((cv.toList.drop o).take (n * i.size)).length = n * i.size := by rw [List.length_take, List.length_drop, Array.length_toList]; omega
        obtain ⟨u, hu, hou, hr⟩ := rowCells (rest := cv.toList.drop (o + n * i.size + news.length)) hF hl2 (oldCellsS i.size cols hcl cv hold) hnew hone (hsel _) i' j f hi' hf'
        refine ⟨u, ?_, hou, mono hr⟩
        rw [List.getElem?_toArray] at hu ⊢
        have ho : (cv.toList.take o).length = o := by rw [List.length_take, Array.length_toList]; omega
        have e : cv.toList.take (o + n * i.size) ++ news ++ cv.toList.drop (o + n * i.size + news.length) = cv.toList.take o ++ ((cv.toList.drop o).take (n * i.size) ++ (news ++ cv.toList.drop (o + n * i.size + news.length))) := by rw [List.take_add]; simp [List.append_assoc]
        rw [e, List.getElem?_append_right (by omega), ho, Nat.add_sub_cancel_left]
        exact hu
      · rw [hBF] at h; cases h
      · rw [hBF] at h
        simp only [Option.some.injEq, Loc.sub.injEq] at h
        obtain ⟨rfl, rfl, rfl⟩ := h
        exact .inl ⟨by simp, by omega⟩
    · cases A with
      | none =>
        have := hnone rfl
        omega
      | some ad =>
        have hfit : o + n * i.size ≤ cv.size := by
          have := Nat.mul_le_mul_right i.size hnC
          omega
        have hl2 : ((cv.toList.drop o).take (n * i.size)).length = n * i.size := by rw [List.length_take, List.length_drop, Array.length_toList]; omega
        have hrun := run_append_grow (P := P) w t ty e i z ht hi hz ⟨g, o, none⟩ n C ((cv.toList.drop o).take (n * i.size)) hl2 (fun j u hu => by
          rw [List.getElem?_take] at hu
          split at hu
          · rw [List.getElem?_drop, Array.getElem?_toList] at hu
            rw [add_off]
            simp only [World.cell?, hg, hu]
            rfl
          · cases hu) ad m c news hln (hcell ad rfl) (by omega) (by omega) (growslice_fits (by omega) (by rw [hby]; exact hbytes))
        exact grown C _ (by omega) hl2 (oldCellsS i.size cols hcl cv hold) hrun
end
end Go.Abs
end
section
namespace Go.Abs
open Go.RowKit
theorem clrCols_len {off len : Nat} : ∀ {cols : List (Nat → DV)} {z : List DV}, z.length = cols.length → (clrCols off len cols z).length = cols.length
  | [], [], _ => rfl
  | c :: r, d :: q, h => by simp only [clrCols, List.length_cons]; rw [clrCols_len (by simpa using h)]
  | [], _ :: _, h => by simp at h
  | _ :: _, [], h => by simp at h
theorem clrCols_get {off len : Nat} : ∀ {cols : List (Nat → DV)} {z : List DV} {j : Nat} {f : Nat → DV}, (clrCols off len cols z)[j]? = some f → ∃ c d, cols[j]? = some c ∧ z[j]? = some d ∧ f = fun i => sel (decide (off ≤ i ∧ i < off + len)) d (c i)
  | [], z, j, f, h => by cases z <;> simp [clrCols] at h
  | c :: r, [], j, f, h => by simp [clrCols] at h
  | c :: r, d :: q, j, f, h => by
    simp only [clrCols] at h
    cases j with
    | zero =>
      simp only [List.getElem?_cons_zero, Option.some.injEq] at h
      exact ⟨c, d, rfl, rfl, h.symm⟩
    | succ j =>
      obtain ⟨c', d', h1, h2, h3⟩ := clrCols_get (cols := r) (z := q) (j := j) (f := f) (by simpa using h)
      exact ⟨c', d', by simpa using h1, by simpa using h2, h3⟩
theorem zeroCells_get (zc : Array Value) (n i j : Nat) (hi : i < n) (hj : j < zc.size) : (Builtin.zeroCells zc n).toList[i * zc.size + j]? = some zc[j] := by
  have hlt : i * zc.size + j < n * zc.size := by
    have : i * zc.size + zc.size ≤ n * zc.size := by rw [← Nat.succ_mul]; exact Nat.mul_le_mul_right _ hi
    omega
  have hm : (i * zc.size + j) % zc.size = j := by
    rw [Nat.add_comm, Nat.add_mul_mod_self_right]; exact Nat.mod_eq_of_lt hj
  rw [Array.getElem?_toList]
  unfold Builtin.zeroCells
  rw [Array.getElem?_map, Array.getElem?_range, if_pos hlt, Option.map_some, hm]
  simp [hj]
section
variable {P : Program} {base : Nat} {w0 w : World} {S0 : Env} {σ : St} {kn : Nat → Prop} {blk : Nat → Option Loc} {a : Act}
theorem evClear_sound (r : R base w0 S0 σ kn blk a w) {t ty : TypeId} {x : DV} {vx : Value} {e : Eff} (he : evClear P σ.obj t x = e) (hvc : AllP e.vc)
    (hx : Rel (rdOf w base S0 blk) kn blk x vx) {ts : Array TypeId} (hts : ts[0]? = some t) :
    ∃ w' v, (Builtin.clear_ ts ty #[vx]).run P w = .ok v w' ∧ R base w0 S0 (σ.effH e) kn blk a w' ∧ Rel (rdOf w' base S0 blk) kn blk e.d v := by
  unfold evClear at he
  split at he
  · rename_i s id off len
    split at he
    · rename_i el hu
      split at he
      · rename_i s' z n cols hsz hz hob
        cases hb : (Nat.beq s s' && (Nat.beq cols.length s && (Nat.beq z.length s && (Nat.ble 1 s && DV.closed.go z))))
        · simp only [hb, cond_false] at he; subst he; exact bad_vc hvc
        · simp only [hb, cond_true] at he
          subst he
          simp only [Bool.and_eq_true] at hb
          obtain ⟨hb1, hb2, hb3, hb4, hcl⟩ := hb
          have hb1 := Nat.eq_of_beq_eq_true hb1
          have hb2 := Nat.eq_of_beq_eq_true hb2
          have hb3 := Nat.eq_of_beq_eq_true hb3
          have hb4 := Nat.le_of_ble_eq_true hb4
          subst hb1
          have hle : off + len ≤ n := hvc.one
          obtain ⟨zv, hzr, hzs, hzrel, hzone⟩ := tZero_sound hz
          have hclen : (clrCols off len cols z).length = s := by rw [clrCols_len (by omega), hb2]
          have hisr : isRow σ.obj id s = true := by unfold isRow; rw [hob]; show Nat.beq cols.length s = true; rw [hb2]; exact Nat.beq_refl s
          obtain ⟨hk, hor⟩ := r.objs _ _ hob
          -- where nothing is cleared
          have still : len = 0 → ∀ {l}, blk id = some l → R base w0 S0 (σ.setObj id (some (.row n (clrCols off len cols z)))) kn blk a w := fun h0 l hl => by
            subst h0
            refine r.turnL hl rfl rfl rfl rfl (fun _ _ => rfl) fun _ _ => ?_
            rw [← hl]
            rcases hor with ⟨h1, h2⟩ | ⟨g, C, cv, T, h1, h2, h3, h4, h5⟩
            · exact .inl ⟨h1, h2⟩
            · refine .inr ⟨g, C, cv, T, h1, h2, by rw [hclen, ← hb2]; exact h3, h4, fun i j f hi hf => ?_⟩
              obtain ⟨c, d, e1, e2, rfl⟩ := clrCols_get hf
              obtain ⟨u, hu', ho, hr⟩ := h5 i j c hi e1
              exact ⟨u, by rw [hclen, ← hb2]; exact hu', ho, sel_sound ⟨fun h => by simp at h; omega, fun _ => hr⟩⟩
          obtain ⟨_, ⟨rfl, rfl, rfl, hl⟩ | ⟨g, C, rfl, hC, hl⟩ | ⟨h0, rfl, p, c, rfl⟩⟩ := row_val r hisr hx
          · exact ⟨w, .tuple #[], by simp [Builtin.clear_, hts, run_underlying hu], still rfl hl, .val _⟩
          · cases len with
            | zero => exact ⟨w, .tuple #[], by simp [Builtin.clear_, hts, run_underlying hu], still rfl hl, .val _⟩
            | succ m =>
              rcases hor with ⟨hln, hn0⟩ | ⟨g', C', cv, T, hl', hh, hcs, hnC, hcell⟩
              · omega
              · rw [hl] at hl'
                cases hl'
                rw [hb2] at hcs
                have hzl : (Builtin.zeroCells zv.cells (m + 1)).toList.length = (m + 1) * s := by rw [Array.length_toList, size_zeroCells, hzs, hb3]
                have hroom : off * s + (m + 1) * s ≤ cv.size := by
                  rw [hcs, ← Nat.add_mul]; exact Nat.mul_le_mul_right _ (by omega)
                have hone : ∀ u ∈ (Builtin.zeroCells zv.cells (m + 1)).toList, oneV u = true := fun u hu' => by
                  have hpos : 0 < zv.cells.size := by omega
                  simp only [Builtin.zeroCells, Array.toList_map, List.mem_map, Array.mem_toList_iff, Array.mem_range] at hu'
                  obtain ⟨k, _, rfl⟩ := hu'
                  have hk' : k % zv.cells.size < zv.cells.size := Nat.mod_lt _ hpos
                  rw [getElem!_pos zv.cells _ hk']
                  exact hzone _ (Array.mem_toList_iff.2 (Array.getElem_mem hk'))
                have hst := run_storeCells_at (P := P) g (off * s) T (Builtin.zeroCells zv.cells (m + 1)).toList 0 cv w hh (by omega) (fun u hu' => by rw [← oneV_eq]; exact hone u hu')
                simp only [Nat.add_zero, List.append_assoc] at hst
                rw [hzl] at hst
                refine ⟨w.setRow g (cv.toList.take (off * s) ++ ((Builtin.zeroCells zv.cells (m + 1)).toList ++ cv.toList.drop (off * s + (m + 1) * s))).toArray, .tuple #[], by simp [Builtin.clear_, hts, run_underlying hu, hzr w, hst], r.turn hl (by simp) rfl rfl rfl (fun k hk => setRow_other w g k _ hk) fun _ monoC => .inr ⟨g, C, _, T, rfl, setRow_heap w g cv _ T _ hh, ?_, hnC, fun i j f hi hf => ?_⟩, .val _⟩
                · rw [hclen]
                  simp only [List.size_toArray, List.length_append, List.length_take, List.length_drop, Array.length_toList, hzl] at *
                  omega
                · obtain ⟨c, d, e1, e2, rfl⟩ := clrCols_get hf
                  obtain ⟨u0, hu0, ho0, hr0⟩ := hcell i j c hi e1
                  have hj : j < s := by rw [← hb2]; exact (List.getElem?_eq_some_iff.1 e1).1
                  rw [hclen, List.getElem?_toArray, seg_get' _ _ _ _ _ hzl (by simpa using hroom)]
                  rw [hb2] at hu0
                  by_cases hin : off ≤ i ∧ i < off + (m + 1)
                  · have h1 : off * s ≤ i * s := Nat.mul_le_mul_right _ hin.1
                    have h2 : i * s + s ≤ off * s + (m + 1) * s := by rw [← Nat.succ_mul, ← Nat.add_mul]; exact Nat.mul_le_mul_right _ hin.2
                    have h3 : i * s + j - off * s = (i - off) * zv.cells.size + j := by rw [hzs, hb3, Nat.sub_mul]; omega
                    have hjz : j < zv.cells.size := by omega
                    rw [if_neg (by omega), if_pos (by omega), h3, zeroCells_get zv.cells (m + 1) (i - off) j (by omega) hjz]
                    refine ⟨_, rfl, hzone _ (Array.mem_toList_iff.2 (Array.getElem_mem hjz)), sel_sound ⟨fun _ => ?_, fun h => ?_⟩⟩
                    · exact (hzrel _ kn blk j d _ e2 (Array.getElem?_eq_getElem hjz)).close (closed_go hcl _ (List.mem_of_getElem? e2))
                    · simp [hin] at h
                  · have hout : i * s + j < off * s ∨ off * s + (m + 1) * s ≤ i * s + j := by
                      rcases Nat.lt_or_ge i off with h | h
                      · have : i * s + s ≤ off * s := by rw [← Nat.succ_mul]; exact Nat.mul_le_mul_right _ h
                        omega
                      · have : (off + (m + 1)) * s ≤ i * s := Nat.mul_le_mul_right _ (by omega)
                        rw [Nat.add_mul] at this; omega
                    have e9 : (if i * s + j < off * s then cv.toList[i * s + j]? else if i * s + j < off * s + (m + 1) * s then (Builtin.zeroCells zv.cells (m + 1)).toList[i * s + j - off * s]? else cv.toList[i * s + j]?) = cv.toList[i * s + j]? := by
                      split
                      · rfl
                      · rw [if_neg (by omega)]
                    rw [e9, Array.getElem?_toList]
                    exact ⟨u0, hu0, ho0, sel_sound ⟨fun h => absurd (of_decide_eq_true h) hin, fun _ => monoC hr0⟩⟩
          · refine ⟨w, .tuple #[], ?_, ?_, .val _⟩
            · cases p <;> simp [Builtin.clear_, hts, run_underlying hu]
            · rcases hor with ⟨hln, _⟩ | ⟨g, C, cv, T, hl, _⟩
              · exact still rfl hln
              · exact still rfl hl
      · subst he; exact bad_vc hvc
    · subst he; exact bad_vc hvc
  · subst he; exact bad_vc hvc
end
end Go.Abs
end
