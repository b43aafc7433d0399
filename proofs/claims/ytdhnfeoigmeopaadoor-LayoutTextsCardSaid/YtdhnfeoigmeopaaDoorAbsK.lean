/- append, whole. -/
import Derived.Test.YtdhnfeoigmeopaaDoorAbsJ
namespace Go.Abs
open Go.RowKit
section
variable {P : Program} {base : Nat} {w0 w w' : World} {S0 : Env} {σ σ' : St} {kn : Nat → Prop} {blk : Nat → Option Loc} {a : Act}
theorem run_app_room {t ty e : TypeId} {i : TypeInfo} (ht : P.underlying t = some (.slice e)) (hi : P.info? e = some i)
    {g n C : Nat} {cur : Array Value} {T : TypeId} (hg : w.heap[g]? = some (.cells cur T (0, 0))) {A : Option Addr} {m c : Nat} {news : List Value}
    (hf : (Builtin.firstCells i.size m (.slice A m c)).run P w = .ok news.toArray w) (h1 : ∀ u ∈ news, oneV u = true)
    (hroom : n + m ≤ C) (hfit : n * i.size + news.length ≤ cur.size) :
    (Builtin.append_ #[t, t] ty #[.slice (some ⟨g, 0, none⟩) n C, .slice A m c]).run P w =
      .ok (.slice (some ⟨g, 0, none⟩) (n + m) C) (w.setRow g (cur.toList.take (n * i.size) ++ news ++ cur.toList.drop (n * i.size + news.length)).toArray) := by
  have hst := run_storeCells_at P g (n * i.size) T news 0 cur w hg (by simpa using hfit) (fun u hu => by rw [← oneV_eq]; exact h1 u hu)
  simp only [Nat.add_zero] at hst
  simp [Builtin.append_, run_underlying ht, sizeOf, typeInfo, hi, Builtin.lenOf, hroom, hf, Addr.add_lit, hst]
theorem firstCells_run {s m c : Nat} {A : Option Addr} {news : List Value} (hl : news.length = m * s) (hn : A = none → m = 0) (hc : ∀ ad, A = some ad → ∀ j u, news[j]? = some u → w.cell? (ad.add j) = some u) :
    (Builtin.firstCells s m (.slice A m c)).run P w = .ok news.toArray w := by
  cases A with
  | none =>
    have := hn rfl
    subst this
    have : news = [] := List.eq_nil_of_length_eq_zero (by simpa using hl)
    subst this
    simp [Builtin.firstCells]
  | some ad => exact run_firstCells_some w s m ad m c news hl (hc ad rfl)
theorem rowCells {rd : Rd} {n m s : Nat} {cols cols2 F : List (Nat → DV)} {olds news rest : List Value} (hF : F.length = s) (hlo : olds.length = n * s)
    (hold : ∀ (i j : Nat) (f : Nat → DV), i < n → cols[j]? = some f → ∃ u, olds[i * s + j]? = some u ∧ oneV u = true ∧ RelC rd (f i) u)
    (hnew : ∀ (i j : Nat) (f : Nat → DV), i < m → cols2[j]? = some f → ∃ u, news[i * s + j]? = some u ∧ RelC rd (f i) u) (hone : ∀ u ∈ news, oneV u = true)
    (hsel : ∀ (i j : Nat) (f : Nat → DV), i < n + m → F[j]? = some f → (i < n → ∃ c, cols[j]? = some c ∧ ∀ u, RelC rd (c i) u → RelC rd (f i) u) ∧ (n ≤ i → ∃ d, cols2[j]? = some d ∧ ∀ u, RelC rd (d (i - n)) u → RelC rd (f i) u))
    (i j : Nat) (f : Nat → DV) (hi : i < n + m) (hf : F[j]? = some f) : ∃ u, (olds ++ (news ++ rest)).toArray[i * F.length + j]? = some u ∧ oneV u = true ∧ RelC rd (f i) u := by
  have hj : j < s := by rw [← hF]; exact (List.getElem?_eq_some_iff.1 hf).1
  rw [hF, List.getElem?_toArray]
  obtain ⟨h1, h2⟩ := hsel i j f hi hf
  by_cases hin : i < n
  · obtain ⟨c, hc, hm⟩ := h1 hin
    obtain ⟨u, hu, ho, hr⟩ := hold i j c hin hc
    have hlt : i * s + j < olds.length := by
      have : i * s + s ≤ n * s := by rw [← Nat.succ_mul]; exact Nat.mul_le_mul_right _ hin
      omega
    exact ⟨u, by rw [List.getElem?_append_left hlt]; exact hu, ho, hm u hr⟩
  · obtain ⟨d, hd, hm⟩ := h2 (by omega)
    obtain ⟨u, hu, hr⟩ := hnew (i - n) j d (by omega) hd
    have hge : olds.length ≤ i * s + j := by
      have : n * s ≤ i * s := Nat.mul_le_mul_right _ (by omega)
      omega
    have hidx : i * s + j - olds.length = (i - n) * s + j := by
      rw [hlo, Nat.sub_mul]
      have : n * s ≤ i * s := Nat.mul_le_mul_right _ (by omega)
      omega
    have hlt : (i - n) * s + j < news.length := (List.getElem?_eq_some_iff.1 hu).1
    refine ⟨u, ?_, hone _ (List.mem_of_getElem? hu), hm u hr⟩
    rw [List.getElem?_append_right hge, hidx, List.getElem?_append_left hlt]
    exact hu
theorem oldCells {rd : Rd} {n : Nat} (s : Nat) (cols : List (Nat → DV)) (hcl : cols.length = s) (cv : Array Value) (hold : ∀ (i j : Nat) (f : Nat → DV), i < n → cols[j]? = some f → ∃ u, cv[i * s + j]? = some u ∧ oneV u = true ∧ RelC rd (f i) u)
    (i j : Nat) (f : Nat → DV) (hi : i < n) (hf : cols[j]? = some f) : ∃ u, (cv.toList.take (n * s))[i * s + j]? = some u ∧ oneV u = true ∧ RelC rd (f i) u := by
  obtain ⟨u, hu, ho, hr⟩ := hold i j f hi hf
  have hj : j < s := by rw [← hcl]; exact (List.getElem?_eq_some_iff.1 hf).1
  have hlt : i * s + j < n * s := by
    have : i * s + s ≤ n * s := by rw [← Nat.succ_mul]; exact Nat.mul_le_mul_right _ hi
    omega
  exact ⟨u, by rw [List.getElem?_take, if_pos hlt, Array.getElem?_toList]; exact hu, ho, hr⟩
theorem appendCore (r : R base w0 S0 σ kn blk a w) {id : Nat} {D : Option Nat} {blkF : Loc → Nat → Option Loc} (hBF : ∀ l, blkF l id = some l) {t ty e : TypeId} {i : TypeInfo} {z : Value} {s by_ n m : Nat} (ht : P.underlying t = some (.slice e)) (hi : P.info? e = some i) (hz : i.zero = some z)
    (hs : i.size = s) (hby : i.bytes = by_ + 1) (hzs : z.cells.size = s) (hs0 : 0 < s) {cols cols2 F : List (Nat → DV)} (hF : F.length = s) (hcl : cols.length = s)
    (mv : Mover base w0 S0 σ' kn blk a w id D blkF (.row (n + m) F))
    {v : Value} (hdest : (v = .slice none 0 0 ∧ n = 0) ∨ ∃ g C cv T, v = .slice (some ⟨g, 0, none⟩) n C ∧ n ≤ C ∧ D = some g ∧ w.heap[g]? = some (.cells cv T (0, 0)) ∧ cv.size = C * s ∧
      ∀ (i j : Nat) (f : Nat → DV), i < n → cols[j]? = some f → ∃ u, cv[i * s + j]? = some u ∧ oneV u = true ∧ RelC (rdOf w base S0 blk) (f i) u)
    {A : Option Addr} {c : Nat} {news : List Value} (hln : news.length = m * s) (hnone : A = none → m = 0) (hcell : ∀ ad, A = some ad → ∀ j u, news[j]? = some u → w.cell? (ad.add j) = some u) (hone : ∀ u ∈ news, oneV u = true)
    (hnew : ∀ (i j : Nat) (f : Nat → DV), i < m → cols2[j]? = some f → ∃ u, news[i * s + j]? = some u ∧ RelC (rdOf w base S0 blk) (f i) u)
    (hsel : ∀ (rd : Rd) (i j : Nat) (f : Nat → DV), i < n + m → F[j]? = some f → (i < n → ∃ c, cols[j]? = some c ∧ ∀ u, RelC rd (c i) u → RelC rd (f i) u) ∧ (n ≤ i → ∃ d, cols2[j]? = some d ∧ ∀ u, RelC rd (d (i - n)) u → RelC rd (f i) u))
    (hbytes : (n + m) * (by_ + 1) ≤ 140737488355328) :
    ∃ v' w', (Builtin.append_ #[t, t] ty #[v, .slice A m c]).run P w = .ok v' w' ∧ ∃ kn' blk', R base w0 S0 σ' kn' blk' a w' ∧
      Rel (rdOf w' base S0 blk') kn' blk' (.row s id 0 (n + m)) v' ∧ ∀ i, kn' i → kn i ∨ i = id := by
  subst hs
  have hle63 : n + m ≤ 140737488355328 := Nat.le_trans (Nat.le_mul_of_pos_right _ (Nat.succ_pos _)) hbytes
  -- the new row in a new block
  have grown : ∀ (old : Nat) (olds : List Value), old < n + m → olds.length = n * i.size →
      (∀ (i' j : Nat) (f : Nat → DV), i' < n → cols[j]? = some f → ∃ u, olds[i' * i.size + j]? = some u ∧ oneV u = true ∧ RelC (rdOf w base S0 blk) (f i') u) →
      (Builtin.append_ #[t, t] ty #[v, .slice A m c]).run P w = .ok (.slice (some ⟨w.heap.size, 0, none⟩) (n + m) (grownCap w (n + m) old e)) (w.drew.alloc (.cells (olds.toArray ++ news.toArray ++ Builtin.zeroCells z.cells (grownCap w (n + m) old e - (n + m))) e)) →
      ∃ v' w', (Builtin.append_ #[t, t] ty #[v, .slice A m c]).run P w = .ok v' w' ∧ ∃ kn' blk', R base w0 S0 σ' kn' blk' a w' ∧
      Rel (rdOf w' base S0 blk') kn' blk' (.row i.size id 0 (n + m)) v' ∧ ∀ i, kn' i → kn i ∨ i = id := by
    intro old olds ho hlo hold hrun
    have hge := grownCap_ge w (n + m) old e
    refine ⟨_, _, hrun, _, _, mv (.at_ w.heap.size (grownCap w (n + m) old e)) _ (.inr ⟨_, _, rfl, .inr ⟨Nat.le_refl _, by rw [World.size_alloc]; exact Nat.lt_succ_self _⟩⟩) (by rw [World.size_alloc]; exact Nat.le_succ _) rfl rfl rfl (fun _ => Nat.le_succ _) (fun k hk _ => World.alloc_kept_ w.drew _ k hk)
      (fun mono => .inr ⟨_, _, _, e, rfl, heap_alloc_new w.drew _, ?_, hge, fun i' j f hi' hf => ?_⟩), .row (.inr rfl) ⟨_, _, rfl, fun h => by cases h⟩ (fun h => ?_) (fun g C h => ?_) (fun g o C h => by rw [hBF] at h; cases h), fun _ h => h⟩
    · simp only [Array.size_append, List.size_toArray, size_zeroCells, hzs, hlo, hln, ← Nat.add_mul, hF]
      congr 1; omega
    · obtain ⟨u, hu, hou, hr⟩ := rowCells (rest := (Builtin.zeroCells z.cells (grownCap w (n + m) old e - (n + m))).toList) hF hlo hold hnew hone (hsel _) i' j f hi' hf
      refine ⟨u, ?_, hou, mono hr⟩
      rw [← hu]
      congr 1
      apply Array.ext'
      simp [List.append_assoc]
    · rw [hBF] at h; cases h
    · rw [hBF] at h
      simp only [Option.some.injEq, Loc.at_.injEq] at h
      obtain ⟨rfl, rfl⟩ := h
      exact .inl ⟨by simp, by omega⟩
  rcases hdest with ⟨rfl, rfl⟩ | ⟨g, C, cv, T, rfl, hnC, hbq, hg, hsz, hold⟩
  · by_cases hm : m = 0
    · subst hm
      have hnil : news = [] := List.eq_nil_of_length_eq_zero (by simpa using hln)
      subst hnil
      have hf := firstCells_run (P := P) (w := w) (c := c) hln hnone hcell
      refine ⟨.slice none 0 0, w, ?_, _, _, mv .nil w (.inl rfl) (Nat.le_refl _) rfl rfl rfl (fun _ => Nat.le_refl _) (fun _ _ _ => rfl) (fun _ => .inl ⟨rfl, rfl⟩), .row (.inr rfl) ⟨_, _, rfl, fun _ => rfl⟩ (fun _ => ⟨rfl, rfl, rfl⟩) (fun g C h => ?_) (fun g o C h => by rw [hBF] at h; cases h), fun _ h => h⟩
      · simp [Builtin.append_, run_underlying ht, sizeOf, typeInfo, hi, Builtin.lenOf, hf]
      · rw [hBF] at h; cases h
    · cases A with
      | none => exact absurd (hnone rfl) hm
      | some ad =>
        have hrun := run_append_nil (P := P) w t ty e i z ht hi hz ad m c news hln (hcell ad rfl) (by omega) (by omega) (by rw [hby]; rw [Nat.zero_add] at hbytes; omega)
        refine grown 0 [] (by omega) (by simp) (fun i' j f h => by omega) ?_
        simpa using hrun
  · by_cases hroom : n + m ≤ C
    · have hfit : n * i.size + news.length ≤ cv.size := by rw [hln, hsz, ← Nat.add_mul]; exact Nat.mul_le_mul_right _ hroom
      have hf := firstCells_run (P := P) (w := w) (c := c) hln hnone hcell
      have hrun := run_app_room (P := P) (ty := ty) ht hi hg hf hone hroom hfit
      refine ⟨_, _, hrun, _, _, mv (.at_ g C) _ (.inr ⟨_, _, rfl, .inl hbq⟩) (by simp) rfl rfl rfl (fun _ => Nat.le_refl _) (fun k _ hk => setRow_other w g k _ fun e => hk (e ▸ hbq))
        (fun mono => .inr ⟨g, C, _, T, rfl, setRow_heap w g cv _ T _ hg, ?_, hroom, fun i' j f hi' hf' => ?_⟩), .row (.inr rfl) ⟨_, _, rfl, fun h => by cases h⟩ (fun h => ?_) (fun g' C' h => ?_) (fun g' o C' h => by rw [hBF] at h; cases h), fun _ h => h⟩
      · simp only [List.size_toArray, List.length_append, List.length_take, List.length_drop, Array.length_toList, hF]; omega
      · have hl2 : (cv.toList.take (n * i.size)).length = n * i.size := by rw [List.length_take, Array.length_toList]; omega
        obtain ⟨u, hu, hou, hr⟩ := rowCells (rest := cv.toList.drop (n * i.size + news.length)) hF hl2 (oldCells i.size cols hcl cv hold) hnew hone (hsel _) i' j f hi' hf'
        exact ⟨u, by simpa [List.append_assoc] using hu, hou, mono hr⟩
      · rw [hBF] at h; cases h
      · rw [hBF] at h
        simp only [Option.some.injEq, Loc.at_.injEq] at h
        obtain ⟨rfl, rfl⟩ := h
        exact .inl ⟨by simp, by omega⟩
    · cases A with
      | none =>
        have := hnone rfl
        omega
      | some ad =>
        have hfit : n * i.size ≤ cv.size := by rw [hsz]; exact Nat.mul_le_mul_right _ hnC
        have hl2 : (cv.toList.take (n * i.size)).length = n * i.size := by rw [List.length_take, Array.length_toList]; omega
        have hrun := run_append_grow (P := P) w t ty e i z ht hi hz ⟨g, 0, none⟩ n C (cv.toList.take (n * i.size)) hl2 (fun j u hu => by
          rw [List.getElem?_take] at hu
          split at hu
          · rw [Array.getElem?_toList] at hu
            rw [add_off]
            simp only [World.cell?, hg, Nat.zero_add, hu]
            rfl
          · cases hu) ad m c news hln (hcell ad rfl) (by omega) (by omega) (growslice_fits (by omega) (by rw [hby]; exact hbytes))
        exact grown C _ (by omega) hl2 (oldCells i.size cols hcl cv hold) hrun
end
end Go.Abs
