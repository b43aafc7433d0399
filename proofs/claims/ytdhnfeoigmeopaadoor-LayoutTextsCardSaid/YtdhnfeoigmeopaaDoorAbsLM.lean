/- Each operation on a map does to the machine what the abstract one does. No program in sight. -/
import Derived.Test.YtdhnfeoigmeopaaDoorAbsL
namespace Go.Abs
open Go.RowKit
def Upd (es : List MapEntry) (clock : Nat) (kv val : Value) (es' : List MapEntry) (clock' : Nat) : Prop :=
  ((∀ e ∈ es, e.key ≠ kv) ∧ es' = es ++ [⟨kv, val, clock⟩] ∧ clock' = clock + 1) ∨ ∃ (j : Nat) (e0 : MapEntry), es[j]? = some e0 ∧ e0.key = kv ∧ es' = es.set j { e0 with val := val } ∧ clock' = clock
section
variable {es es' : List MapEntry} {clock clock' : Nat} {kv val : Value}
theorem apart_at (hd : es.Pairwise fun x y => x.key ≠ y.key) {i j : Nat} {x y : MapEntry} (hi : es[i]? = some x) (hj : es[j]? = some y) (hk : x.key = y.key) : i = j := by
  rcases Nat.lt_trichotomy i j with h | h | h
  · obtain ⟨hi', rfl⟩ := List.getElem?_eq_some_iff.1 hi
    obtain ⟨hj', rfl⟩ := List.getElem?_eq_some_iff.1 hj
    exact absurd hk (List.pairwise_iff_getElem.1 hd i j hi' hj' h)
  · exact h
  · obtain ⟨hi', rfl⟩ := List.getElem?_eq_some_iff.1 hi
    obtain ⟨hj', rfl⟩ := List.getElem?_eq_some_iff.1 hj
    exact absurd hk.symm (List.pairwise_iff_getElem.1 hd j i hj' hi' h)
theorem Upd.mem (h : Upd es clock kv val es' clock') (hd : es.Pairwise fun x y => x.key ≠ y.key) {x : MapEntry} (hx : x ∈ es') : (x ∈ es ∧ x.key ≠ kv) ∨ (x.key = kv ∧ x.val = val) := by
  rcases h with ⟨h1, rfl, _⟩ | ⟨j, e0, h1, h2, rfl, _⟩
  · rcases List.mem_append.1 hx with hx | hx
    · exact .inl ⟨hx, h1 x hx⟩
    · simp at hx; subst hx; exact .inr ⟨rfl, rfl⟩
  · obtain ⟨i, hi⟩ := List.mem_iff_getElem?.1 hx
    rw [List.getElem?_set] at hi
    split at hi
    · split at hi
      · cases hi; exact .inr ⟨h2, rfl⟩
      · cases hi
    · rename_i hne
      refine .inl ⟨List.mem_of_getElem? hi, fun e => hne ?_⟩
      exact (apart_at hd hi h1 (by rw [e, h2])).symm
theorem Upd.old (h : Upd es clock kv val es' clock') {x : MapEntry} (hx : x ∈ es) (hk : x.key ≠ kv) : x ∈ es' := by
  rcases h with ⟨h1, rfl, _⟩ | ⟨j, e0, h1, h2, rfl, _⟩
  · exact List.mem_append_left _ hx
  · obtain ⟨i, hi⟩ := List.mem_iff_getElem?.1 hx
    refine List.mem_iff_getElem?.2 ⟨i, ?_⟩
    rw [List.getElem?_set, if_neg]
    · exact hi
    · rintro rfl
      rw [h1] at hi; cases hi; exact hk h2
theorem Upd.new (h : Upd es clock kv val es' clock') : ∃ x ∈ es', x.key = kv ∧ x.val = val := by
  rcases h with ⟨h1, rfl, _⟩ | ⟨j, e0, h1, h2, rfl, _⟩
  · exact ⟨_, List.mem_append_right _ (List.mem_singleton.2 rfl), rfl, rfl⟩
  · refine ⟨{ e0 with val := val }, List.mem_iff_getElem?.2 ⟨j, ?_⟩, h2, rfl⟩
    rw [List.getElem?_set, if_pos rfl, if_pos (List.getElem?_eq_some_iff.1 h1).1]
theorem Upd.keys (h : Upd es clock kv val es' clock') (hd : es.Pairwise fun x y => x.key ≠ y.key) : es'.Pairwise fun x y => x.key ≠ y.key := by
  rcases h with ⟨h1, rfl, _⟩ | ⟨j, e0, h1, h2, rfl, _⟩
  · refine List.pairwise_append.2 ⟨hd, List.pairwise_singleton _ _, fun x hx y hy => ?_⟩
    simp at hy; subst hy; exact h1 x hx
  · have : (es.set j { e0 with val := val }).map (·.key) = es.map (·.key) := by
      apply List.ext_getElem?
      intro i
      simp only [List.getElem?_map, List.getElem?_set]
      by_cases e : j = i
      · subst e
        obtain ⟨hlt, h3⟩ := List.getElem?_eq_some_iff.1 h1
        simp [hlt, h3]
      · simp [e]
    have hm := (List.pairwise_map (f := fun e : MapEntry => e.key) (R := fun a b : Value => a ≠ b)).2 hd
    rw [← this] at hm
    exact List.pairwise_map.1 hm
theorem Upd.stamps (h : Upd es clock kv val es' clock') (hs : Stamps es clock) : Stamps es' clock' := by
  rcases h with ⟨h1, rfl, rfl⟩ | ⟨j, e0, h1, h2, rfl, rfl⟩
  · refine ⟨List.pairwise_append.2 ⟨hs.apart, List.pairwise_singleton _ _, fun x hx y hy => ?_⟩, fun x hx => ?_⟩
    · simp at hy; subst hy
      have := hs.below x hx
      show x.born ≠ clock
      omega
    · rcases List.mem_append.1 hx with hx | hx
      · have := hs.below x hx; omega
      · simp at hx; subst hx; exact Nat.lt_succ_self _
  · have hb : (es.set j { e0 with val := val }).map (·.born) = es.map (·.born) := by
      apply List.ext_getElem?
      intro i
      simp only [List.getElem?_map, List.getElem?_set]
      by_cases e : j = i
      · subst e
        obtain ⟨hlt, h3⟩ := List.getElem?_eq_some_iff.1 h1
        simp [hlt, h3]
      · simp [e]
    refine ⟨?_, fun x hx => ?_⟩
    · have hm := (List.pairwise_map (f := fun e : MapEntry => e.born) (R := fun a b : Nat => a ≠ b)).2 hs.apart
      rw [← hb] at hm
      exact List.pairwise_map.1 hm
    · have : x.born ∈ es.map (·.born) := by rw [← hb]; exact List.mem_map.2 ⟨x, hx, rfl⟩
      obtain ⟨y, hy, e⟩ := List.mem_map.1 this
      rw [← e]; exact hs.below y hy
theorem MapIs.upd {rd : Rd} {ks : KS} {has : List Int → Bool} {col : List Int → DV} {l : List Int} {d : DV} (hm : MapIs rd ks has col es) (h : Upd es clock kv val es' clock') (hk : encK ks kv = some l) (ho : oneV val = true) (hv : RelC rd d val) : MapIs rd ks (putHas l has) (putCol l d col) es' := by
  have key : ∀ {x : MapEntry} {l' : List Int}, encK ks x.key = some l' → x.key ≠ kv → l' ≠ l := fun {x l'} hx hne e => hne (encK_inj (by rw [hx, e]) hk)
  refine ⟨fun x hx => ?_, fun l' hl' => ?_, h.keys hm.hd, fun x hx => ?_, fun x l' hx hxl => ?_⟩
  · rcases h.mem hm.hd hx with ⟨h1, h2⟩ | ⟨h1, h2⟩
    · obtain ⟨l', a, b⟩ := hm.hk x h1
      exact ⟨l', a, by simp [putHas, b]⟩
    · exact ⟨l, by rw [h1]; exact hk, by simp [putHas]⟩
  · by_cases e : l' = l
    · obtain ⟨x, hx, hxk, _⟩ := h.new
      exact ⟨x, hx, by rw [hxk, e]; exact hk⟩
    · simp only [putHas, decide_eq_false e, Bool.false_or] at hl'
      obtain ⟨x, hx, hxk⟩ := hm.hh l' hl'
      exact ⟨x, h.old hx (fun e1 => e (by rw [e1, hk] at hxk; exact (Option.some.inj hxk).symm)), hxk⟩
  · rcases h.mem hm.hd hx with ⟨h1, _⟩ | ⟨_, h2⟩
    · exact hm.hs x h1
    · rw [h2]; exact ho
  · unfold putCol
    rcases h.mem hm.hd hx with ⟨h1, h2⟩ | ⟨h1, h2⟩
    · have hne := key hxl h2
      refine sel_sound ⟨fun e => ?_, fun _ => hm.h x l' h1 hxl⟩
      simp at e; exact absurd e hne
    · rw [h1, hk] at hxl
      cases hxl
      refine sel_sound ⟨fun _ => by rw [h2]; exact hv, fun e => ?_⟩
      simp at e
theorem Upd.toList {es : Array MapEntry} {j : Nat} {e0 : MapEntry} (h1 : es.toList[j]? = some e0) (h2 : e0.key = kv) : Upd es.toList clock kv val (es.modify j fun e => { e with key := kv, val := val }).toList clock := by
  refine .inr ⟨j, e0, h1, h2, ?_, rfl⟩
  rw [Array.toList_modify]
  apply List.ext_getElem?
  intro i
  rw [List.getElem?_modify, List.getElem?_set]
  by_cases e : j = i
  · subst e
    have hlt := (List.getElem?_eq_some_iff.1 h1).1
    rw [h1, if_pos rfl, if_pos hlt]
    simp [← h2]
  · simp [e]
end
theorem ksEq_spec {a b : KS} (h : ksEq a b = true) : a = b := by
  cases a <;> cases b <;> simp only [ksEq, Bool.false_eq_true] at h <;> first | rfl | (rw [Nat.eq_of_beq_eq_true h])
section
variable {P : Program} {base : Nat} {w0 w w' : World} {S0 : Env} {σ σ' : St} {kn : Nat → Prop} {blk : Nat → Option Loc} {a : Act}
theorem mapTy_spec {t : TypeId} {ks : KS} {z : DV} (h : mapTy P t = some (ks, z)) : ∃ k e zv, P.underlying t = some (.map k e) ∧ KeyRun P k ks ∧ z = .val zv ∧ oneV zv = true ∧ ∀ w : World, (zeroValue e).run P w = .ok zv w := by
  unfold mapTy at h
  split at h
  · rename_i k e hu
    split at h
    · rename_i ks' zv hk hz
      simp only [Option.some.injEq, Prod.mk.injEq] at h
      obtain ⟨rfl, rfl⟩ := h
      unfold tZero1 at hz
      split at hz
      · rename_i i hi
        split at hz
        · rename_i z' hz'
          cases ho : oneV z'
          · simp [ho] at hz
          · simp only [ho, cond_true, Option.some.injEq] at hz
            subst hz
            exact ⟨k, e, z', hu, kShape_run hk, rfl, ho, fun w => by simp [zeroValue, typeInfo, hi, hz']⟩
        · cases hz
      · cases hz
    · cases h
  · cases h
theorem keyOfD_spec {ks : KS} {k : DV} {l : List Int} {v : Value} {rd : Rd} (h : keyOfD ks k = some l) (hv : Rel rd kn blk k v) : encK ks v = some l := by
  unfold keyOfD at h
  split at h
  · cases hv; exact h
  · cases h
theorem evMakeMap_sound (r : R base w0 S0 σ kn blk a w) (hwb : S0.wb = none) {id : Nat} (hid : ¬ kn id) {t : TypeId} {e : Eff} (he : evMakeMap P id t = e) (hvc : AllP e.vc) : Runs P base w0 S0 σ kn a w id (Instr.makeMap t none) e := by
  have hrun : (Instr.makeMap t none).run P w = .ok (.map (some w.heap.size)) (w.alloc (.map #[] 0)) := by simp [Instr.makeMap, newObj]; rfl
  have key : ∀ o, (∀ blk', (∀ i, blk' i = if i = id then some (.map w.heap.size []) else blk i) → ObjRel (w.alloc (.map #[] 0)) (rdOf (w.alloc (.map #[] 0)) base S0 blk') (fun i => kn i ∨ i = id) blk' (some (.map w.heap.size [])) o) → Runs P base w0 S0 σ kn a w id (Instr.makeMap t none) { d := .mph id, hw := [(id, some o)] } := by
    intro o ho
    have q := r.newAt (w' := w.alloc (.map #[] 0)) (o := o) (l := .map w.heap.size []) hid ((Below.refl _ _).alloc (Nat.le_refl _) _) (fun g hg => by rcases hg with rfl | hg <;> simp_all) (fun B hB => by rw [hwb] at hB; cases hB) fun _ _ => ho _ fun _ => rfl
    refine ⟨_, _, hrun, _, _, q, .mph (.inr rfl) ⟨_, rfl⟩ fun g bs e => ?_, fun i hi => hi⟩
    simp only [if_true, Option.some.injEq, Loc.map.injEq] at e
    rw [e.1]
  unfold evMakeMap at he
  split at he
  · split at he
    · subst he
      exact key _ fun blk' _ => ⟨_, _, _, _, rfl, heap_alloc_new w _, ⟨by simp, by simp, fun l _ _ => rfl, by simp, by simp⟩, by simp, by simp⟩
    · subst he
      exact key _ fun blk' _ => ⟨_, _, _, rfl, heap_alloc_new w _, ⟨by simp, by simp, by simp, by simp, by simp⟩, ⟨by simp, by simp⟩, by simp⟩
  · subst he; exact bad_vc hvc
def lookV (ok : Bool) (v : Value) (b : Bool) : Value := if ok then .tuple #[v, .bool b] else v
theorem run_lookup {t k e : TypeId} {ks : KS} (hu : P.underlying t = some (.map k e)) (K : KeyRun P k ks) {zv : Value} (hz : ∀ w : World, (zeroValue e).run P w = .ok zv w) {kv : Value} {l : List Int} (hk : encK ks kv = some l) {g : Nat} {es : Array MapEntry} {clock : Nat}
    (hh : w.heap[g]? = some (.map es clock)) (hes : ∀ e ∈ es.toList, ∃ l, encK ks e.key = some l) (ok : Bool) :
    (∃ x ∈ es.toList, x.key = kv ∧ (Instr.lookup t (.map (some g)) kv ok).run P w = .ok (lookV ok x.val true) w) ∨ ((∀ x ∈ es.toList, x.key ≠ kv) ∧ (Instr.lookup t (.map (some g)) kv ok).run P w = .ok (lookV ok zv false) w) := by
  rcases K.find w hk es.toList hes with ⟨h1, h2⟩ | ⟨j, x, h1, h2, h3⟩
  · right
    refine ⟨h2, ?_⟩
    simp [Instr.lookup, run_underlying hu, MapKept.run_getObj_map hh, K.check w _ hk, h1, hz, lookV]
  · left
    refine ⟨x, List.mem_of_getElem? h2, h3, ?_⟩
    simp [Instr.lookup, run_underlying hu, MapKept.run_getObj_map hh, K.check w _ hk, h1, lookV]
theorem lookRes_rel {rd : Rd} {ok : Bool} {d : DV} {b : Bool} {v : Value} (hv : Rel rd kn blk d v) : (lookRes ok d b).hw = [] ∧ Rel rd kn blk (lookRes ok d b).d (lookV ok v b) := by
  cases ok
  · exact ⟨rfl, hv⟩
  · refine ⟨rfl, .tup (by simp) fun j d' u hd hu => ?_⟩
    match j, hd, hu with
    | 0, hd, hu => simp at hd hu; subst hd hu; exact hv
    | 1, hd, hu => simp at hd hu; subst hd hu; exact .val _
theorem evLookup_sound (r : R base w0 S0 σ kn blk a w) {id : Nat} (hid : ¬ kn id) {t : TypeId} {x k : DV} {ok : Bool} {vx vk : Value} {e : Eff} (he : evLookup P σ.obj id t x k ok = e) (hvc : AllP e.vc)
    (hx : Rel (rdOf w base S0 blk) kn blk x vx) (hk : Rel (rdOf w base S0 blk) kn blk k vk) : Runs P base w0 S0 σ kn a w id (Instr.lookup t vx vk ok) e := by
  unfold evLookup at he
  split at he
  · rename_i ks z hmt
    obtain ⟨kt, et, zv, hu, K, rfl, hzo, hz⟩ := mapTy_spec hmt
    split at he
    · rename_i l hl
      have hkl := keyOfD_spec hl hk
      split at he
      · rename_i ks' has col
        cases hq : ksEq ks ks'
        · simp only [hq, cond_false] at he; subst he; exact bad_vc hvc
        · simp only [hq, cond_true] at he
          obtain rfl := ksEq_spec hq
          subst he
          refine Still.runs r ?_
          cases hx with
          | mp es h0 ha hks hh hd hs hr =>
            rename_i A
            have fin : ∀ v b, (Instr.lookup t (.map A) vk ok).run P w = .ok (lookV ok v b) w → has l = b → RelC (rdOf w base S0 blk) (sel (has l) (col l) (.val zv)) v → Still P base S0 kn blk w (Instr.lookup t (.map A) vk ok) (lookRes ok (sel (has l) (col l) (.val zv)) (has l)) := fun v b h1 h2 h3 => by
              subst h2
              obtain ⟨k1, k2⟩ := lookRes_rel (ok := ok) (b := has l) (relC_open (kn := kn) (blk := blk) h3)
              exact ⟨k1, _, h1, k2⟩
            have miss : (∀ e ∈ es, e.1 ≠ vk) → has l = false := fun h => by
              cases hb : has l
              · rfl
              · obtain ⟨e, he, hek⟩ := hh l hb
                exact absurd (encK_inj hek hkl) (h e he)
            cases A with
            | none =>
              have := h0 rfl
              subst this
              have hb := miss (by simp)
              refine fin zv false ?_ hb (sel_sound ⟨fun e => ?_, fun _ => .val _⟩)
              · have hf : (Instr.findKey kt vk []).run P w = .ok none w := by
                  rcases K.find w hkl [] (by simp) with ⟨h, _⟩ | ⟨j, e, _, h, _⟩
                  · exact h
                  · simp at h
                simp [Instr.lookup, run_underlying hu, K.check w _ hkl, hf, hz, lookV]
              · rw [hb] at e; cases e
            | some g =>
              obtain ⟨es', c, hhp, hes⟩ := rdw_map (ha g rfl).1
              · have hk' : ∀ e ∈ es'.toList, ∃ l, encK ks e.key = some l := fun e he => by
                  obtain ⟨l', a, _⟩ := hks (e.key, e.val) (by rw [hes]; exact List.mem_map.2 ⟨e, he, rfl⟩)
                  exact ⟨l', a⟩
                rcases run_lookup hu K hz hkl hhp hk' ok with ⟨x, hx, hxk, hrun⟩ | ⟨hno, hrun⟩
                · have hmem : (x.key, x.val) ∈ es := by rw [hes]; exact List.mem_map.2 ⟨x, hx, rfl⟩
                  obtain ⟨l', a', b'⟩ := hks _ hmem
                  have hll : l' = l := by rw [show (x.key, x.val).1 = vk from hxk] at a'; rw [a'] at hkl; exact Option.some.inj hkl
                  subst hll
                  refine fin x.val true hrun b' (sel_sound ⟨fun _ => hr _ _ hmem a', fun e => ?_⟩)
                  rw [b'] at e; cases e
                · have hb := miss fun e he => by
                    rw [hes] at he
                    obtain ⟨y, hy, rfl⟩ := List.mem_map.1 he
                    exact hno y hy
                  refine fin zv false hrun hb (sel_sound ⟨fun e => ?_, fun _ => .val _⟩)
                  rw [hb] at e; cases e
      · subst he
        cases hx
        refine Still.runs r ?_
        have hf : (Instr.findKey kt vk []).run P w = .ok none w := by
          rcases K.find w hkl [] (by simp) with ⟨h, _⟩ | ⟨j, e, _, h, _⟩
          · exact h
          · simp at h
        obtain ⟨k1, k2⟩ := lookRes_rel (ok := ok) (b := false) (d := .val zv) (v := zv) (rd := rdOf w base S0 blk) (kn := kn) (blk := blk) (.val _)
        exact ⟨k1, _, by simp [Instr.lookup, run_underlying hu, K.check w _ hkl, hf, hz, lookV], k2⟩
      · rename_i m
        split at he
        · rename_i ks' has col hot hob
          cases hq : ksEq ks ks'
          · simp only [hq, cond_false] at he; subst he; exact bad_vc hvc
          · simp only [hq, cond_true] at he
            obtain rfl := ksEq_spec hq
            subst he
            refine Still.runs r ?_
            obtain ⟨_, g, es, clock, hlm, hhp, hm, _, _⟩ := r.objs _ _ hob
            have hvg : vx = .map (some g) := by cases hx with | mph _ _ h => exact h g [] hlm
            subst hvg
            rcases run_lookup hu K hz hkl hhp (fun e he => let ⟨l, a, _⟩ := hm.hk e he; ⟨l, a⟩) ok with ⟨x, hx, hxk, hrun⟩ | ⟨hno, hrun⟩
            · obtain ⟨l', a', b'⟩ := hm.hk x hx
              have hll : l' = l := by rw [hxk] at a'; rw [a'] at hkl; exact Option.some.inj hkl
              subst hll
              have h3 : RelC (rdOf w base S0 blk) (sel (has l') (col l') (.val zv)) x.val := sel_sound ⟨fun _ => hm.h x l' hx a', fun e => by rw [b'] at e; cases e⟩
              obtain ⟨k1, k2⟩ := lookRes_rel (ok := ok) (b := has l') (relC_open (kn := kn) (blk := blk) h3)
              exact ⟨k1, _, by rw [b']; exact hrun, k2⟩
            · have hb : has l = false := by
                cases hb : has l
                · rfl
                · obtain ⟨e, he, hek⟩ := hm.hh l hb
                  exact absurd (encK_inj hek hkl) (hno e he)
              have h3 : RelC (rdOf w base S0 blk) (sel (has l) (col l) (.val zv)) zv := sel_sound ⟨(fun e => by rw [hb] at e; cases e), fun _ => .val zv⟩
              obtain ⟨k1, k2⟩ := lookRes_rel (ok := ok) (b := has l) (relC_open (kn := kn) (blk := blk) h3)
              exact ⟨k1, _, by rw [hb]; exact hrun, k2⟩
        · rename_i ks' len col hot hob
          cases hq : ksEq ks ks'
          · simp only [hq, cond_false] at he; subst he; exact bad_vc hvc
          · simp only [hq, cond_true] at he
            obtain rfl := ksEq_spec hq
            split at he
            · rename_i hzz
              cases hzz
              subst he
              obtain ⟨hkm, g, bs, es, clock, hlm, hhp, hG, hbs, hhot⟩ := r.objs _ _ hob
              have hvg : vx = .map (some g) := by cases hx with | mph _ _ h => exact h g bs hlm
              subst hvg
              have hmid : m ≠ id := fun e => hid (e ▸ hkm)
              -- the slice at the key
              obtain ⟨v, hrun, hat, hov⟩ : ∃ v, (Instr.lookup t (.map (some g)) vk false).run P w = .ok v w ∧ atKey ks es.toList l v ∧ oneV v = true := by
                rcases run_lookup hu K hz hkl hhp hG.hk false with ⟨x, hx, hxk, hrun⟩ | ⟨hno, hrun⟩
                · have hxl : encK ks x.key = some l := by rw [hxk]; exact hkl
                  refine ⟨x.val, hrun, .inl ⟨x, hx, hxl, rfl⟩, ?_⟩
                  rcases hG.ent x l hx hxl (by simp) with ⟨h, _⟩ | ⟨_, _, _, _, h, _⟩ <;> rw [h] <;> rfl
                · exact ⟨_, hrun, .inr ⟨fun e he h => hno e he (encK_inj h hkl), rfl⟩, rfl⟩
              have q := r.newAt (w' := w) (o := .tok) (l := .is v) hid (Below.refl _ _) (fun _ hg => hg.elim) (fun _ _ _ _ h => by cases h) fun _ _ => ⟨v, rfl⟩
              have hobm : (σ.setObj id (some .tok)).obj m = some (.gmap ks len col hot none) := by rw [St.obj_setObj, if_neg (fun e => hmid e.symm)]; exact hob
              have q2 := q.reObj (id := m) (o := .gmap ks len col ((id, l) :: hot) none) (.inl hkm) (by
                obtain ⟨_, g', bs', es', clock', hlm', hhp', hG', hbs', hhot'⟩ := q.objs _ _ hobm
                refine ⟨g', bs', es', clock', hlm', hhp', hG', hbs', fun t k hm => ?_⟩
                rcases List.mem_cons.1 hm with hm | hm
                · cases hm
                  rw [if_neg hmid] at hlm'
                  rw [hlm] at hlm'
                  cases hlm'
                  rw [hhp] at hhp'
                  cases hhp'
                  exact ⟨v, if_pos rfl, hat⟩
                · exact hhot' t k hm)
              refine ⟨v, w, hrun, _, _, q2, .tok (.inr rfl) hov fun u e => ?_, fun _ h => h⟩
              rw [if_pos rfl] at e
              cases e; rfl
            · subst he; exact bad_vc hvc
        · subst he; exact bad_vc hvc
      · subst he; exact bad_vc hvc
    · subst he; exact bad_vc hvc
  · subst he; exact bad_vc hvc
theorem setObj_other {r : Nat} {o : Obj} {k : Nat} (h : k ≠ r) : ({ w with heap := w.heap.setIfInBounds r o } : World).heap[k]? = w.heap[k]? := by simp [Ne.symm h]
theorem setObj_same {r : Nat} {o x : Obj} (h : w.heap[r]? = some x) : ({ w with heap := w.heap.setIfInBounds r o } : World).heap[r]? = some o := by simp [heap_lt h]
theorem run_mapUpdate {t k e : TypeId} {ks : KS} (hu : P.underlying t = some (.map k e)) (K : KeyRun P k ks) {kv val : Value} {l : List Int} (hk : encK ks kv = some l) {g : Nat} {es : Array MapEntry} {clock : Nat}
    (hh : w.heap[g]? = some (.map es clock)) (hes : ∀ e ∈ es.toList, ∃ l, encK ks e.key = some l) :
    ∃ es' clock', (Instr.mapUpdate t (.map (some g)) kv val).run P w = .ok () { w with heap := w.heap.setIfInBounds g (.map es' clock') } ∧ Upd es.toList clock kv val es'.toList clock' := by
  rcases K.find w hk es.toList hes with ⟨h1, h2⟩ | ⟨j, e0, h1, h2, h3⟩
  · refine ⟨es.push ⟨kv, val, clock⟩, clock + 1, ?_, .inl ⟨h2, by simp, rfl⟩⟩
    simp [Instr.mapUpdate, run_underlying hu, MapKept.run_getObj_map hh, K.check w false hk, h1, MapKept.run_setObj_map _ hh, Result.andThen]
  · have hj : es[j]? = some e0 := by simpa using h2
    refine ⟨es.modify j fun e => { e with key := kv, val := val }, clock, ?_, Upd.toList h2 h3⟩
    simp [Instr.mapUpdate, run_underlying hu, MapKept.run_getObj_map hh, K.check w false hk, h1, hj, h3, K.stays w hk, MapKept.run_setObj_map _ hh, Result.andThen]
theorem run_mapEntry {t k e : TypeId} {ks : KS} (hu : P.underlying t = some (.map k e)) (K : KeyRun P k ks) {zv : Value} (hz : ∀ w : World, (zeroValue e).run P w = .ok zv w) {kv : Value} {l : List Int} (hk : encK ks kv = some l) {g : Nat} {es : Array MapEntry} {clock : Nat}
    (hh : w.heap[g]? = some (.map es clock)) (hes : ∀ e ∈ es.toList, ∃ l, encK ks e.key = some l) :
    ∃ es' clock' v n, (Instr.mapEntry t (.map (some g)) kv).run P w = .ok (.tuple #[v, .int .i64 (n : Nat)]) { w with heap := w.heap.setIfInBounds g (.map es' clock') } ∧ Upd es.toList clock kv v es'.toList clock' ∧
      (∃ e ∈ es'.toList, e.key = kv ∧ e.born = n) ∧ ((∃ e ∈ es.toList, e.key = kv ∧ e.val = v) ∨ ((∀ e ∈ es.toList, e.key ≠ kv) ∧ v = zv)) := by
  rcases K.find w hk es.toList hes with ⟨h1, h2⟩ | ⟨j, e0, h1, h2, h3⟩
  · refine ⟨es.push ⟨kv, zv, clock⟩, clock + 1, zv, clock, ?_, .inl ⟨h2, by simp, rfl⟩, ⟨⟨kv, zv, clock⟩, by simp, rfl, rfl⟩, .inr ⟨h2, rfl⟩⟩
    simp [Instr.mapEntry, run_underlying hu, MapKept.run_getObj_map hh, K.check w false hk, h1, hz, MapKept.run_setObj_map _ hh, Result.andThen, goInt]
  · have hj : es[j]? = some e0 := by simpa using h2
    have hlist : (es.modify j fun e => { e with key := kv }).toList = (es.modify j fun e => { e with key := kv, val := e0.val }).toList := by
      rw [Array.toList_modify, Array.toList_modify]
      apply List.ext_getElem?
      intro i
      rw [List.getElem?_modify, List.getElem?_modify]
      by_cases e : j = i
      · subst e; rw [h2]; simp
      · simp [e]
    refine ⟨es.modify j fun e => { e with key := kv }, clock, e0.val, e0.born, ?_, by rw [hlist]; exact Upd.toList h2 h3, ⟨{ e0 with key := kv }, ?_, rfl, rfl⟩, .inl ⟨e0, List.mem_of_getElem? h2, h3, rfl⟩⟩
    · simp [Instr.mapEntry, run_underlying hu, MapKept.run_getObj_map hh, K.check w false hk, h1, hj, h3, K.stays w hk, MapKept.run_setObj_map _ hh, Result.andThen, goInt]
    · rw [Array.toList_modify]
      refine List.mem_iff_getElem?.2 ⟨j, ?_⟩
      rw [List.getElem?_modify, h2]; simp
theorem evMapUpdate_sound (r : R base w0 S0 σ kn blk a w) {t : TypeId} {m k v : DV} {vm vk vv : Value} {e : Eff} (he : evMapUpdate P σ.obj t m k v = e) (hvc : AllP e.vc)
    (hm : Rel (rdOf w base S0 blk) kn blk m vm) (hk : Rel (rdOf w base S0 blk) kn blk k vk) (hv : Rel (rdOf w base S0 blk) kn blk v vv) :
    e.d = .any ∧ ∃ w' blk', (Instr.mapUpdate t vm vk vv).run P w = .ok () w' ∧ R base w0 S0 (σ.effH e) kn blk' a w' := by
  unfold evMapUpdate at he
  split at he
  · rename_i ks z hmt
    obtain ⟨kt, et, zv, hu, K, _, hzo, hz⟩ := mapTy_spec hmt
    split at he
    · rename_i l hl
      have hkl := keyOfD_spec hl hk
      split at he
      · rename_i mi
        split at he
        · rename_i ks' has col hot hob
          cases hq : (ksEq ks ks' && (v.closed && v.one))
          · simp only [hq, cond_false] at he; subst he; exact bad_vc hvc
          · simp only [hq, cond_true] at he
            simp only [Bool.and_eq_true] at hq
            obtain ⟨hq1, hvcl, hvo⟩ := hq
            obtain rfl := ksEq_spec hq1
            subst he
            obtain ⟨hkm, g, es, clock, hlm, hhp, hM, hst, hhot⟩ := r.objs _ _ hob
            have hvg : vm = .map (some g) := by cases hm with | mph _ _ h => exact h g [] hlm
            subst hvg
            obtain ⟨es', clock', hrun, hup⟩ := run_mapUpdate (val := vv) hu K hkl hhp fun e he => let ⟨l, a, _⟩ := hM.hk e he; ⟨l, a⟩
            refine ⟨rfl, _, blk, hrun, r.turnL hlm (by simp) rfl rfl rfl (fun k hk => setObj_other fun e => hk (.inl e)) fun _ monoC => ?_⟩
            exact ⟨g, es', clock', rfl, setObj_same hhp, (hM.upd hup hkl (hv.one hvo) (hv.close hvcl)).mono monoC, hup.stamps hst, fun _ _ h => by cases h⟩
        · rename_i ks' len col hot opn hob
          split at he
          · rename_i s q n
            split at he
            · rename_i n' c hobr
              cases hq : (ksEq ks ks' && (Nat.beq s 1 && !(Nat.beq q mi)))
              · simp only [hq, cond_false] at he; subst he; exact bad_vc hvc
              · simp only [hq, cond_true] at he
                simp only [Bool.and_eq_true, Bool.not_eq_true'] at hq
                obtain ⟨hq1, hs1, hqm⟩ := hq
                obtain rfl := ksEq_spec hq1
                obtain rfl := Nat.eq_of_beq_eq_true hs1
                have hne : q ≠ mi := fun e => by rw [e] at hqm; simp at hqm
                subst he
                have hnn : n ≤ n' := hvc.hd
                have hopn : ∀ l0, opn = some l0 → l0 = l := fun l0 e => by
                  subst e
                  exact hvc.tl.one
                obtain ⟨hkm, g, bs, es, clock, hlm, hhp, hG, hbs, hhot⟩ := r.objs _ _ hob
                have hvg : vm = .map (some g) := by cases hm with | mph _ _ h => exact h g bs hlm
                subst hvg
                obtain ⟨hkq, hor⟩ := r.objs _ _ hobr
                obtain ⟨es', clock', hrun, hup⟩ := run_mapUpdate (val := vv) hu K hkl hhp hG.hk
                -- the row's block
                obtain ⟨bq, hbq, hent, hbqc⟩ : ∃ bq : List Nat, (∀ b, b ∈ bq ↔ ∃ l, blk q = some l ∧ l.has b) ∧ GEnt w (rdOf w base S0 blk) bq n c vv ∧ ∀ b, b ∈ bq → ∃ cv T, w.heap[b]? = some (.cells cv T (0, 0)) := by
                  cases hv with
                  | row _ hp h0 h =>
                    rcases hor with ⟨hlq, hn0⟩ | ⟨gq, C, cv, T, hlq, hh, hsz, hn, hcells⟩
                    · refine ⟨[], fun b => ⟨(fun h => by cases h), fun ⟨l, e, hb⟩ => (by rw [hlq] at e; cases e; exact hb.elim)⟩, .inl ⟨(h0 hlq).1, by omega⟩, fun b h => by cases h⟩
                    · have hvv : vv = .slice (some ⟨gq, 0, none⟩) n C := by
                        rcases h gq C hlq with ⟨e, _⟩ | ⟨e, _⟩
                        · simpa using e
                        · omega
                      refine ⟨[gq], fun b => ⟨fun h => ⟨_, hlq, List.mem_singleton.1 h⟩, fun ⟨l, e, hb⟩ => (by rw [hlq] at e; cases e; exact List.mem_singleton.2 hb)⟩, .inr ⟨gq, C, cv, T, hvv, List.mem_singleton.2 rfl, hh, by simpa using hsz, by omega, fun i hi => ?_⟩, fun b hb => ?_⟩
                      · obtain ⟨u, hu', ho, hr⟩ := hcells i 0 c (by omega) rfl
                        exact ⟨u, by simpa using hu', ho, hr⟩
                      · rw [List.mem_singleton.1 hb]; exact ⟨_, _, hh⟩
                have hgq : ∀ b, b ∈ bq ++ bs → b ≠ g := fun b hb e => by
                  subst e
                  rcases List.mem_append.1 hb with hb | hb
                  · obtain ⟨_, _, h⟩ := hbqc _ hb; rw [hhp] at h; cases h
                  · obtain ⟨_, _, h⟩ := hbs _ hb; rw [hhp] at h; cases h
                have hdis : ∀ b, b ∈ bq → b ∈ bs → False := fun b h1 h2 => by
                  obtain ⟨l', e, hb⟩ := (hbq b).1 h1
                  exact hne (r.inj _ _ _ _ b e hlm hb (.inr h2))
                refine ⟨rfl, _, (fun i => if i = mi then some (.map g (bq ++ bs)) else if i = q then none else blk i), hrun, ?_⟩
                have hheap : ∀ b, b ≠ g → ({ w with heap := w.heap.setIfInBounds g (.map es' clock') } : World).heap[b]? = w.heap[b]? := fun b hb => setObj_other hb
                refine r.step (fun k => k = g) (fun i => i = mi ∨ i = q) (by simp) rfl rfl rfl (fun k _ hk => setObj_other hk) (fun k hk => ⟨mi, _, .inl rfl, hlm, .inl hk⟩) (fun _ h => h) (fun i h => ?_) (fun i v h hi e => ?_) (fun i l' b h e hb => ?_) (fun i l' h hi e => ?_) rfl rfl rfl (fun _ => rfl) (fun i h => ?_)
                  (fun _ _ mC i o' h e => ?_) (fun i l' h e => ?_) (fun i i' l1 l2 b h h' e e' b1 b2 => ?_) fun B hB i b bs' h e => ?_
                · rw [not_or] at h
                  rw [if_neg h.1, if_neg h.2]
                · rcases h with rfl | rfl
                  · rw [hlm] at e; cases e
                  · rcases hor with ⟨h, _⟩ | ⟨_, _, _, _, h, _⟩ <;> rw [e] at h <;> cases h
                · by_cases e1 : i = mi
                  · rw [if_pos e1] at e
                    cases e
                    rcases hb with hb | hb
                    · exact .inl ⟨mi, _, .inl rfl, hlm, .inl hb⟩
                    · rcases List.mem_append.1 hb with hb | hb
                      · obtain ⟨l0, e0, hb0⟩ := (hbq b).1 hb
                        exact .inl ⟨q, l0, .inr rfl, e0, hb0⟩
                      · exact .inl ⟨mi, _, .inl rfl, hlm, .inr hb⟩
                  · rw [if_neg e1, if_pos (h.resolve_left e1)] at e; cases e
                · by_cases e1 : i = mi
                  · rw [if_pos e1] at e
                    cases e
                    exact ⟨.map g bs, by rw [e1]; exact hlm, rfl⟩
                  · rw [if_neg e1, if_pos (h.resolve_left e1)] at e; cases e
                · rw [not_or] at h
                  show St.obj ((σ.setObj q none).setObj mi _) i = _
                  rw [St.obj_setObj, if_neg (fun e => h.1 e.symm), St.obj_setObj, if_neg (fun e => h.2 e.symm)]
                · have e : St.obj ((σ.setObj q none).setObj mi (some (.gmap ks (fun l' => if l' = l then n else len l') (fun l' i => sel (decide (l' = l)) (c i) (col l' i)) [] none))) i = some o' := e
                  by_cases e1 : i = mi
                  · rw [St.obj_setObj, if_pos e1.symm, Option.some.injEq] at e
                    subst e
                    refine ⟨e1 ▸ hkm, ?_⟩
                    rw [if_pos e1]
                    have key : ∀ {x : MapEntry} {l' : List Int}, encK ks x.key = some l' → x.key ≠ vk → l' ≠ l := fun {x l'} hx hne e => hne (encK_inj (by rw [hx, e]) hkl)
                    refine ⟨g, bq ++ bs, es', clock', rfl, setObj_same hhp, ⟨fun x hx => ?_, hup.keys hG.hd, fun l' hl' _ => ?_, fun x l' hx hxl _ => ?_, fun x x' l1 l2 b n1 C1 n2 C2 hx hx' h1 h2 _ _ hxx e1 e2 => ?_⟩, fun b hb => ?_, fun _ _ h => by cases h⟩
                    · rcases hup.mem hG.hd hx with ⟨h1, _⟩ | ⟨h1, _⟩
                      · exact hG.hk x h1
                      · exact ⟨l, by rw [h1]; exact hkl⟩
                    · have hll : l' ≠ l := fun e => by
                        obtain ⟨x, hx, hxk, _⟩ := hup.new
                        exact hl' x hx (by rw [hxk, e]; exact hkl)
                      rw [if_neg hll]
                      refine hG.miss l' (fun x hx hxl => ?_) (fun e => hll (hopn l' e))
                      refine hl' x (hup.old hx fun e => hll ?_) hxl
                      rw [e, hkl] at hxl; exact (Option.some.inj hxl).symm
                    · rcases hup.mem hG.hd hx with ⟨h1, h2⟩ | ⟨h1, h2⟩
                      · have hll := key hxl h2
                        rw [if_neg hll]
                        have h3 := hG.ent x l' h1 hxl (fun e => hll (hopn l' e))
                        have h4 : GEnt { w with heap := w.heap.setIfInBounds g (.map es' clock') } (rdOf _ base S0 (fun i => if i = mi then some (.map g (bq ++ bs)) else if i = q then none else blk i)) (bq ++ bs) (len l') (col l') x.val := h3.mono mC (fun b hb _ => hheap b (hgq b (List.mem_append_right _ hb))) fun b hb => List.mem_append_right _ hb
                        rcases h4 with h | ⟨b, C, cv, T, a1, a2, a3, a4, a5, a6⟩
                        · exact .inl h
                        · exact .inr ⟨b, C, cv, T, a1, a2, a3, a4, a5, fun i hi => let ⟨u, x1, x2, x3⟩ := a6 i hi; ⟨u, x1, x2, sel_sound ⟨(fun e => by simp at e; exact absurd e hll), fun _ => x3⟩⟩⟩
                      · have hll : l' = l := by rw [h1, hkl] at hxl; exact (Option.some.inj hxl).symm
                        rw [if_pos hll, h2]
                        have h4 : GEnt { w with heap := w.heap.setIfInBounds g (.map es' clock') } (rdOf _ base S0 (fun i => if i = mi then some (.map g (bq ++ bs)) else if i = q then none else blk i)) (bq ++ bs) n c vv := hent.mono mC (fun b hb _ => hheap b (hgq b (List.mem_append_left _ hb))) fun b hb => List.mem_append_left _ hb
                        rcases h4 with h | ⟨b, C, cv, T, a1, a2, a3, a4, a5, a6⟩
                        · exact .inl h
                        · exact .inr ⟨b, C, cv, T, a1, a2, a3, a4, a5, fun i hi => let ⟨u, x1, x2, x3⟩ := a6 i hi; ⟨u, x1, x2, sel_sound ⟨(fun _ => x3), fun e => by simp [hll] at e⟩⟩⟩
                    · have old : ∀ y l', y ∈ es.toList → y.key ≠ vk → encK ks y.key = some l' → ∀ b n C, y.val = .slice (some ⟨b, 0, none⟩) n C → b ∈ bs := fun y l' hy hyk hyl b n C e => by
                        rcases hG.ent y l' hy hyl (fun e => key hyl hyk (hopn l' e)) with ⟨h, _⟩ | ⟨b', C', _, _, h, hb', _⟩
                        · rw [e] at h; cases h
                        · rw [e] at h; cases h; exact hb'
                      have newb : ∀ b n' C, vv = .slice (some ⟨b, 0, none⟩) n' C → b ∈ bq := fun b n' C e => by
                        rcases hent with ⟨h, _⟩ | ⟨b', C', _, _, h, hb', _⟩
                        · rw [e] at h; cases h
                        · rw [e] at h; cases h; exact hb'
                      rcases hup.mem hG.hd hx with ⟨a1, a2⟩ | ⟨a1, a2⟩ <;> rcases hup.mem hG.hd hx' with ⟨b1, b2⟩ | ⟨b1, b2⟩
                      · exact hG.sep x x' l1 l2 b n1 C1 n2 C2 a1 b1 h1 h2 (fun e => key h1 a2 (hopn l1 e)) (fun e => key h2 b2 (hopn l2 e)) hxx e1 e2
                      · rw [b2] at e2
                        exact hdis b (newb b _ _ e2) (old x l1 a1 a2 h1 b _ _ e1)
                      · rw [a2] at e1
                        exact hdis b (newb b _ _ e1) (old x' l2 b1 b2 h2 b _ _ e2)
                      · exact hxx (by rw [a1, b1])
                    · rw [hheap b (hgq b hb)]
                      rcases List.mem_append.1 hb with hb | hb
                      · exact hbqc b hb
                      · exact hbs b hb
                  · rw [St.obj_setObj, if_neg (fun e' => e1 e'.symm), St.obj_setObj, if_pos (h.resolve_left e1).symm] at e
                    cases e
                · by_cases e1 : i = mi
                  · exact ⟨_, (show St.obj ((σ.setObj q none).setObj mi (some (.gmap ks (fun l' => if l' = l then n else len l') (fun l' i => sel (decide (l' = l)) (c i) (col l' i)) [] none))) i = _ from by rw [St.obj_setObj, if_pos e1.symm])⟩
                  · rw [if_neg e1, if_pos (h.resolve_left e1)] at e; cases e
                · by_cases e1 : i = mi <;> by_cases e2 : i' = mi
                  · rw [e1, e2]
                  · rw [if_neg e2, if_pos (h'.resolve_left e2)] at e'; cases e'
                  · rw [if_neg e1, if_pos (h.resolve_left e1)] at e; cases e
                  · rw [if_neg e1, if_pos (h.resolve_left e1)] at e; cases e
                · by_cases e1 : i = mi
                  · rw [if_pos e1] at e
                    cases e
                    exact r.mlow B hB mi g bs hlm
                  · rw [if_neg e1, if_pos (h.resolve_left e1)] at e; cases e
            · subst he; exact bad_vc hvc
          · subst he; exact bad_vc hvc
        · subst he; exact bad_vc hvc
      · subst he; exact bad_vc hvc
    · subst he; exact bad_vc hvc
  · subst he; exact bad_vc hvc
theorem evMapEntry_sound (r : R base w0 S0 σ kn blk a w) {id : Nat} (hid : ¬ kn id) {t : TypeId} {m k : DV} {vm vk : Value} {e : Eff} (he : evMapEntry P σ.obj id t m k = e) (hvc : AllP e.vc)
    (hm : Rel (rdOf w base S0 blk) kn blk m vm) (hk : Rel (rdOf w base S0 blk) kn blk k vk) : Runs P base w0 S0 σ kn a w id (Instr.mapEntry t vm vk) e := by
  unfold evMapEntry at he
  split at he
  · rename_i ks z hmt
    obtain ⟨kt, et, zv, hu, K, rfl, hzo, hz⟩ := mapTy_spec hmt
    split at he
    · rename_i l hl
      have hkl := keyOfD_spec hl hk
      split at he
      · rename_i mi
        split at he
        · rename_i ks' has col hot hob
          cases hq : (ksEq ks ks' && (DV.val zv).closed)
          · simp only [hq, cond_false] at he; subst he; exact bad_vc hvc
          · simp only [hq, cond_true] at he
            simp only [Bool.and_eq_true] at hq
            obtain rfl := ksEq_spec hq.1
            subst he
            obtain ⟨hkm, g, es, clock, hlm, hhp, hM, hst, hhot⟩ := r.objs _ _ hob
            have hmid : mi ≠ id := fun e => hid (e ▸ hkm)
            have hvg : vm = .map (some g) := by cases hm with | mph _ _ h => exact h g [] hlm
            subst hvg
            obtain ⟨es', clock', v, n, hrun, hup, ⟨x, hx, hxk, hxb⟩, hcur⟩ := run_mapEntry hu K hz hkl hhp fun e he => let ⟨l, a, _⟩ := hM.hk e he; ⟨l, a⟩
            have hvrel : RelC (rdOf w base S0 blk) (sel (has l) (col l) (.val zv)) v ∧ oneV v = true := by
              rcases hcur with ⟨y, hy, hyk, rfl⟩ | ⟨hno, rfl⟩
              · obtain ⟨l', a', b'⟩ := hM.hk y hy
                have hll : l' = l := by rw [hyk] at a'; rw [a'] at hkl; exact Option.some.inj hkl
                subst hll
                exact ⟨sel_sound ⟨(fun _ => hM.h y l' hy a'), fun e => by rw [b'] at e; cases e⟩, hM.hs y hy⟩
              · have hb : has l = false := by
                  cases hb : has l
                  · rfl
                  · obtain ⟨e, he, hek⟩ := hM.hh l hb
                    exact absurd (encK_inj hek hkl) (hno e he)
                exact ⟨sel_sound ⟨(fun e => by rw [hb] at e; cases e), fun _ => .val _⟩, hzo⟩
            have q := r.newAt (w' := w) (o := .tok) (l := .is (.int .i64 (n : Nat))) hid (Below.refl _ _) (fun _ hg => hg.elim) (fun _ _ _ _ h => by cases h) fun _ _ => ⟨_, rfl⟩
            have hlm' : (fun i => if i = id then some (Loc.is (.int .i64 (n : Nat))) else blk i) mi = some (.map g []) := by simp only [if_neg hmid]; exact hlm
            have hrdm : ∀ {d v}, RelC (rdOf w base S0 blk) d v → RelC (rdOf { w with heap := w.heap.setIfInBounds g (.map es' clock') } base S0 (fun i => if i = id then some (Loc.is (.int .i64 (n : Nat))) else blk i)) d v := fun h => h.mono (fun ad u ⟨k1, k2, k3, k4⟩ => by
              have hg : ad.block ≠ g := fun e => k2 mi _ hlm (.inl e)
              refine ⟨rdw_of (setObj_other hg) k1, fun i l e hg' => ?_, k3, fun B hB hm => k4 B hB (isMapAt_of (setObj_other hg) hm)⟩
              have e : (if i = id then some (Loc.is (.int .i64 (n : Nat))) else blk i) = some l := e
              split at e
              · cases e; exact hg'
              · exact k2 i l e hg') (fun _ h => h) fun _ _ h => h.elim
            have q2 := q.turnL (w' := { w with heap := w.heap.setIfInBounds g (.map es' clock') }) (o := .map ks (putHas l has) (putCol l (sel (has l) (col l) (.val zv)) col) (some (id, l))) hlm' (by simp) rfl rfl rfl (fun k hk => setObj_other fun e => hk (.inl e)) fun _ _ => by
              refine ⟨g, es', clock', rfl, setObj_same hhp, (hM.upd hup hkl hvrel.2 hvrel.1).mono hrdm, hup.stamps hst, fun t k h => ?_⟩
              cases h
              exact ⟨x, hx, by rw [hxk]; exact hkl, by simp [hxb]⟩
            refine ⟨_, _, hrun, _, _, q2, .tup (by simp) fun j d u hd hu' => ?_, fun _ h => h⟩
            match j, hd, hu' with
            | 0, hd, hu' =>
              simp at hd hu'; subst hd hu'
              exact relC_open (hrdm hvrel.1)
            | 1, hd, hu' =>
              simp at hd hu'; subst hd hu'
              exact .tok (.inr rfl) rfl fun u e => by simp at e; exact e
        · subst he; exact bad_vc hvc
      · subst he; exact bad_vc hvc
    · subst he; exact bad_vc hvc
  · subst he; exact bad_vc hvc
theorem evEntryStore_sound (r : R base w0 S0 σ kn blk a w) {t : TypeId} {m s v : DV} {vm vs vv : Value} {e : Eff} (he : evEntryStore σ.obj m s v = e) (hvc : AllP e.vc)
    (hm : Rel (rdOf w base S0 blk) kn blk m vm) (hs : Rel (rdOf w base S0 blk) kn blk s vs) (hv : Rel (rdOf w base S0 blk) kn blk v vv) :
    e.d = .any ∧ ∃ w' blk', (Instr.entryStore t vm vs vv).run P w = .ok () w' ∧ R base w0 S0 (σ.effH e) kn blk' a w' := by
  unfold evEntryStore at he
  split at he
  · rename_i mi tk _
    split at he
    · rename_i ks has col tk' l hob
      cases hq : (Nat.beq tk tk' && (v.closed && v.one))
      · simp only [hq, cond_false] at he; subst he; exact bad_vc hvc
      · simp only [hq, cond_true] at he
        simp only [Bool.and_eq_true] at hq
        obtain ⟨hq1, hvcl, hvo⟩ := hq
        obtain rfl := Nat.eq_of_beq_eq_true hq1
        subst he
        obtain ⟨hkm, g, es, clock, hlm, hhp, hM, hst, hhot⟩ := r.objs _ _ hob
        have hvg : vm = .map (some g) := by cases hm with | mph _ _ h => exact h g [] hlm
        subst hvg
        obtain ⟨x, hx, hxl, hbt⟩ := hhot tk l rfl
        have hvs : vs = .int .i64 x.born := by cases hs with | tok _ _ h => exact h _ hbt
        subst hvs
        obtain ⟨j, hj⟩ := List.mem_iff_getElem?.1 hx
        have hj' : es[j]? = some x := by simpa using hj
        have hlt : j < es.size := (Array.getElem?_eq_some_iff.1 hj').1
        have hfind : es.findIdx? (fun e => (e.born : Int) == (x.born : Int)) = some j := by
          rw [Array.findIdx?_eq_some_iff_getElem]
          refine ⟨hlt, by simp [(Array.getElem?_eq_some_iff.1 hj').2], fun i hi => ?_⟩
          have hi' : i < es.toList.length := by simp; omega
          have := List.pairwise_iff_getElem.1 hst.apart i j hi' (by simpa using hlt) hi
          simp only [Array.getElem_toList, (Array.getElem?_eq_some_iff.1 hj').2] at this
          simp; omega
        have hrun : (Instr.entryStore t (.map (some g)) (.int .i64 x.born) vv).run P w = .ok () { w with heap := w.heap.setIfInBounds g (.map (es.modify j fun e => { e with val := vv }) clock) } := by
          simp [Instr.entryStore, MapKept.run_getObj_map hhp, asInt, asIntOf, hfind, MapKept.run_setObj_map _ hhp, Result.andThen]
        have hlist : (es.modify j fun e => { e with val := vv }).toList = (es.modify j fun e => { e with key := x.key, val := vv }).toList := by
          rw [Array.toList_modify, Array.toList_modify]
          apply List.ext_getElem?
          intro i
          rw [List.getElem?_modify, List.getElem?_modify]
          by_cases e : j = i
          · subst e; rw [hj]; simp
          · simp [e]
        have hup : Upd es.toList clock x.key vv (es.modify j fun e => { e with val := vv }).toList clock := by rw [hlist]; exact Upd.toList hj rfl
        have hhas : ∀ l', putHas l has l' = has l' := fun l' => by
          unfold putHas
          by_cases e : l' = l
          · obtain ⟨l2, a, b⟩ := hM.hk x hx
            rw [hxl] at a
            cases a
            simp [e, b]
          · simp [e]
        have hhas' : putHas l has = has := funext hhas
        have h1 := hM.upd hup hxl (hv.one hvo) (hv.close hvcl)
        rw [hhas'] at h1
        refine ⟨rfl, _, blk, hrun, r.turnL hlm (by simp) rfl rfl rfl (fun k hk => setObj_other fun e => hk (.inl e)) fun _ monoC => ?_⟩
        exact ⟨g, _, clock, rfl, setObj_same hhp, h1.mono monoC, hup.stamps hst, fun _ _ h => by cases h⟩
    · subst he; exact bad_vc hvc
  · subst he; exact bad_vc hvc
theorem evDelete_sound (r : R base w0 S0 σ kn blk a w) {t ty : TypeId} {m k : DV} {vm vk : Value} {e : Eff} (he : evDelete P σ.obj t m k = e) (hvc : AllP e.vc)
    (hm : Rel (rdOf w base S0 blk) kn blk m vm) (hk : Rel (rdOf w base S0 blk) kn blk k vk) {ts : Array TypeId} (hts : ts[0]? = some t) :
    ∃ w' v, (Builtin.delete_ ts ty #[vm, vk]).run P w = .ok v w' ∧ R base w0 S0 (σ.effH e) kn blk a w' ∧ Rel (rdOf w' base S0 blk) kn blk e.d v := by
  unfold evDelete at he
  split at he
  · rename_i ks z hmt
    obtain ⟨kt, et, zv, hu, K, _, hzo, hz⟩ := mapTy_spec hmt
    split at he
    · rename_i l hl
      have hkl := keyOfD_spec hl hk
      split at he
      · rename_i mi
        split at he
        · rename_i ks' has col hot hob
          cases hq : ksEq ks ks'
          · simp only [hq, cond_false] at he; subst he; exact bad_vc hvc
          · simp only [hq, cond_true] at he
            obtain rfl := ksEq_spec hq
            subst he
            obtain ⟨hkm, g, es, clock, hlm, hhp, hM, hst, hhot⟩ := r.objs _ _ hob
            have hvg : vm = .map (some g) := by cases hm with | mph _ _ h => exact h g [] hlm
            subst hvg
            -- what is left
            obtain ⟨es', hrun, hsub, hmem⟩ : ∃ es' : Array MapEntry, (Builtin.delete_ ts ty #[.map (some g), vk]).run P w = .ok (.tuple #[]) { w with heap := w.heap.setIfInBounds g (.map es' clock) } ∧ es'.toList.Sublist es.toList ∧ ∀ x, x ∈ es'.toList ↔ x ∈ es.toList ∧ x.key ≠ vk := by
              rcases K.find w hkl es.toList (fun e he => let ⟨l, a, _⟩ := hM.hk e he; ⟨l, a⟩) with ⟨h1, h2⟩ | ⟨j, e0, h1, h2, h3⟩
              · refine ⟨es, ?_, List.Sublist.refl _, fun x => ⟨fun h => ⟨h, h2 x h⟩, fun h => h.1⟩⟩
                simp [Builtin.delete_, hts, run_underlying hu, MapKept.run_getObj_map hhp, K.check w _ hkl, h1, MapKept.run_setObj_map _ hhp, Result.andThen]
              · have hlt : j < es.size := by simpa using (List.getElem?_eq_some_iff.1 h2).1
                refine ⟨es.eraseIdxIfInBounds j, ?_, ?_, fun x => ?_⟩
                · simp [Builtin.delete_, hts, run_underlying hu, MapKept.run_getObj_map hhp, K.check w _ hkl, h1, MapKept.run_setObj_map _ hhp, Result.andThen]
                · simp only [Array.eraseIdxIfInBounds, hlt, dif_pos, Array.toList_eraseIdx]
                  exact List.eraseIdx_sublist _ _
                · simp only [Array.eraseIdxIfInBounds, hlt, dif_pos, Array.toList_eraseIdx]
                  rw [List.mem_eraseIdx_iff_getElem?]
                  constructor
                  · rintro ⟨i, hij, hi⟩
                    exact ⟨List.mem_of_getElem? hi, fun e => hij (apart_at hM.hd hi h2 (by rw [e, h3]))⟩
                  · rintro ⟨hx, hne⟩
                    obtain ⟨i, hi⟩ := List.mem_iff_getElem?.1 hx
                    refine ⟨i, fun e => ?_, hi⟩
                    subst e
                    rw [h2] at hi; cases hi; exact hne h3
            have key : ∀ {x : MapEntry} {l' : List Int}, encK ks x.key = some l' → (x.key ≠ vk ↔ l' ≠ l) := fun {x l'} hx => ⟨fun hne e => hne (encK_inj (by rw [hx, e]) hkl), fun hne e => hne (by rw [e, hkl] at hx; exact (Option.some.inj hx).symm)⟩
            refine ⟨_, _, hrun, r.turnL hlm (by simp) rfl rfl rfl (fun k hk => setObj_other fun e => hk (.inl e)) fun _ monoC => ?_, .val _⟩
            refine ⟨g, es', clock, rfl, setObj_same hhp, ⟨fun x hx => ?_, fun l' hl' => ?_, hM.hd.sublist hsub, fun x hx => hM.hs x ((hmem x).1 hx).1, fun x l' hx hxl => monoC (hM.h x l' ((hmem x).1 hx).1 hxl)⟩, ⟨hst.apart.sublist hsub, fun x hx => hst.below x ((hmem x).1 hx).1⟩, fun _ _ h => by cases h⟩
            · obtain ⟨h1, h2⟩ := (hmem x).1 hx
              obtain ⟨l', a, b⟩ := hM.hk x h1
              exact ⟨l', a, by simp [b, (key a).1 h2]⟩
            · simp only [Bool.and_eq_true, Bool.not_eq_true', decide_eq_false_iff_not] at hl'
              obtain ⟨x, hx, hxl⟩ := hM.hh l' hl'.2
              exact ⟨x, (hmem x).2 ⟨hx, (key hxl).2 hl'.1⟩, hxl⟩
        · subst he; exact bad_vc hvc
      · subst he; exact bad_vc hvc
    · subst he; exact bad_vc hvc
  · subst he; exact bad_vc hvc
end
end Go.Abs
