/- Iterators: what a bound method yields, out of what is owed for its body. -/
import Derived.Test.YtmcgfoacmalbjaaGreatDoorAbsT
namespace Go.Abs
open Go.RowKit
structure YNote : Type 1 where
  A : Ann
  yl : List (Nat × Nat)
  cnt : List (Nat × (St → Nat))
  N : Nat
  enc : Nat → List Value
def look0 {α : Type} : List (Nat × α) → Nat → Option α
  | [], _ => none
  | (k, v) :: r, i => bif Nat.beq k i then some v else look0 r i
def frzT (ob : Heap) (d : DV) : DV := match frz ob d with
  | some (e, []) => e
  | _ => .any
def frzM (ob : Heap) : List (Nat × DV) → List (Nat × DV)
  | [] => []
  | (t, d) :: r => (t, frzT ob d) :: frzM ob r
def frzSt (σ : St) : St := { t := frzM σ.obj σ.t, h := [], nx := 0, nt := σ.nt, rn := false, lo := 0 }
def yldB (P : Program) (ops : Array Oper) (orc : List (Nat × Orc)) (k : Nat) (rest : List Oper) (σ : St) (d : Tmp) (b : Bool) (x : Option Nat) (K : Exit → St → Option Nat → VT) : VT :=
  match runOps P ops orc 0 rest k ({ frzSt σ with nx := ops.size }.put d (.val (.bool b))) [] with
  | (σ2, vcs) => .need vcs (K .normal (frzSt σ2) x)
def yieldE (P : Program) (Y : YNote) (l : Nat) (ops : Array Oper) (orc : List (Nat × Orc)) (j : Nat) (σ : St) (x : Option Nat) (K : Exit → St → Option Nat → VT) : VT :=
  match x, ops.toList.drop j with
  | some x, o :: rest => match runOps P ops orc 0 (ops.toList.take j) 0 { σ with nx := ops.size } [] with
    | (σ1, vcs) => match o.op, o.dst, o.guard with
      | .call c, some d, none => match c.callee, c.args.toList with
        | .value y, [z] => match σ1.ev y, σ1.ev z with
          | .val (.func (.yield l') fs cs), .val v => bif Nat.blt d σ.nt && (fs.toList.isEmpty && cs.toList.isEmpty) then
              .need (vcs ++ [l' = l, x < Y.N, Y.enc x = [v]]) (.cut Unit (fun _ => True) (yldB P ops orc (j + 1) rest σ1 d true (some (x + 1)) K) fun _ => yldB P ops orc (j + 1) rest σ1 d false none K)
            else .done [False]
          | _, _ => .done [False]
        | _, _ => .done [False]
      | _, _, _ => .done [False]
  | _, _ => .done [False]
def ySt (C : Note) (σ : St) (i : C.ι) : St := { t := (C.st σ i).t, h := [], nx := 0, nt := σ.nt, rn := false, lo := 0 }
def yAt (C : Note) (σ σ' : St) : List Prop := bif Nat.beq σ.nt σ'.nt then tmpsVC [] σ' (C.st σ (C.rd σ σ')).t else [False]
def evalY (P : Program) (Y : YNote) (l : Nat) : Code → St → Option Nat → (Exit → St → Option Nat → VT) → VT
  | .skip, σ, x, K => K .normal σ x
  | .label _, σ, x, K => K .normal σ x
  | .ret, σ, x, K => K .ret σ x
  | .exit id, σ, x, K => K (.exit id) σ x
  | .region id ops draw, σ, x, K => bif draw then .done [False] else match look0 Y.yl id with
    | none => match regionOut P ops (orcsAt Y.A.orc id) σ with
      | (σ', vcs) => .need vcs (K .normal (frzSt σ') x)
    | some j => yieldE P Y l ops (orcsAt Y.A.orc id) j σ x K
  | .seq a b, σ, x, K => evalY P Y l a σ x fun e σ' x' => match e with
    | .normal => evalY P Y l b σ' x' K
    | e => K e σ' x'
  | .cond c a b, σ, x, K => match σ.ev c with
    | .val (.bool p) => .ite p (evalY P Y l a σ x K) (evalY P Y l b σ x K)
    | _ => .done [False]
  | .block id (.loop body), σ, some x, K => match look1 Y.A.loops id, look0 Y.cnt id with
    | some C, some cn => .loop C.ι (C.inv σ) (C.rd σ σ) (yAt C σ σ ++ [x = cn (ySt C σ (C.rd σ σ))]) fun i => evalY P Y l body (frzSt (ySt C σ i)) (some (cn (ySt C σ i))) fun e σ' x' => match e with
      | .normal => match x' with
        | some x' => .done (yAt C σ σ' ++ [x' = cn (ySt C σ (C.rd σ σ')), C.inv σ (C.rd σ σ'), C.mu σ (C.rd σ σ') < C.mu σ i])
        | none => .done [False]
      | .exit j => bif Nat.beq j id then K .normal σ' x' else K (.exit j) σ' x'
      | e => K e σ' x'
    | _, _ => .done [False]
  | .block _ (.loop _), _, none, _ => .done [False]
  | .block _ (.rangeFunc ..), _, _, _ => .done [False]
  | .block id c, σ, x, K => evalY P Y l c σ x fun e σ' x' => match e with
    | .exit j => bif Nat.beq j id then K .normal σ' x' else K (.exit j) σ' x'
    | e => K e σ' x'
  | _, _, _, _ => .done [False]
theorem frzM_get {ob : Heap} {t : Nat} : ∀ {l : List (Nat × DV)}, look (frzM ob l) t = (look l t).map (frzT ob)
  | [] => rfl
  | (k, d) :: r => by
    simp only [frzM, look_cons]
    by_cases e : k = t
    · rw [if_pos e, if_pos e]; rfl
    · rw [if_neg e, if_neg e, frzM_get]
abbrev envY (F : Nat → Prop) (w : World) : Env := ⟨F, [ndF], w, none, fun _ => False, fun _ => undef⟩
structure FY (J : Nat → (Nat → Prop) → World → Prop) (Jx : World → Prop) (F : Nat → Prop) (σ : St) (x : Option Nat) (a : Act) (w : World) : Prop where
  j : match x with
    | some x => J x F w
    | none => Jx w
  hh : σ.h = []
  rn : σ.rn = false
  lo : σ.lo = 0
  size : a.tmps.size = σ.nt
  dfr : a.defers = []
  tmps : ∀ t, RelC (rdF F w) (σ.get t) (a.tmps.getD t undef)
  glob : GlobOK (rdF F w)
section
variable {P : Program} {Y : YNote} {l : Nat} {m : Nat} {w w' : World} {J : Nat → (Nat → Prop) → World → Prop} {Jx : World → Prop} {F : Nat → Prop} {σ : St} {x : Option Nat} {a : Act}
theorem FY.toR (h : FY J Jx F σ x a w) (nx : Nat) : R w.heap.size w (envY F w) { σ with nx } (fun _ => False) (fun _ => none) a w := by
  have ho : ∀ id, σ.obj id = none := fun id => by unfold St.obj; rw [h.hh]; rfl
  have hrd : ∀ {d v}, RelC (rdF F w) d v → Rel (rdOf w w.heap.size (envY F w) fun _ => none) (fun _ => False) (fun _ => none) d v := fun hr => hr.mono (fun ad u ⟨x, y⟩ => ⟨x, (fun id l e => by cases e), .inl y, fun B h => by cases h⟩) (fun _ h => h) fun _ _ h => h.elim
  refine ⟨BelowX.refl _ _ _, (fun _ h => h.elim), Nat.le_refl _, ⟨(by rw [h.dfr]; exact ⟨List.nodup_nil, fun _ => rfl⟩), fun d hd => (by rw [h.dfr] at hd; cases hd)⟩, ⟨Nat.le_refl _, (fun B h => by cases h), fun _ _ h _ _ => h⟩, (fun h => absurd rfl h), (fun B h => by cases h), fun d v hd => ?_, h.size, fun t => hrd (h.tmps t), fun id o e => (by
    have e : σ.obj id = some o := e
    rw [ho] at e; cases e), (fun _ _ _ _ _ e => by cases e), (fun _ _ _ e => by cases e), (fun _ _ e => by cases e), fun t ht => (by
    have ht : t < σ.lo := ht
    rw [h.lo] at ht; exact absurd ht (Nat.not_lt_zero t))⟩
  rcases List.mem_append.1 hd with hd | hd
  · exact hrd (h.glob d v hd)
  · rw [List.mem_singleton] at hd; cases hd; exact .any _
theorem FY.of {w0 : World} {σ' : St} {kn : Nat → Prop} {blk : Nat → Option Loc} (hJ : ∀ x F A B, J x F A → Below A.heap.size A B → J x (newBlk F A B) B) (hJx : ∀ A B, Jx A → Below A.heap.size A B → Jx B)
    (hj : match x with
      | some x => J x F w0
      | none => Jx w0) (hgl : GlobOK (rdF F w0)) (r : R w0.heap.size w0 (envY F w0) σ' kn blk a w) : FY J Jx (newBlk F w0 w) (frzSt σ') x a w := by
  have hb : Below w0.heap.size w0 w := r.below.none fun _ h => h
  refine ⟨?_, rfl, rfl, rfl, r.size, r.dfr.1.2 List.mem_cons_self, fun t => ?_, hgl.mono fun ad u h => ⟨rdw_of (hb.block _ (rdw_lt h.1)) h.1, .inl h.2⟩⟩
  · cases x with
    | none => exact hJx _ _ hj hb
    | some x => exact hJ _ _ _ _ hj hb
  · show RelC _ (match look (frzM σ'.obj σ'.t) t with | some d => d | none => DV.any) _
    rw [frzM_get]
    cases hl : look σ'.t t with
    | none => exact .any _
    | some d =>
      show RelC _ (frzT σ'.obj d) _
      unfold frzT
      split
      · rename_i e hf
        have hv := r.tmps t
        have e1 : σ'.get t = d := by unfold St.get; rw [hl]
        rw [e1] at hv
        exact (frz_sound r hf (fun _ h => by cases h) hv).mono (fun ad u h => ⟨h.1, h.2.imp id fun h' => ⟨h', rdw_lt h.1⟩⟩) (fun _ h => h) fun _ _ h => h.elim
      · exact .any _
theorem runOps_sound2 {ro : Option Nat} {base : Nat} {w0 : World} {S0 : Env} {ops : Array Oper} {orc : List (Nat × Orc)} {n0 : Nat} {Q : Exit → Act → World → Prop} {rest : List Nat} : ∀ (l : List Oper) (k : Nat) (σ : St) (vc : List Prop) (kn : Nat → Prop) (blk : Nat → Option Loc) (a : Act) (w : World), (∀ j, j < l.length → l[j]? = ops[k + j]?) →
    R base w0 S0 σ kn blk a w → (∀ i, kn i → i < n0 + k) → AllP (runOps P ops orc n0 l k σ vc).2 →
    (∀ kn' blk' a' w', R base w0 S0 (runOps P ops orc n0 l k σ vc).1 kn' blk' a' w' → (∀ i, kn' i → i < n0 + k + l.length) → wpOpsIn (FW ro) m P ops Q rest a' w') → wpOpsIn (FW ro) m P ops Q (List.range' k l.length ++ rest) a w
  | [], k, σ, vc, kn, blk, a, w, _, r, hkn, _, hQ => by
    simp only [List.length_nil, List.range'_zero, List.nil_append]
    exact hQ kn blk a w r (by simpa using hkn)
  | o :: l, k, σ, vc, kn, blk, a, w, hl, r, hkn, hvc, hQ => by
    have h0 : ops[k]? = some o := by simpa using (hl 0 (Nat.succ_pos _)).symm
    simp only [List.length_cons, List.range'_succ, List.cons_append, wpOpsIn, h0]
    simp only [runOps] at hvc hQ
    have hid : ¬ kn (n0 + k) := fun h => by have := hkn _ h; omega
    have hme := runOps_vc (P := P) ops orc n0 l (k + 1) (σ.eff o.dst (opEff P ops (orcAt orc k) (n0 + k) σ o)) (vc ++ (bif dstOK σ.nt σ.lo o.dst then (opEff P ops (orcAt orc k) (n0 + k) σ o).vc else [False]))
    cases hd : dstOK σ.nt σ.lo o.dst with
    | false =>
      simp only [hd, cond_false] at hme hvc
      exact (hvc False (hme False (by simp))).elim
    | true =>
      simp only [hd, cond_true] at hme hvc hQ
      have hvo : AllP (opEff P ops (orcAt orc k) (n0 + k) σ o).vc := fun p hp => hvc p (hme p (List.mem_append_right _ hp))
      refine opEff_sound r hid hvo hd fun a' w' ⟨kn', blk', hR, hk⟩ => ?_
      refine runOps_sound2 l (k + 1) _ _ kn' blk' a' w' (fun j hj => by have := hl (j + 1) (by simpa using hj); simpa [Nat.add_assoc, Nat.add_comm 1 j] using this) hR (fun i hi => ?_) hvc fun kn2 blk2 a2 w2 h2 hk2 => hQ kn2 blk2 a2 w2 h2 fun i hi => by have := hk2 i hi; simp only [List.length_cons]; omega
      rcases hk i hi with h | h
      · have := hkn i h; omega
      · omega
structure YHyp (P : Program) (Y : YNote) (l m : Nat) (J : Nat → (Nat → Prop) → World → Prop) (Jx : World → Prop) : Prop where
  hJ : ∀ x F A B, J x F A → Below A.heap.size A B → J x (newBlk F A B) B
  hJx : ∀ A B, Jx A → Below A.heap.size A B → Jx B
  hY : ∀ x F W1, J x F W1 → x < Y.N → YieldAt Fence.wide (m - 1) P l (Y.enc x).toArray W1 fun e W' => (e = .returned (.bool true) ∧ J (x + 1) F W' ∧ keptF F W1 W') ∨ (e = .returned (.bool false) ∧ Jx W' ∧ keptF F W1 W')
theorem yldB_sound (H : YHyp P Y l m J Jx) {ops : Array Oper} {orc : List (Nat × Orc)} {k : Nat} {rest : List Oper} {d : Tmp} {b : Bool} {K : Exit → St → Option Nat → VT} {Q : Exit → Act → World → Prop} (hr : ∀ j, rest[j]? = ops[k + j]?)
    (hd : d < σ.nt) (h : (yldB P ops orc k rest σ d b x K).holds) (hK : ∀ e σ' x', (K e σ' x').holds → ∀ F a w, FY J Jx F σ' x' a w → Q e a w) (hf : FY J Jx F (frzSt σ) x a w) : wpOpsIn (FW none) m P ops Q (List.range' k rest.length) (a.put (some d) (.bool b)) w := by
  unfold yldB at h
  split at h
  rename_i σ2 vcs he
  obtain ⟨h1, h2⟩ := h
  have r := (hf.toR ops.size).put (t := d) (d := .val (.bool b)) (v := .bool b) hd (Nat.zero_le _) (.val _)
  have e2 := congrArg Prod.snd he
  have e1 := congrArg Prod.fst he
  refine runOps_sound (n0 := 0) (orc := orc) rest k _ [] _ _ _ w hr r (fun _ h => h.elim) ?_ fun kn' blk' a' w' hR _ => ?_
  · have h9 : (runOps P ops orc 0 rest k ({ frzSt σ with nx := ops.size }.put d (.val (.bool b))) []).2 = vcs := e2
    exact h9.symm ▸ AllT.all h1
  · have hR' : R w.heap.size w (envY F w) σ2 kn' blk' a' w' := by
      have e1 : (runOps P ops orc 0 rest k ({ frzSt σ with nx := ops.size }.put d (.val (.bool b))) []).1 = σ2 := e1
      rw [← e1]; exact hR
    exact hK _ _ _ h2 _ _ _ (FY.of H.hJ H.hJx hf.j hf.glob hR')
theorem yieldE_sound (H : YHyp P Y l m J Jx) {id : Nat} {ops : Array Oper} {orc : List (Nat × Orc)} {j : Nat} {K : Exit → St → Option Nat → VT} {Q : Exit → Act → World → Prop} (h : (yieldE P Y l ops orc j σ x K).holds)
    (hK : ∀ e σ' x', (K e σ' x').holds → ∀ F a w, FY J Jx F σ' x' a w → Q e a w) (hf : FY J Jx F σ x a w) : (Code.region id ops false).wpIn (FW none) m P Q a w := by
  unfold yieldE at h
  split at h
  · rename_i x o rest hdr
    split at h
    rename_i σ1 vcs he
    split at h
    · rename_i c d hop hdst hgu
      split at h
      · rename_i y z hcal hargs
        split at h
        · rename_i l' fs cs v hy hz
          cases hb : Nat.blt d σ.nt && (fs.toList.isEmpty && cs.toList.isEmpty) with
          | false => simp only [hb, cond_false] at h; exact h.elim
          | true =>
            simp only [hb, cond_true] at h
            simp only [Bool.and_eq_true] at hb
            obtain ⟨hd, hfs, hcs⟩ := hb
            have hd := Nat.le_of_ble_eq_true hd
            obtain rfl : fs = #[] := Array.ext' (by simpa using hfs)
            obtain rfl : cs = #[] := Array.ext' (by simpa using hcs)
            obtain ⟨h1, h2, h3⟩ := h
            obtain ⟨hv, h4⟩ := AllP.app (AllT.all h1)
            obtain rfl := h4.hd
            have hxN := h4.tl.hd
            have henc := h4.tl.tl.one
            have hjlt : j < ops.size := by
              have := congrArg List.length hdr
              simp at this
              omega
            have hlen : (ops.toList.take j).length = j := by simp; omega
            have hrl : ops.size = j + (1 + rest.length) := by
              have := congrArg List.length hdr
              simp at this
              omega
            have hrest : ∀ i, rest[i]? = ops[j + 1 + i]? := fun i => by
              have e : (ops.toList.drop j)[i + 1]? = rest[i]? := by rw [hdr]; rfl
              rw [← e, List.getElem?_drop, show j + (i + 1) = j + 1 + i by omega]
              simp
            have ho : ops[j]? = some o := by
              have e : (ops.toList.drop j)[0]? = some o := by rw [hdr]; rfl
              rw [List.getElem?_drop] at e
              simpa using e
            refine wpIn_region ?_
            have er : List.range ops.size = List.range' 0 (ops.toList.take j).length ++ (j :: List.range' (j + 1) rest.length) := by
              rw [hlen, List.range_eq_range', hrl, ← List.range'_append_1, Nat.zero_add, Nat.add_comm 1, List.range'_succ]
            rw [er]
            have e2 := congrArg Prod.snd he
            have e1 := congrArg Prod.fst he
            refine runOps_sound2 (n0 := 0) (ops.toList.take j) 0 _ [] _ _ a w (fun i hi => ?_) (hf.toR ops.size) (fun _ h => h.elim) (by rw [e2]; exact hv) fun kn' blk' a' w' hR _ => ?_
            · rw [hlen] at hi
              rw [List.getElem?_take, if_pos hi, Nat.zero_add]
              simp
            · have hR : R w.heap.size w (envY F w) σ1 kn' blk' a' w' := by
                have e1 : (runOps P ops orc 0 (ops.toList.take j) 0 { σ with nx := ops.size } []).1 = σ1 := e1
                rw [← e1]; exact hR
              have hRy := hR.ev y
              have hRz := hR.ev z
              have hf1 : FY J Jx (newBlk F w w') (frzSt σ1) (some x) a' w' := FY.of H.hJ H.hJx hf.j hf.glob hR
              rw [show σ1.ev y = _ from hy] at hRy
              rw [show σ1.ev z = _ from hz] at hRz
              have ey := hRy.val_eq
              have ez := hRz.val_eq
              have hnt : σ1.nt = σ.nt := by
                have h9 := (runOps_nx (P := P) ops orc 0 (ops.toList.take j) 0 { σ with nx := ops.size } []).2
                rw [he] at h9
                exact h9
              obtain ⟨fn, tm, asg, bd, hyi, hR2⟩ := H.hY x _ w' hf1.j hxN
              simp only [wpOpsIn, ho]
              rw [if_pos (by simp [Region.wanted, hgu])]
              refine ⟨fun _ _ => trivial, ?_⟩
              rw [Oper.semAt_eq _ _ _ (fun c h => by rw [hop] at h; cases h)]
              have hrun : (execOp a'.eval o).run P w' = .ok (.round l' fn tm asg bd) w' := by
                have e1 : c.args = #[z] := Array.ext' (by simpa using hargs)
                rw [henc] at hyi
                unfold execOp
                rw [hop]
                simp [resolve, hcal, ey, Deferred.ofValue, invoke, e1, ez]
                exact hyi
              rw [hrun, Oper.uponIn_round]
              refine ⟨fun h => absurd h (by decide), hR2.mono ?_⟩
              have kept : ∀ {V : World} {x' : Option Nat}, (match x' with | some x => J x (newBlk F w w') V | none => Jx V) → keptF (newBlk F w w') w' V → FY J Jx (newBlk F w w') (frzSt σ1) x' a' V := fun hj hk => by
                have hm : ∀ ad u, rdF (newBlk F w w') w' ad u → rdF (newBlk F w w') _ ad u := fun ad u h => ⟨rdw_of (hk.2 _ h.2).2 h.1, h.2⟩
                exact ⟨hj, hf1.hh, hf1.rn, hf1.lo, hf1.size, hf1.dfr, fun t => (hf1.tmps t).mono hm (fun _ h => h) fun _ _ h => h.elim, hf1.glob.mono hm⟩
              rintro e W3 (⟨rfl, hJ3, hk3⟩ | ⟨rfl, hJ3, hk3⟩)
              · show wpOpsIn _ _ _ _ _ _ (a'.put o.dst _) W3
                rw [hdst]
                exact yldB_sound H hrest (by rw [hnt]; exact hd) h2 hK (kept (x' := some (x + 1)) hJ3 hk3)
              · show wpOpsIn _ _ _ _ _ _ (a'.put o.dst _) W3
                rw [hdst]
                exact yldB_sound H hrest (by rw [hnt]; exact hd) (h3 () trivial) hK (kept (x' := none) hJ3 hk3)
        · exact h.elim
      · exact h.elim
    · exact h.elim
  · exact h.elim
def SoundY (P : Program) (Y : YNote) (l m : Nat) (J : Nat → (Nat → Prop) → World → Prop) (Jx : World → Prop) (c : Code) : Prop := ∀ (σ : St) (x : Option Nat) (K : Exit → St → Option Nat → VT) (Q : Exit → Act → World → Prop), (evalY P Y l c σ x K).holds →
    (∀ e σ' x', (K e σ' x').holds → ∀ F a w, FY J Jx F σ' x' a w → Q e a w) → ∀ F a w, FY J Jx F σ x a w → c.wpIn (FW none) m P Q a w
theorem lend_none {d e : DV} {vc : List Prop} (h : lend (fun _ => none) d = some (e, vc)) : d.closed = true ∧ e = d := by
  unfold lend at h
  split at h
  · simp at h
  · simp at h
  · cases hc : d.closed with
    | false => simp [hc] at h
    | true => simp only [hc, cond_true, Option.some.injEq, Prod.mk.injEq] at h; exact ⟨rfl, h.1.symm⟩
theorem frzL_none : ∀ {cs es : List DV} {vc : List Prop}, frzL (fun _ => none) cs = some (es, vc) → DV.closed.go cs = true ∧ es = cs
  | [], es, vc, h => by simp only [frzL, Option.some.injEq, Prod.mk.injEq] at h; exact ⟨rfl, h.1.symm⟩
  | d :: r, es, vc, h => by
    simp only [frzL] at h
    split at h
    · rename_i e vc1 es' vcs h1 h2
      simp only [Option.some.injEq, Prod.mk.injEq] at h
      obtain ⟨k1, rfl⟩ := lend_none h1
      obtain ⟨k2, rfl⟩ := frzL_none h2
      exact ⟨by simp [DV.closed.go, k1, k2], h.1.symm⟩
    · cases h
theorem frzP_none {d e : DV} {vc : List Prop} (h : frzP (fun _ => none) d = some (e, vc)) : d.closed = true ∧ e = d := by
  unfold frzP at h
  split at h
  · simp at h
  · exact lend_none h
theorem frzPL_none : ∀ {cs es : List DV} {vc : List Prop}, frzPL (fun _ => none) cs = some (es, vc) → DV.closed.go cs = true ∧ es = cs
  | [], es, vc, h => by simp only [frzPL, Option.some.injEq, Prod.mk.injEq] at h; exact ⟨rfl, h.1.symm⟩
  | d :: r, es, vc, h => by
    simp only [frzPL] at h
    split at h
    · rename_i e vc1 es' vcs h1 h2
      simp only [Option.some.injEq, Prod.mk.injEq] at h
      obtain ⟨k1, rfl⟩ := frzP_none h1
      obtain ⟨k2, rfl⟩ := frzPL_none h2
      exact ⟨by simp [DV.closed.go, k1, k2], h.1.symm⟩
    · cases h
theorem frz_none {d e : DV} {vc : List Prop} (h : frz (fun _ => none) d = some (e, vc)) : d.closed = true ∧ e = d := by
  unfold frz at h
  split at h
  · split at h
    · rename_i h1
      simp only [Option.some.injEq, Prod.mk.injEq] at h
      obtain ⟨k1, rfl⟩ := frzL_none h1
      exact ⟨k1, h.1.symm⟩
    · cases h
  · split at h
    · rename_i h1
      simp only [Option.some.injEq, Prod.mk.injEq] at h
      obtain ⟨k1, rfl⟩ := frzPL_none h1
      exact ⟨k1, h.1.symm⟩
    · cases h
  · exact frzP_none h
theorem weakY {C : Note} {τ : St} (h : AllP (yAt C τ σ)) (hf : FY J Jx F σ x a w) : FY J Jx F (frzSt (ySt C τ (C.rd τ σ))) x a w := by
  unfold yAt at h
  cases hb : Nat.beq τ.nt σ.nt with
  | false => simp only [hb, cond_false] at h; exact h.one.elim
  | true =>
    simp only [hb, cond_true] at h
    refine ⟨hf.j, rfl, rfl, rfl, hf.size.trans (Nat.eq_of_beq_eq_true hb).symm, hf.dfr, fun t => ?_, hf.glob⟩
    show RelC _ (match look (frzM (fun _ => none) (C.st τ (C.rd τ σ)).t) t with | some d => d | none => DV.any) _
    rw [frzM_get]
    cases hl : look (C.st τ (C.rd τ σ)).t t with
    | none => exact .any _
    | some d =>
      show RelC _ (frzT _ d) _
      unfold frzT
      split
      · rename_i e hfz
        obtain ⟨hc, rfl⟩ := frz_none hfz
        have r := hf.toR σ.nx
        have := leR_sound r 2 (tmpsVC_spec h hl) (r.tmps t)
        refine (this.close hc).mono (fun ad u h2 => ⟨h2.1, h2.2.2.1.elim id fun h' => ?_⟩) (fun _ h => h) fun _ _ h => h.elim
        have := rdw_lt h2.1
        omega
      · exact .any _
theorem evalY_both (H : YHyp P Y l m J Jx) : ∀ (c : Code), SoundY P Y l m J Jx c ∧ ∀ body, c = .loop body → SoundY P Y l m J Jx body := by
  intro c
  induction c with
  | skip => exact ⟨fun σ x K Q h hK F a w hf => wpIn_skip (hK _ _ _ h F a w hf), fun b e => by cases e⟩
  | label _ => exact ⟨fun σ x K Q h hK F a w hf => wpIn_label (hK _ _ _ h F a w hf), fun b e => by cases e⟩
  | ret => exact ⟨fun σ x K Q h hK F a w hf => wpIn_ret (hK _ _ _ h F a w hf), fun b e => by cases e⟩
  | exit _ => exact ⟨fun σ x K Q h hK F a w hf => wpIn_exit (hK _ _ _ h F a w hf), fun b e => by cases e⟩
  | region id ops draw =>
    refine ⟨fun σ x K Q h hK F a w hf => ?_, fun b e => by cases e⟩
    simp only [evalY] at h
    cases draw with
    | true => exact h.elim
    | false =>
      simp only [cond_false] at h
      split at h
      · obtain ⟨h1, h2⟩ := h
        refine region_sound (base := w.heap.size) (w0 := w) (S0 := envY F w) ⟨_, _, hf.toR σ.nx, fun _ h => h.elim⟩ (AllT.all h1) fun a' w' hf' => ?_
        obtain ⟨kn, blk, r, _⟩ := hf'
        exact hK _ _ _ h2 _ _ _ (FY.of H.hJ H.hJx hf.j hf.glob r)
      · exact yieldE_sound H h hK hf
  | seq x y ihx ihy =>
    refine ⟨fun σ n K Q h hK F a w hf => ?_, fun b e => by cases e⟩
    simp only [evalY] at h
    refine wpIn_seq (ihx.1 _ _ _ _ h (fun e σ' x' hh F' a' w' hf' => ?_) F a w hf)
    cases e with
    | normal => exact ihy.1 _ _ _ _ hh hK F' a' w' hf'
    | _ => exact hK _ _ _ hh _ _ _ hf'
  | cond c x y ihx ihy =>
    refine ⟨fun σ n K Q h hK F a w hf => ?_, fun b e => by cases e⟩
    simp only [evalY] at h
    split at h
    · rename_i p hp
      have hv := (hf.toR σ.nx).ev c
      rw [show St.ev { σ with nx := σ.nx } c = _ from hp] at hv
      exact wpIn_cond_split hv.val_eq (fun hp => ihx.1 _ _ _ _ (h.1 hp) hK F a w hf) fun hp => ihy.1 _ _ _ _ (h.2 hp) hK F a w hf
    · exact h.elim
  | block id c ih =>
    refine ⟨fun σ n K Q h hK F a w hf => ?_, fun b e => by cases e⟩
    have plain : (evalY P Y l c σ n fun e σ' x' => match e with
        | .exit j => bif Nat.beq j id then K .normal σ' x' else K (.exit j) σ' x'
        | e => K e σ' x').holds → (Code.block id c).wpIn (FW none) m P Q a w := by
      intro h
      refine wpIn_block (ih.1 _ _ _ _ h (fun e σ' x' hh F' a' w' hf' => ?_) F a w hf)
      cases e with
      | exit j =>
        simp only [Exit.inBlock]
        cases hb : Nat.beq j id with
        | true =>
          simp only [hb, cond_true] at hh
          rw [if_pos (Nat.eq_of_beq_eq_true hb)]
          exact hK _ _ _ hh _ _ _ hf'
        | false =>
          simp only [hb, cond_false] at hh
          rw [if_neg (fun e => by rw [e] at hb; simp at hb)]
          exact hK _ _ _ hh _ _ _ hf'
      | _ => exact hK _ _ _ hh _ _ _ hf'
    cases c with
    | loop body =>
      cases n with
      | none => simp only [evalY] at h; exact h.elim
      | some n =>
        simp only [evalY] at h
        split at h
        · rename_i C cn _ _
          obtain ⟨h1, h2, h3⟩ := h
          have hbody := ih.2 body rfl
          obtain ⟨k1, k2⟩ := AllP.app (AllT.all h1)
          have kx := k2.one
          refine wpIn_block (loop_ghost_in (fun n a w => ∃ i F, C.mu σ i = n ∧ C.inv σ i ∧ FY J Jx F (frzSt (ySt C σ i)) (some (cn (ySt C σ i))) a w) (C.mu σ (C.rd σ σ)) ⟨_, F, rfl, h2, by rw [← kx]; exact weakY k1 hf⟩ fun n a w ⟨i, F, hi, hinv, hfi⟩ => ?_)
          subst hi
          refine hbody _ _ _ _ (h3 i hinv) (fun e σ' x' hh F' a' w' hf' => ?_) F a w hfi
          cases e with
          | normal =>
            cases x' with
            | none => exact hh.elim
            | some x' =>
              obtain ⟨q1, q2⟩ := AllP.app (AllT.all hh)
              have hx := q2.hd
              exact ⟨_, q2.tl.tl.one, _, F', rfl, q2.tl.hd, by rw [← hx]; exact weakY q1 hf'⟩
          | exit j =>
            simp only [Exit.then, Exit.inBlock]
            cases hb : Nat.beq j id with
            | true =>
              simp only [hb, cond_true] at hh
              rw [if_pos (Nat.eq_of_beq_eq_true hb)]
              exact hK _ _ _ hh _ _ _ hf'
            | false =>
              simp only [hb, cond_false] at hh
              rw [if_neg (fun e => by rw [e] at hb; simp at hb)]
              exact hK _ _ _ hh _ _ _ hf'
          | _ => exact hK _ _ _ hh _ _ _ hf'
        · exact h.elim
    | rangeFunc g ps asg body => simp only [evalY] at h; exact h.elim
    | _ => exact plain (by simpa only [evalY] using h)
  | loop body ih => exact ⟨fun σ x K Q h hK F a w hf => h.elim, fun b e => by cases e; exact ih.1⟩
  | _ => exact ⟨fun σ x K Q h hK F a w hf => h.elim, fun b e => by cases e⟩
end
def KY (N : Nat) : Exit → St → Option Nat → VT
  | .ret, _, x => match x with
    | some x => .done [x = N]
    | none => .done []
  | .normal, _, x => match x with
    | some x => .done [x = N]
    | none => .done []
  | _, _, _ => .done [False]
def owedY (P : Program) (Y : YNote) (f : FuncId) (fs : List DV) (l : Nat) : VT := match P.funcs[f]? with
  | some fn => match fn.body with
    | some c => bif (!(fn.name == "runtime.NumGoroutine")) && (Nat.ble (fs.length + 1) fn.ntmps && fn.results.toList.isEmpty) then
        evalY P Y l c { t := entry (fs ++ [.val (.func (.yield l) #[] #[])]) 0, h := [], nx := 0, nt := fn.ntmps } (some 0) (KY Y.N) else .done [False]
    | none => .done [False]
  | none => .done [False]
theorem SeqB_owed {P : Program} {f : FuncId} {fs : List DV} {V : Nat → VT} (Y : YNote) (e : ∀ l, owedY P Y f fs l = V l) (h : ∀ l, (V l).holds) : SeqB P f fs Y.N Y.enc := by
  have h : ∀ l, (owedY P Y f fs l).holds := fun l => by rw [e]; exact h l
  have h0 := h 0
  unfold owedY at h0
  split at h0
  · rename_i fn hf
    split at h0
    · rename_i c hb
      cases hx : (!(fn.name == "runtime.NumGoroutine")) && (Nat.ble (fs.length + 1) fn.ntmps && fn.results.toList.isEmpty) with
      | false => simp only [hx, cond_false] at h0; exact h0.elim
      | true =>
        have hx0 := hx
        simp only [Bool.and_eq_true, Bool.not_eq_true'] at hx
        obtain ⟨hn, hlen, hres⟩ := hx
        have hlen := Nat.le_of_ble_eq_true hlen
        obtain hres : fn.results = #[] := Array.ext' (by simpa using hres)
        refine ⟨⟨fn, hf, by rw [hb]; rfl, hn⟩, fun m vs F0 W0 hvs hr hgl l J Jx hJ hJx hY hj0 => ?_⟩
        have hl := h l
        unfold owedY at hl
        simp only [hf, hb, hx0, cond_true] at hl
        refine callsIn_of_wp (F := Fence.wide) (n := m) hf hb trivial ((evalY_both ⟨hJ, hJx, hY⟩ c).1 _ _ _ _ hl (fun e σ' x' hh F a w hF => ?_) F0 _ _ ?_) rfl
        · have fin : (KY Y.N .ret σ' x').holds → (∃ F, J Y.N F w) ∨ Jx w := fun hh => by
            have hj := hF.j
            cases x' with
            | none => exact .inr hj
            | some x' =>
              have : x' = Y.N := hh
              subst this
              exact .inl ⟨F, hj⟩
          cases e with
          | ret => exact bodyPost_ret (results_none hres _ _ _) hF.dfr ⟨⟨_, rfl⟩, fin hh⟩
          | normal => exact bodyPost_end (results_none hres _ _ _) hF.dfr ⟨⟨_, rfl⟩, fin hh⟩
          | _ => exact hh.elim
        · refine ⟨hj0, rfl, rfl, rfl, ?_, rfl, fun t => ?_, hgl⟩
          · simp; omega
          · unfold St.get
            simp only [look_entry, Nat.zero_le, if_true, Nat.sub_zero]
            cases ht : (fs ++ [DV.val (.func (.yield l) #[] #[])])[t]? with
            | none => exact .any _
            | some d =>
              have hlt : t < fs.length + 1 := by simpa using (List.getElem?_eq_some_iff.1 ht).1
              by_cases h2 : t < fs.length
              · rw [List.getElem?_append_left h2] at ht
                have hv : vs[t]? = some (vs[t]'(by omega)) := Array.getElem?_eq_getElem (by omega)
                have := hr t d _ ht hv
                have e : ((vs ++ #[Value.func (.yield l) #[] #[]] ++ Array.replicate (fn.ntmps - (vs ++ #[Value.func (.yield l) #[] #[]]).size) undef).getD t undef) = vs[t]'(by omega) := by
                  rw [Array.getD_eq_getD_getElem?, Array.getElem?_append_left (by simp; omega), Array.getElem?_append_left (by omega), hv]; rfl
                rw [e]; exact this
              · have e0 : t = fs.length := by omega
                subst e0
                rw [List.getElem?_append_right (Nat.le_refl _), Nat.sub_self] at ht
                cases ht
                have e : ((vs ++ #[Value.func (.yield l) #[] #[]] ++ Array.replicate (fn.ntmps - (vs ++ #[Value.func (.yield l) #[] #[]]).size) undef).getD fs.length undef) = Value.func (.yield l) #[] #[] := by
                  rw [Array.getD_eq_getD_getElem?, Array.getElem?_append_left (by simp; omega), Array.getElem?_append_right (by omega)]
                  simp [hvs]
                rw [e]; exact .val _
    · exact h0.elim
  · exact h0.elim
end Go.Abs
