/- What strings.Lines yields: a text's lines. strings.Lines: the iterator over a text's lines. -/
import Derived.Test.YtmcgfoacmalbjaaGreatDoorK64
import Derived.Test.YtmcgfoacmalbjaaGreatDoorAbsXL
import Derived.WalkKit
import Derived.BigCall
section
set_option maxRecDepth 100000
namespace Go.Abs
open Go Go.RowKit
def ixN (s : ByteArray) : Int := Lib.indexByte s.data.toList 10
def lnQ (t : ByteArray) : Nat → Nat
  | 0 => 0
  | k + 1 => if 0 ≤ ixN (t.extract (lnQ t k) t.size) then lnQ t k + (ixN (t.extract (lnQ t k) t.size)).toNat + 1 else t.size
def lnR (t : ByteArray) (k : Nat) : ByteArray := t.extract (lnQ t k) t.size
def lnT (t : ByteArray) (k : Nat) : ByteArray := t.extract (lnQ t k) (lnQ t (k + 1))
def lnN (t : ByteArray) : Nat := cuN t 10 t.size + if (cutS t 10 (cuN t 10 t.size)).size = 0 then 0 else 1
theorem ext_all (t : ByteArray) : t.extract 0 t.size = t := by
  apply ByteArray.ext
  apply Array.toList_inj.1
  rw [Lib.extract_data, List.drop_zero, Nat.sub_zero, Lib.size_eq, List.take_length]
theorem lnQ_fact (t : ByteArray) : ∀ {k : Nat}, k ≤ cuN t 10 t.size → lnQ t k ≤ t.size ∧ cuF t 10 (lnQ t k) = lnQ t k ∧ cuN t 10 (lnQ t k) = k
  | 0, _ => ⟨Nat.zero_le _, rfl, rfl⟩
  | k + 1, hk => by
    obtain ⟨h1, h2, h3⟩ := lnQ_fact t (k := k) (by omega)
    rcases idx_spec (t.extract (lnQ t k) t.size) 10 with ⟨e, hn⟩ | ⟨i, e, hi, hb, hj⟩
    · have := cut_none (c := 10) h1 hn
      have e10 : (((10 : UInt8).toNat : Nat) : Int) = 10 := rfl
      rw [e10] at this
      omega
    · obtain ⟨c1, c2, c3, c4, c5⟩ := cut_next (c := 10) h1 h2 hi hb hj
      have e9 : ixN (t.extract (lnQ t k) t.size) = (i : Int) := e
      rw [lnQ, if_pos (by omega), e9, Int.toNat_natCast]
      exact ⟨by omega, c3, by have e10 : (((10 : UInt8).toNat : Nat) : Int) = 10 := rfl
                              rw [e10] at c4; omega⟩
theorem ln_full (t : ByteArray) {k : Nat} (hk : k < cuN t 10 t.size) : ∃ i : Nat, ixN (lnR t k) = (i : Int) ∧ i < (lnR t k).size ∧ lnQ t (k + 1) = lnQ t k + i + 1 ∧ lnQ t k + i < t.size ∧ cutS t 10 k = t.extract (lnQ t k) (lnQ t k + i) ∧ bget t (lnQ t k + i) = 10 := by
  obtain ⟨h1, h2, h3⟩ := lnQ_fact t (k := k) (by omega)
  rcases idx_spec (t.extract (lnQ t k) t.size) 10 with ⟨e, hn⟩ | ⟨i, e, hi, hb, hj⟩
  · have := cut_none (c := 10) h1 hn
    have e10 : (((10 : UInt8).toNat : Nat) : Int) = 10 := rfl
    rw [e10] at this
    omega
  · obtain ⟨c1, c2, c3, c4, c5⟩ := cut_next (c := 10) h1 h2 hi hb hj
    have e9 : ixN (t.extract (lnQ t k) t.size) = (i : Int) := e
    have e10 : (((10 : UInt8).toNat : Nat) : Int) = 10 := rfl
    rw [e10, h3] at c5
    refine ⟨i, e, hi, ?_, c1, c5, ?_⟩
    · rw [lnQ, if_pos (by omega), e9, Int.toNat_natCast]
    · rw [← ext_get hi]; exact hb
theorem ln_part (t : ByteArray) {k : Nat} (hk : k = cuN t 10 t.size) : ixN (lnR t k) = -1 ∧ lnQ t (k + 1) = t.size ∧ cutS t 10 k = lnR t k ∧ lnQ t k ≤ t.size ∧ ∀ j, j < (lnR t k).size → bget (lnR t k) j ≠ 10 := by
  obtain ⟨h1, h2, h3⟩ := lnQ_fact t (k := k) (by omega)
  rcases idx_spec (t.extract (lnQ t k) t.size) 10 with ⟨e, hn⟩ | ⟨i, e, hi, hb, hj⟩
  · have e9 : ixN (t.extract (lnQ t k) t.size) = -1 := e
    refine ⟨e, by rw [lnQ, if_neg (by omega)], ?_, h1, hn⟩
    have := cut_last (c := 10) h1 h2 (h3.trans hk)
    have e10 : (((10 : UInt8).toNat : Nat) : Int) = 10 := rfl
    rw [e10, h3] at this
    exact this
  · obtain ⟨c1, c2, c3, c4, c5⟩ := cut_next (c := 10) h1 h2 hi hb hj
    have e10 : (((10 : UInt8).toNat : Nat) : Int) = 10 := rfl
    rw [e10] at c2
    omega
theorem lnR_size (t : ByteArray) {k : Nat} (hk : k ≤ lnN t) : (lnR t k).size = 0 ↔ k = lnN t := by
  rcases Nat.lt_trichotomy k (cuN t 10 t.size) with h | h | h
  · obtain ⟨i, _, hi, _⟩ := ln_full t h
    have : cuN t 10 t.size ≤ lnN t := Nat.le_add_right _ _
    exact ⟨fun e => by omega, fun e => by omega⟩
  · obtain ⟨_, _, hc, _, _⟩ := ln_part t h
    have e : lnN t = cuN t 10 t.size + if (lnR t k).size = 0 then 0 else 1 := by rw [← hc, h]; rfl
    by_cases hz : (lnR t k).size = 0
    · rw [if_pos hz] at e; exact ⟨fun _ => by omega, fun _ => hz⟩
    · rw [if_neg hz] at e; exact ⟨fun h => absurd h hz, fun h => by omega⟩
  · have hN : lnN t ≤ cuN t 10 t.size + 1 := by
      unfold lnN; split <;> omega
    have hk' : k = cuN t 10 t.size + 1 := by omega
    obtain ⟨_, h2, _⟩ := ln_part t (k := cuN t 10 t.size) rfl
    have : (lnR t k).size = 0 := by
      rw [lnR, hk', h2, ByteArray.size_extract]; omega
    exact ⟨fun _ => by omega, fun _ => this⟩
theorem lnQ_le (t : ByteArray) {k : Nat} (hk : k ≤ cuN t 10 t.size + 1) : lnQ t k ≤ t.size := by
  rcases Nat.lt_or_ge k (cuN t 10 t.size + 1) with h | h
  · exact (lnQ_fact t (k := k) (by omega)).1
  · obtain rfl : k = cuN t 10 t.size + 1 := by omega
    rw [(ln_part t (k := cuN t 10 t.size) rfl).2.1]; exact Nat.le_refl _
theorem lnN_le (t : ByteArray) : lnN t ≤ cuN t 10 t.size + 1 := by
  unfold lnN; split <;> omega
theorem emp_ext (t : ByteArray) : (⟨#[]⟩ : ByteArray) = t.extract t.size t.size := by
  have h : (t.extract t.size t.size).data.size = 0 := by
    show (t.extract t.size t.size).size = 0
    rw [ByteArray.size_extract]; omega
  apply ByteArray.ext
  exact (Array.eq_empty_of_size_eq_zero h).symm
noncomputable def seqL : Code → Code
  | .seq a _ => a
  | c => c
noncomputable def seqR : Code → Code
  | .seq _ b => b
  | c => c
noncomputable def inB : Code → Code
  | .block _ c => c
  | c => c
noncomputable def inL : Code → Code
  | .loop c => c
  | c => c
noncomputable def body47 : Code := match Go.Proofs.Tryz.f47.body with
  | some c => c
  | none => .skip
abbrev yV (l : Nat) : Value := .func (.yield l) #[] #[]
noncomputable def ann47 : Ann := { orc := [(2, [(1, .res fun q => dI (ixN (sO (arg q 0))))])], loops := [], cuts := [] }
noncomputable def p47 : Nat → Code
  | 0 => seqL (inL (inB body47))
  | 1 => seqL (inB (seqR (inL (inB body47))))
  | 2 => seqL (seqR (inB (seqR (inL (inB body47)))))
  | _ => seqR (seqR (inB (seqR (inL (inB body47)))))
theorem tree47 (l k n : Nat) (r line rest : ByteArray) : vEv prog ann47 [p47 0, p47 1, p47 2] (vSt (yV l) 25 (.string r)) (vK (yV l) 25 3 (.string r) (.string line) (.string rest) [k < n] [k = n]) =
  VT.ite (decide ((r.size : Int) > 0))
    (VT.need
      [FnC prog 48 [DV.val (Value.string r), DV.val (Value.int IntKind.u8 10)] (DV.val (Value.int IntKind.i64 (ixN r)))]
      (VT.ite (decide (ixN r ≥ 0))
        (VT.need
          [i64In (ixN r + 1), (0 : Int) ≤ 0 ∧ 0 ≤ ixN r + 1 ∧ ixN r + 1 ≤ (r.size : Int), i64In (ixN r + 1),
            0 ≤ ixN r + 1 ∧ ixN r + 1 ≤ (r.size : Int) ∧ (r.size : Int) ≤ (r.size : Int)]
          (VT.done
            [yV l = yV l, ByteArray.extract r (Int.toNat 0) (Int.toNat (ixN r + 1)) = line,
              ByteArray.extract r (Int.toNat (ixN r + 1)) (Int.toNat (r.size : Int)) = rest, k < n]))
        (VT.done [yV l = yV l, r = line, ByteArray.mk #[] = rest, k < n])))
    (VT.done [yV l = yV l, r = r, 0 = 0, k = n]) := by kernel_rfl
theorem shape47 : body47 = .block 0 (.loop (.seq (p47 0) (.block 1 (.seq (p47 1) (.seq (p47 2) (p47 3)))))) := by kernel_rfl
theorem tail47 : ∃ a0 b0 c0 a1 b1 c1 a2 b2 c2 a3 b3 c3 ats k, p47 3 = .seq (.region 6 #[⟨some 21, .move (.tmp 0), a0, b0, c0, none⟩, ⟨some 22, .move (.tmp 3), a1, b1, c1, none⟩, ⟨some 23, .call ⟨.value (.tmp 21), #[.tmp 22], ats⟩, a2, b2, c2, none⟩, ⟨some 24, .unOp .not k (.tmp 23), a3, b3, c3, none⟩] false) (.cond (.tmp 24) .ret .skip) :=
  ⟨_, _, _, _, _, _, _, _, _, _, _, _, _, _, rfl⟩
theorem body47_is : Go.Proofs.Tryz.f47.body = some body47 := rfl
theorem round47 (t : ByteArray) (ht : t.size ≤ 1000000) {k : Nat} (hk : k ≤ lnN t) (l : Nat) :
    (vEv prog ann47 [p47 0, p47 1, p47 2] (vSt (yV l) 25 (.string (lnR t k))) (vK (yV l) 25 3 (.string (lnR t k)) (.string (lnT t k)) (.string (lnR t (k + 1))) [k < lnN t] [k = lnN t])).holds := by
  rw [tree47]
  have hle := lnN_le t
  have hq := lnQ_le t (k := k) (by omega)
  have hsz : (lnR t k).size = t.size - lnQ t k := ext_sz _ _ hq
  have hc : FnC prog 48 [DV.val (Value.string (lnR t k)), DV.val (Value.int IntKind.u8 10)] (DV.val (Value.int IntKind.i64 (ixN (lnR t k)))) := indexB_c (lnR t k) 10
  refine ⟨fun h => ?_, fun h => ⟨rfl, rfl, rfl, ?_⟩⟩
  · have h0 : 0 < (lnR t k).size := by
      have := of_decide_eq_true h
      omega
    have hlt : k < lnN t := by
      rcases Nat.lt_or_ge k (lnN t) with h1 | h1
      · exact h1
      · have := (lnR_size t hk).2 (by omega); omega
    refine ⟨hc, fun h1 => ?_, fun h1 => ?_⟩
    · have h1 := of_decide_eq_true h1
      have hkc : k < cuN t 10 t.size := by
        rcases Nat.lt_or_ge k (cuN t 10 t.size) with h2 | h2
        · exact h2
        · have := (ln_part t (k := k) (by omega)).1; omega
      obtain ⟨i, e, hi, hq1, hlt1, _, _⟩ := ln_full t hkc
      have e1 : (ixN (lnR t k) + 1).toNat = i + 1 := by rw [e]; omega
      rw [e1, e]
      refine ⟨⟨by unfold i64In; omega, ⟨by omega, by omega, by omega⟩, by unfold i64In; omega, ⟨by omega, by omega, Int.le_refl _⟩⟩, rfl, ?_, ?_, hlt⟩
      · show (t.extract (lnQ t k) t.size).extract 0 (i + 1) = t.extract (lnQ t k) (lnQ t (k + 1))
        rw [ext_ext _ _ _ _ hq (by omega), hq1]; rfl
      · show (t.extract (lnQ t k) t.size).extract (i + 1) ((lnR t k).size : Int).toNat = t.extract (lnQ t (k + 1)) t.size
        rw [Int.toNat_natCast, hsz, ext_ext _ _ _ _ hq (Nat.le_refl _), hq1, show lnQ t k + (t.size - lnQ t k) = t.size by omega]; rfl
    · have h1 := of_decide_eq_false h1
      have hkc : k = cuN t 10 t.size := by
        rcases Nat.lt_or_ge k (cuN t 10 t.size) with h2 | h2
        · obtain ⟨i, e, _⟩ := ln_full t h2; omega
        · omega
      obtain ⟨_, hq1, _, _, _⟩ := ln_part t hkc
      refine ⟨rfl, ?_, ?_, hlt⟩
      · show t.extract (lnQ t k) t.size = t.extract (lnQ t k) (lnQ t (k + 1))
        rw [hq1]
      · show _ = t.extract (lnQ t (k + 1)) t.size
        rw [hq1]; exact emp_ext t
  · have h := of_decide_eq_false h
    exact (lnR_size t hk).1 (by omega)
theorem seqV_in {P : Program} (hm : P.follows .mixedOrders = true) {A : Ann} (hx : ExtsOK P A) {c0 c1 c2 : Code} (q0 : calmC A c0 = true) (q1 : calmC A c1 = true) (q2 : calmC A c2 = true) {N : Nat} {ln rs : Nat → Value} {l : Nat} (hone : ∀ k, oneV (rs k) = true)
    (hround : ∀ k, k ≤ N → (vEv P A [c0, c1, c2] (vSt (yV l) 25 (rs k)) (vK (yV l) 25 3 (rs k) (ln k) (rs (k + 1)) [k < N] [k = N])).holds)
    {a0 : TypeId} {b0 : String} {c0' : Array Edge} {a1 : TypeId} {b1 : String} {c1' : Array Edge} {a2 : TypeId} {b2 : String} {c2' : Array Edge} {a3 : TypeId} {b3 : String} {c3' : Array Edge} {ats : Array TypeId} {ty : TypeId}
    {m g : Nat} {J : Nat → World → Prop} {Jx : World → Prop} {fn : Func} (hres : fn.results = #[]) (hJ : ∀ x A B v u, J x A → VarAt A g v → VarAt B g u → oneV u = true → BelowV g A B → J x B) (hG : ∀ x A, J x A → GlobOK (rdV g A))
    (hY : ∀ x A, J x A → VarAt A g (rs (x + 1)) → x < N → YieldAt Fence.wide (m - 1) P l #[ln x] A fun e W' =>
      (e = .returned (.bool true) ∧ J (x + 1) W' ∧ VarAt W' g (rs (x + 1))) ∨ (e = .returned (.bool false) ∧ Jx W'))
    {a : Act} {W : World} (h0 : J 0 W) (hv : VarAt W g (rs 0)) (hd : a.defers = []) (hs : a.tmps.size = 25) (e0 : a.tmps.getD 0 undef = yV l) (e1 : a.tmps.getD 1 undef = .pointer (some ⟨g, 0, none⟩)) :
    (Code.block 0 (.loop (.seq c0 (.block 1 (.seq c1 (.seq c2 (.seq (.region 6 #[⟨some 21, .move (.tmp 0), a0, b0, c0', none⟩, ⟨some 22, .move (.tmp 3), a1, b1, c1', none⟩, ⟨some 23, .call ⟨.value (.tmp 21), #[.tmp 22], ats⟩, a2, b2, c2', none⟩, ⟨some 24, .unOp .not ty (.tmp 23), a3, b3, c3', none⟩] false) (.cond (.tmp 24) .ret .skip)))))))).wpIn (FW none) m P (bodyPost P fn fun e W' => (∃ v, e = .returned v) ∧ (J N W' ∨ Jx W')) a W := by
  refine wpIn_block (loop_ghost_in (fun n a w => ∃ k, n = N - k ∧ k ≤ N ∧ J k w ∧ VarAt w g (rs k) ∧ a.defers = [] ∧ a.tmps.size = 25 ∧ a.tmps.getD 0 undef = yV l ∧ a.tmps.getD 1 undef = .pointer (some ⟨g, 0, none⟩)) _ ⟨0, rfl, Nat.zero_le _, h0, hv, hd, hs, e0, e1⟩ fun n a w ⟨k, hn, hk, hjk, hvk, hd, hs, e0, e1⟩ => ?_)
  have hf := vSt_fits hvk (hone k) (hG k w hjk) hd e0 e1
  rw [hs] at hf
  refine vEv_sound3 hm hx q0 q1 q2 (hround k hk) (fun σ' hh a' w' hf' => ?_) (fun e σ' he hh a' w' hf' => ?_) hf
  · obtain ⟨hnm, hb, hv', _, hd', hs', e0', e1', e3'⟩ := vTo_out e0 e1 (by decide) hh hf'
    have hlt : k < N := hnm.one
    have hj' : J k w' := hJ k w w' _ _ hjk hvk hv' (hone _) hb
    obtain ⟨fn, tm, asg, bd, hyi, hR2⟩ := hY k w' hj' hv' hlt
    refine wpIn_seq (wpIn_region ?_)
    show wpOpsIn (FW none) m P _ _ [0, 1, 2, 3] a' w'
    refine ops_step (o := ⟨some 21, .move (.tmp 0), a0, b0, c0', none⟩) rfl rfl (op_val (fun c h => by cases h) (v := yV l) (by rw [← e0']; rfl) ?_)
    have f3 : (a'.put (some 21) (yV l)).tmps.getD 3 undef = ln k := by rw [Act.getD_put _ _ _ _ (by omega), if_neg (by decide)]; exact e3'
    refine ops_step (o := ⟨some 22, .move (.tmp 3), a1, b1, c1', none⟩) rfl rfl (op_val (fun c h => by cases h) (v := ln k) (by rw [← f3]; rfl) ?_)
    have s1 : (a'.put (some 21) (yV l)).tmps.size = 25 := by simp only [Act.put, Array.size_setIfInBounds]; exact hs'
    have s2 : ((a'.put (some 21) (yV l)).put (some 22) (ln k)).tmps.size = 25 := by simp only [Act.put, Array.size_setIfInBounds]; exact hs'
    have f21 : ((a'.put (some 21) (yV l)).put (some 22) (ln k)).tmps.getD 21 undef = yV l := by
      rw [Act.getD_put _ _ _ _ (by omega), if_neg (by decide)]; exact getD_put _ _ (by omega)
    have f22 : ((a'.put (some 21) (yV l)).put (some 22) (ln k)).tmps.getD 22 undef = ln k := getD_put _ _ (by omega)
    have f0 : ((a'.put (some 21) (yV l)).put (some 22) (ln k)).tmps.getD 0 undef = yV l := by
      rw [Act.getD_put _ _ _ _ (by omega), if_neg (by decide), Act.getD_put _ _ _ _ (by omega), if_neg (by decide)]; exact e0'
    have f1 : ((a'.put (some 21) (yV l)).put (some 22) (ln k)).tmps.getD 1 undef = .pointer (some ⟨g, 0, none⟩) := by
      rw [Act.getD_put _ _ _ _ (by omega), if_neg (by decide), Act.getD_put _ _ _ _ (by omega), if_neg (by decide)]; exact e1'
    have fd : ((a'.put (some 21) (yV l)).put (some 22) (ln k)).defers = [] := hd'
    generalize ((a'.put (some 21) (yV l)).put (some 22) (ln k)) = a9 at s2 f21 f22 f0 f1 fd
    refine ops_step (o := ⟨some 23, .call ⟨.value (.tmp 21), #[.tmp 22], ats⟩, a2, b2, c2', none⟩) rfl rfl ?_
    unfold Oper.wpIn
    refine ⟨fun _ _ => trivial, ?_⟩
    rw [Oper.semAt_eq _ _ _ (fun c h => by cases h)]
    have hrun : (execOp a9.eval ⟨some 23, .call ⟨.value (.tmp 21), #[.tmp 22], ats⟩, a2, b2, c2', none⟩).run P w' = .ok (.round l fn tm asg bd) w' := by
      have e21 : a9.eval (.tmp 21) = yV l := f21
      have e22 : a9.eval (.tmp 22) = ln k := f22
      unfold execOp
      simp [resolve, e21, e22, Deferred.ofValue, invoke]
      exact hyi
    rw [hrun, Oper.uponIn_round]
    refine ⟨fun h => absurd h (by decide), hR2.mono ?_⟩
    rintro e W3 (⟨rfl, hJ3, hv3⟩ | ⟨rfl, hJ3⟩)
    · show wpOpsIn _ _ _ _ _ _ (a9.put (some 23) _) W3
      have g23 : (a9.put (some 23) (.bool true)).tmps.getD 23 undef = .bool true := getD_put _ _ (by omega)
      have s3 : (a9.put (some 23) (.bool true)).tmps.size = 25 := by simp only [Act.put, Array.size_setIfInBounds]; exact s2
      refine ops_step (o := ⟨some 24, .unOp .not ty (.tmp 23), a3, b3, c3', none⟩) rfl rfl (op_put (fun c h => by cases h) (s := Op.unary .not ((a9.put (some 23) (.bool true)).tmps.getD 23 undef)) rfl (v := .bool false) (w' := W3) (by rw [g23]; rfl) ?_)
      have g24 : ((a9.put (some 23) (.bool true)).put (some 24) (.bool false)).tmps.getD 24 undef = .bool false := getD_put _ _ (by omega)
      show (Code.cond _ _ _).wpIn (FW none) m P _ _ W3
      refine wpIn_cond_false g24 (wpIn_skip ?_)
      refine ⟨N - (k + 1), by omega, k + 1, rfl, hlt, hJ3, hv3, fd, by simp only [Act.put, Array.size_setIfInBounds]; exact s2, ?_, ?_⟩
      · rw [Act.getD_put _ _ _ _ (by omega), if_neg (by decide), Act.getD_put _ _ _ _ (by omega), if_neg (by decide)]; exact f0
      · rw [Act.getD_put _ _ _ _ (by omega), if_neg (by decide), Act.getD_put _ _ _ _ (by omega), if_neg (by decide)]; exact f1
    · show wpOpsIn _ _ _ _ _ _ (a9.put (some 23) _) W3
      have g23 : (a9.put (some 23) (.bool false)).tmps.getD 23 undef = .bool false := getD_put _ _ (by omega)
      have s3 : (a9.put (some 23) (.bool false)).tmps.size = 25 := by simp only [Act.put, Array.size_setIfInBounds]; exact s2
      refine ops_step (o := ⟨some 24, .unOp .not ty (.tmp 23), a3, b3, c3', none⟩) rfl rfl (op_put (fun c h => by cases h) (s := Op.unary .not ((a9.put (some 23) (.bool false)).tmps.getD 23 undef)) rfl (v := .bool true) (w' := W3) (by rw [g23]; rfl) ?_)
      have g24 : ((a9.put (some 23) (.bool false)).put (some 24) (.bool true)).tmps.getD 24 undef = .bool true := getD_put _ _ (by omega)
      show (Code.cond _ _ _).wpIn (FW none) m P _ _ W3
      refine wpIn_cond_true g24 (wpIn_ret ?_)
      exact ⟨fd, _, results_none hres _ _ _, ⟨_, rfl⟩, .inr hJ3⟩
  · cases e with
    | normal => exact absurd rfl he
    | exit j =>
      obtain ⟨rfl, hex, hb, hv', _, hd'⟩ := vEx_out e0 e1 hh hf'
      have hkN : k = N := hex.one
      have hj' : J k w' := hJ k w w' _ _ hjk hvk hv' (hone _) hb
      rw [hkN] at hj'
      have q : bodyPost P fn (fun e W' => (∃ v, e = .returned v) ∧ (J N W' ∨ Jx W')) .normal a' w' := ⟨hd', _, results_none hres _ _ _, ⟨_, rfl⟩, .inl hj'⟩
      exact ⟨q, q⟩
    | _ => exact hh.elim
theorem results47 : Go.Proofs.Tryz.f47.results = #[] := rfl
theorem lines_v (t : ByteArray) (ht : t.size ≤ 1000000) : SeqV prog 47 (lnN t) (fun k => [.string (lnT t k)]) (fun k => .string (lnR t k)) := by
  refine ⟨⟨_, Go.Proofs.Tryz.func47, rfl, by kernel_rfl⟩, fun m l g J Jx W hJ hG hY h0 hv => ?_⟩
  obtain ⟨a0, b0, c0, a1, b1, c1, a2, b2, c2, a3, b3, c3, ats, ty, hp⟩ := tail47
  refine callsIn_of_wp (n := m) Go.Proofs.Tryz.func47 body47_is trivial ?_ rfl
  rw [shape47, hp]
  exact seqV_in hmix (extsOK_nil rfl) (by kernel_rfl) (by kernel_rfl) (by kernel_rfl) (fun _ => rfl) (fun k hk => round47 t ht hk l) results47 hJ hG hY h0 hv rfl (by kernel_rfl) (by kernel_rfl) (by kernel_rfl)
end Go.Abs
end
section
set_option maxRecDepth 100000
namespace Go.Abs
open Go Go.RowKit Go.Lib
attribute [local go_sem] Oper.semAt_some
set_option maxHeartbeats 1000000 in
theorem lines_k (t : ByteArray) (w : World) : Calls prog 26 #[.string t] w fun en w' => ∃ T, en = .returned (.func (.func 47) #[] #[.pointer (some ⟨w.heap.size, 0, none⟩)]) ∧ w' = w.alloc (.cells #[.string t] T) := by
  have mixed := hmix
  go_enter Go.Proofs.Tryz.func26, Go.Proofs.Tryz.ntmps26
  go_wp2
  go_ret
  exact ⟨_, rfl, rfl⟩
theorem lines_f (t : ByteArray) : LvF prog 26 47 (.string t) (.string (lnR t 0)) := by
  refine ⟨⟨_, Go.Proofs.Tryz.func26, rfl, by kernel_rfl⟩, fun w => ?_⟩
  rw [show lnR t 0 = t from ext_all t]
  exact lines_k t w
end Go.Abs
end
