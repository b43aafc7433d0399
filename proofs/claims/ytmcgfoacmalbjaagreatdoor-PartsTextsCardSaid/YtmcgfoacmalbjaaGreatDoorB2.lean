/- A builder's writers: what a strings.Builder holds behind copyCheck, WriteString, WriteByte. A line of numbers written into a builder. -/
import Derived.Test.YtmcgfoacmalbjaaGreatDoorK1
import Derived.Test.YtmcgfoacmalbjaaGreatDoorShelf
import Derived.WalkKit
import Derived.Deep.LoopGhost
import Derived.BigCall
import Derived.Lib.Walk
import Derived.Lib.Hide
import Derived.Lib.FrozenHead2
import Derived.Lib.AppendStr
import Derived.Laws.Externs
import Derived.Test.YtmcgfoacmalbjaaGreatDoorK61
import Derived.LoopTactic
import Derived.WalkSmall
section
set_option maxRecDepth 100000
namespace Go.Abs
open Go Go.RowKit Go.Lib
attribute [local go_sem] Oper.semAt_some
theorem i60 : prog.info? 60 = some (prog.types[60]) := by kernel_rfl
theorem s60 : (prog.types[60]).size = 2 := by kernel_rfl
theorem i5 : prog.info? 5 = some (prog.types[5]) := by kernel_rfl
theorem z5 : (prog.types[5]).zero = some (.int .u8 0) := by kernel_rfl
theorem s5 : (prog.types[5]).size = 1 := by kernel_rfl
theorem b5 : (prog.types[5]).bytes = 1 := by kernel_rfl
theorem l60 : liesAt prog prog.depth 60 (2 / prog.cellsOf 60) 0 60 1 = true := by kernel_rfl
set_option maxHeartbeats 1000000 in
theorem cc_used (b : Nat) (w : World) (h0 : w.cell? ⟨b, 0, none⟩ = some (.pointer (some ⟨b, 0, none⟩))) :
    Calls prog 61 #[.pointer (some ⟨b, 0, none⟩)] w fun e w' => e = .returned (.tuple #[]) ∧ w' = w := by
  have mixed := hmix
  go_enter Go.Proofs.Tryz.func61, Go.Proofs.Tryz.ntmps61
  go_wp2
  rw [Lib.run_neq_ptr_same w _ Go.Proofs.Tryz.underlying57 i60]
  go_wp2
  go_end0
  exact ⟨rfl, rfl⟩
set_option maxHeartbeats 1000000 in
theorem cc_fresh (b : Nat) (w : World) (h0 : w.cell? ⟨b, 0, none⟩ = some (.pointer none)) (hsh : w.shape? b = some (60, 2)) (hfz : w.frozen? ⟨b, 0, none⟩ = false) :
    Calls prog 61 #[.pointer (some ⟨b, 0, none⟩)] w fun e w' => e = .returned (.tuple #[]) ∧ w' = w.setCell ⟨b, 0, none⟩ (.pointer (some ⟨b, 0, none⟩)) := by
  have mixed := hmix
  go_enter Go.Proofs.Tryz.func61, Go.Proofs.Tryz.ntmps61
  go_wp2
  rw [Lib.run_to_unsafe w ⟨b, 0, none⟩ Go.Proofs.Tryz.underlying57 Go.Proofs.Tryz.underlying136 i60 (by rw [s60]; decide) hsh (Nat.zero_lt_succ 1)]
  simp only [Result.andThen]
  rw [Oper.upon_value]
  go_wp2
  rw [run_callFunc_extern Go.Proofs.Tryz.func71 (by kernel_rfl) (by kernel_rfl) (by kernel_rfl) (e := Extern.AbiNoEscape.same) (by kernel_rfl)]
  rw [Lib.run_noEscape]
  simp only [Result.andThen]
  rw [Oper.upon_value]
  go_wp2
  rw [Lib.run_from_unsafe w ⟨b, 0, none⟩ Go.Proofs.Tryz.underlying136 Go.Proofs.Tryz.underlying57 i60 hsh l60]
  simp only [Result.andThen]
  rw [Oper.upon_value]
  go_wp2
  go_end0
  exact ⟨rfl, rfl⟩
theorem cc_k (B b : Nat) (bs : List Value) (w : World) (h : Lib.IsBuilderF 60 5 B b bs w) :
    Calls prog 61 #[.pointer (some ⟨b, 0, none⟩)] w fun e w' => e = .returned (.tuple #[]) ∧ (Lib.BuilderAtF 60 5 B b (.pointer (some ⟨b, 0, none⟩)) bs w' ∧ RowKit.Below B w w' ∧ Lib.OthersKept 5 (some b) w w') := by
  rcases h with h | h
  · refine (cc_fresh b w h.cell0 h.shape h.frozen0).mono ?_
    rintro e w' ⟨rfl, rfl⟩
    exact ⟨rfl, h.used _, (RowKit.Below.refl B w).setCell (p := ⟨b, 0, none⟩) h.1 _, (Lib.OthersKept.refl _ _ w).setCell ⟨b, 0, none⟩ rfl _⟩
  · refine (cc_used b w h.cell0).mono ?_
    rintro e w' ⟨rfl, rfl⟩
    exact ⟨rfl, h, RowKit.Below.refl B _, Lib.OthersKept.refl _ _ _⟩
set_option maxHeartbeats 2000000 in
theorem wb_k (B b : Nat) (bs : List Value) (c : Int) (w : World) (h : Lib.IsBuilderF 60 5 B b bs w) (hlen : bs.length + 1 ≤ 140737488355328) (hBw : B ≤ w.heap.size) :
    Calls prog 45 #[.pointer (some ⟨b, 0, none⟩), .int .u8 c] w fun e w' => e = .returned .nilIface ∧ (Lib.BuilderAtF 60 5 B b (.pointer (some ⟨b, 0, none⟩)) (bs ++ [.int .u8 c]) w' ∧ RowKit.Below B w w' ∧ Lib.OthersKept 5 (some b) w w') := by
  have mixed := hmix
  go_enter Go.Proofs.Tryz.func45, Go.Proofs.Tryz.ntmps45
  go_wp2_with (go_at_call 61; refine (cc_k B b bs _ h).mono ?_)
  rintro e w1 ⟨rfl, h1, hb1, hk1⟩
  obtain ⟨hB, v, hbk, hown, hne⟩ := h1
  have c0 : w1.cell? ⟨b, 0, none⟩ = some (.pointer (some ⟨b, 0, none⟩)) := by rw [Lib.cell_of_heap hbk]; rfl
  have c1 : w1.cell? ⟨b, 1, none⟩ = some v := by rw [Lib.cell_of_heap hbk]; rfl
  go_wp2_with (at_builtin; refine wpList_append_ownF _ rfl _ _ 58 rfl B 5 _ (.int .u8 0) 1 1 Go.Proofs.Tryz.underlying58 i5 z5 s5 b5 rfl (by decide) _ _ _ rfl (hown.alloc _) ⟨w1.heap.size, 0, none⟩ 1 1 [.int .u8 c] rfl rfl ?c1 ?c2 ?c3 ?c4 ?c5 ?_)
  case c1 =>
    intro j u hj
    match j, hj with
    | 0, hj => simp at hj; subst hj; simp [Addr.add]
  case c2 => intro u hu; simp at hu; subst hu; rfl
  case c3 => unfold maxLen; omega
  case c4 => omega
  case c5 => have := hb1.size; simp; omega
  intro v' w2 hown' hgrow _
  have hlt : b < w1.heap.size := by
    rcases Nat.lt_or_ge b w1.heap.size with h' | h'
    · exact h'
    · simp [Array.getElem?_eq_none h'] at hbk
  have hb2 : w2.heap[b]? = some (.cells #[.pointer (some ⟨b, 0, none⟩), v] 60 (0, 0)) := by
    rw [hgrow.block b (by simp; omega) (fun e => hne e.symm), Lib.alloc_old w1 _ b hlt]
    exact hbk
  have d0 : w2.cell? ⟨b, 0, none⟩ = some (.pointer (some ⟨b, 0, none⟩)) := by rw [Lib.cell_of_heap hb2]; rfl
  have d1 : w2.cell? ⟨b, 1, none⟩ = some v := by rw [Lib.cell_of_heap hb2]; rfl
  have f1 : w2.frozen? ⟨b, 1, none⟩ = false := Lib.frozen_of_heap hb2 1
  obtain ⟨g, cap, rfl⟩ : ∃ g cap, v' = .slice (some ⟨g, 0, none⟩) (bs.length + 1) cap := by
    rcases hown'.2 with ⟨_, h0⟩ | ⟨g, cap, cur, fz, hv, _⟩
    · omega
    · exact ⟨g, cap, hv⟩
  go_wp2
  go_ret
  refine ⟨rfl, ?_, ?_, ((hk1.alloc _).grown hgrow (Lib.ownsRowF_kind (hown.alloc _))).setCell ⟨b, 1, none⟩ rfl _⟩
  · exact Lib.BuilderAtF.put (T := 60) (e := 5) hB hb2 (bs' := bs ++ [.int .u8 c]) (by simpa using hown') (by decide)
  · exact ((hb1.alloc (by have := hb1.size; omega) _).grown hgrow (by have := hb1.size; simp; omega) (fun k hk => (hown.lt k hk).1)).setCell (p := ⟨b, 1, none⟩) hB _
set_option maxHeartbeats 2000000 in
theorem ws_k (B b : Nat) (bs : List Value) (s : ByteArray) (w : World) (h : Lib.IsBuilderF 60 5 B b bs w) (hlen : bs.length + s.size ≤ 140737488355328) (hBw : B ≤ w.heap.size) :
    Calls prog 43 #[.pointer (some ⟨b, 0, none⟩), .string s] w fun e w' => e = .returned (.tuple #[.int .i64 s.size, .nilIface]) ∧ (Lib.BuilderAtF 60 5 B b (.pointer (some ⟨b, 0, none⟩)) (bs ++ Lib.strCells s) w' ∧ RowKit.Below B w w' ∧ Lib.OthersKept 5 (some b) w w') := by
  have mixed := hmix
  go_enter Go.Proofs.Tryz.func43, Go.Proofs.Tryz.ntmps43
  go_wp2_with (go_at_call 61; refine (cc_k B b bs _ h).mono ?_)
  rintro e w1 ⟨rfl, h1, hb1, hk1⟩
  obtain ⟨hB, v, hbk, hown, hne⟩ := h1
  have c0 : w1.cell? ⟨b, 0, none⟩ = some (.pointer (some ⟨b, 0, none⟩)) := by rw [Lib.cell_of_heap hbk]; rfl
  have c1 : w1.cell? ⟨b, 1, none⟩ = some v := by rw [Lib.cell_of_heap hbk]; rfl
  go_wp2_with (at_builtin; refine Lib.wpList_append_own_stringF _ rfl _ _ 58 9 rfl B 5 _ Go.Proofs.Tryz.underlying58 Go.Proofs.Tryz.underlying9 i5 z5 s5 b5 _ _ _ rfl hown s rfl ?c3 ?c4 ?c5 ?_)
  case c3 => unfold maxLen; omega
  case c4 => omega
  case c5 => have := hb1.size; omega
  intro v' w2 hown' hgrow _
  have hlt : b < w1.heap.size := by
    rcases Nat.lt_or_ge b w1.heap.size with h' | h'
    · exact h'
    · simp [Array.getElem?_eq_none h'] at hbk
  have hb2 : w2.heap[b]? = some (.cells #[.pointer (some ⟨b, 0, none⟩), v] 60 (0, 0)) := by
    rw [hgrow.block b hlt (fun e => hne e.symm)]
    exact hbk
  have d0 : w2.cell? ⟨b, 0, none⟩ = some (.pointer (some ⟨b, 0, none⟩)) := by rw [Lib.cell_of_heap hb2]; rfl
  have d1 : w2.cell? ⟨b, 1, none⟩ = some v := by rw [Lib.cell_of_heap hb2]; rfl
  have f1 : w2.frozen? ⟨b, 1, none⟩ = false := Lib.frozen_of_heap hb2 1
  obtain ⟨ao, n', cap, rfl⟩ : ∃ ao n' cap, v' = .slice ao n' cap := by
    rcases hown'.2 with ⟨hv, _⟩ | ⟨g, cap, cur, fz, hv, _⟩
    · exact ⟨_, _, _, hv⟩
    · exact ⟨_, _, _, hv⟩
  go_wp2
  go_ret2
  refine ⟨rfl, ?_, ?_, (hk1.grown hgrow (Lib.ownsRowF_kind hown)).setCell ⟨b, 1, none⟩ rfl _⟩
  · exact Lib.BuilderAtF.put (T := 60) (e := 5) hB hb2 (bs' := bs ++ Lib.strCells s) (by simpa [Lib.strCells_length] using hown') (by decide)
  · exact (hb1.grown hgrow (by have := hb1.size; omega) (fun k hk => (hown.lt k hk).1)).setCell (p := ⟨b, 1, none⟩) hB _
end Go.Abs
end
section
set_option maxRecDepth 100000
namespace Go.Abs
open Go Go.RowKit Go.Lib
attribute [local go_sem] Oper.semAt_some
theorem below_grow (w : World) (q : Nat) (os : Array Obj) : RowKit.Below w.heap.size w (Sort.grow (w.drewN q) os) := by
  refine ⟨rfl, rfl, rfl, ?_, fun k hk => ?_⟩
  · show w.heap.size ≤ (w.heap ++ os).size
    rw [Array.size_append]; omega
  · show (w.heap ++ os)[k]? = _
    rw [Array.getElem?_append_left hk]
theorem bld_below {T e : TypeId} {B b : Nat} {bs : List Value} {w w' : World} (h : Lib.IsBuilderF T e B b bs w) (hb : RowKit.Below w.heap.size w w') : Lib.IsBuilderF T e B b bs w' := by
  have lt : ∀ {k : Nat} {o : Obj}, w.heap[k]? = some o → w'.heap[k]? = some o := fun {k o} e => by
    rw [hb.block k (Array.getElem?_eq_some_iff.1 e).1]; exact e
  have one : ∀ {p : Value}, Lib.BuilderAtF T e B b p bs w → Lib.BuilderAtF T e B b p bs w' := fun {p} ⟨h1, v, h2, ⟨h3, h4⟩, h5⟩ => by
    refine ⟨h1, v, lt h2, ⟨h3, ?_⟩, h5⟩
    rcases h4 with h4 | ⟨g, cap, cur, fz, a1, a2, a3, a4⟩
    · exact .inl h4
    · exact .inr ⟨g, cap, cur, fz, a1, a2, lt a3, a4⟩
  exact h.elim (fun x => .inl (one x)) fun x => .inr (one x)
theorem others_below {e : TypeId} {b : Option Nat} {w w' : World} (hb : RowKit.Below w.heap.size w w') : Lib.OthersKept e b w w' := fun k o hk _ _ => by
  rw [hb.block k (Array.getElem?_eq_some_iff.1 hk).1]; exact hk
theorem gTab : prog.globalNamed "internal/strconv.uint64pow10" = some 3 := by kernel_rfl
theorem itoa_k (n : Int) (h0 : -9223372036854775808 ≤ n) (h1 : n ≤ 9223372036854775807) (w : World) (htab : Lib.TabIs prog w "internal/strconv.uint64pow10" .u64 Lib.pow10Tab) :
    Calls prog 44 #[.int .i64 n] w fun e w' => ∃ d, e = .returned (.string d) ∧ Hid (d = decB n) ∧ RowKit.Below w.heap.size w w' := by
  refine (Go.Proofs.Any.strconv_Itoa Go.Proofs.Tryz.itoaL n h0 h1 w htab).mono ?_
  rintro e w' ⟨rfl, k, os, rfl⟩
  exact ⟨_, rfl, Lib.hid rfl, below_grow w k os⟩
def numL (A : Nat → Int) : Nat → List UInt8
  | 0 => []
  | k + 1 => numL A k ++ 32 :: (decB (A k)).data.toList
theorem sp_data (d : ByteArray) : ((⟨#[32]⟩ : ByteArray) ++ d).data.toList = 32 :: d.data.toList := by
  rw [ByteArray.data_append, Array.toList_append]; rfl
theorem numL_len (A : Nat → Int) (n : Nat) (hA : ∀ k, k < n → -1000000000000 ≤ A k ∧ A k ≤ 1000000000000) : ∀ k, k ≤ n → (numL A k).length ≤ k * 1000000000003
  | 0, _ => Nat.zero_le _
  | k + 1, h => by
    have ih := numL_len A n hA k (by omega)
    have h2 := decB_size (A k)
    have h3 := hA k (by omega)
    rw [numL, List.length_append, List.length_cons, ← Lib.size_eq]
    omega
set_option maxHeartbeats 600000 in
theorem line_k (B b g : Nat) (l : List UInt8) (word : ByteArray) (A : Nat → Int) (cs : Array Value) (fr : Nat × Nat) (w : World) (h : Lib.IsBuilderF 60 5 B b (Lib.byteCells l) w) (hBw : B ≤ w.heap.size) (h3 : 3 < B)
    (hlen : l.length + word.size ≤ 1000000000000) (hA : ∀ k, k < 3 → -1000000000000 ≤ A k ∧ A k ≤ 1000000000000) (hg : w.heap[g]? = some (.cells cs 3 fr)) (hgb : g ≠ b) (hcs : ∀ k, k < 3 → cs[k]? = some (.int .i64 (A k)))
    (htab : Lib.TabIs prog w "internal/strconv.uint64pow10" .u64 Lib.pow10Tab) :
    Calls prog 20 #[.pointer (some ⟨b, 0, none⟩), .string word, .slice (some ⟨g, 0, none⟩) 3 3] w fun e w' => e = .returned (.tuple #[]) ∧ Lib.IsBuilderF 60 5 B b (Lib.byteCells (l ++ word.data.toList ++ numL A 3 ++ [10])) w' ∧ RowKit.Below B w w' ∧ Lib.OthersKept 5 (some b) w w' := by
  have mixed := hmix
  have hgT : Lib.TabIs prog w "internal/strconv.uint64pow10" .u64 Lib.pow10Tab := htab
  go_enter Go.Proofs.Tryz.func20, Go.Proofs.Tryz.ntmps20
  go_wp2_with (go_at_call 43; refine (ws_k B b _ word w h (by rw [Lib.byteCells_length]; omega) hBw).mono ?_; rintro e w1 ⟨rfl, i1, b1, k1⟩; refine Hid.out ?_)
  refine Lib.hid ?_
  go_wp2
  go_loopw [13] (fun i wr => ∃ k : Nat, i = .int .i64 (k : Int) ∧ k ≤ 3 ∧ Lib.IsBuilderF 60 5 B b (Lib.byteCells (l ++ word.data.toList ++ numL A k)) wr ∧ RowKit.Below B w wr ∧ Lib.OthersKept 5 (some b) w wr)
    (fun i _ => (4 - Lib.intOf i).toNat)
  case atStart =>
    refine ⟨0, rfl, by omega, ?_, b1, k1⟩
    rw [Lib.strCells_eq, ← Lib.byteCells_append] at i1
    rw [numL, List.append_nil]
    exact .inr i1
  case round =>
    obtain ⟨k, rfl, hk, hI, hb, ho⟩ := hrel
    have hsr : B ≤ wr.heap.size := Nat.le_trans hBw hb.size
    by_cases hlt : k < 3
    · have hAk := hA k hlt
      have hcell : wr.cell? ⟨g, k, none⟩ = some (.int .i64 (A k)) := by
        rw [Lib.cell_of_heap (ho g _ hg (by simpa using hgb) (fun c fz e => by cases e))]
        exact hcs k hlt
      have htr := var?_below hb gTab h3 hgT
      have hln := numL_len A 3 hA k hk
      go_wp2_with (go_at_call 44; refine (itoa_k (A k) (by omega) (by omega) wr htr).mono ?_; rintro e w2 ⟨d, rfl, hd, b2⟩; refine Hid.out ?_)
      refine Lib.hid ?_
      have hsz : ((⟨#[32]⟩ : ByteArray) ++ d).size = d.size + 1 := by rw [ByteArray.size_append]; exact Nat.add_comm _ _
      have hds : d.size ≤ (A k).natAbs + 2 := by rw [hd.out]; exact decB_size (A k)
      have hsl : (Lib.byteCells (l ++ word.data.toList ++ numL A k)).length + ((⟨#[32]⟩ : ByteArray) ++ d).size ≤ 140737488355328 := by
        rw [Lib.byteCells_length, hsz, List.length_append, List.length_append, ← Lib.size_eq word]
        omega
      have hws := ws_k B b (Lib.byteCells (l ++ word.data.toList ++ numL A k)) ((⟨#[32]⟩ : ByteArray) ++ d) w2 (bld_below hI b2) hsl (Nat.le_trans hsr b2.size)
      clear hsl
      go_wp2_with (go_at_call 43; refine hws.mono ?_; rintro e w3 ⟨rfl, i3, b3, k3⟩; refine Hid.out ?_)
      refine Lib.hid ?_
      go_wp2
      go_roundw
      case rel =>
        refine ⟨k + 1, by simp, by omega, ?_, (hb.trans (b2.mono hsr)).trans b3, (ho.trans (others_below b2)).trans k3⟩
        rw [Lib.strCells_eq, ← Lib.byteCells_append, sp_data, hd.out] at i3
        rw [numL, ← List.append_assoc]
        exact .inr i3
      case measure =>
        simp [Lib.intOf]
        omega
    · obtain rfl : k = 3 := by omega
      have hln := numL_len A 3 hA 3 hk
      have hsl : (Lib.byteCells (l ++ word.data.toList ++ numL A 3)).length + 1 ≤ 140737488355328 := by
        rw [Lib.byteCells_length, List.length_append, List.length_append, ← Lib.size_eq word]
        omega
      have hwb := wb_k B b _ 10 wr hI hsl hsr
      clear hsl
      go_wp2_with (go_at_call 45; refine hwb.mono ?_; rintro e w3 ⟨rfl, i3, b3, k3⟩; refine Hid.out ?_)
      refine Lib.hid ?_
      go_wp2
      first | go_end0 | go_ret | go_ret2
      refine ⟨rfl, ?_, hb.trans b3, ho.trans k3⟩
      rw [show ([Value.int .u8 10] : List Value) = Lib.byteCells [10] from rfl, ← Lib.byteCells_append] at i3
      exact .inr i3
end Go.Abs
end
