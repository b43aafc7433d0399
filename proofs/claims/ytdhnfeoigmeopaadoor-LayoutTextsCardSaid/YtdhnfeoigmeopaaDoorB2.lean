/- A line of numbers written into a builder. -/
import Derived.Test.YtdhnfeoigmeopaaDoorB1
import Derived.Test.YtdhnfeoigmeopaaDoorK64
import Derived.LoopTactic
import Derived.WalkSmall
set_option maxRecDepth 100000
namespace Go.Abs
open Go Go.RowKit Go.Lib
attribute [local go_sem] Oper.semAt_some
theorem below_grow (w : World) (q : Nat) (os : Array Obj) : RowKit.Below w.heap.size w (Sort.grow (w.drewN q) os) := by
  refine ⟨rfl, rfl, rfl, ?_, fun k hk => ?_⟩
  · show w.heap.size ≤ (w.heap ++ os).size
    rw [Array.size_append]; omega
  · show (w.heap ++ os)[k]? = _
    rw [Array.getElem?_append_left hk]
theorem bld_below {T e : TypeId} {B b : Nat} {bs : List Value} {w w' : World} (h : Lib.IsBuilderF T e B b bs w) (hb : RowKit.Below w.heap.size w w') : Lib.IsBuilderF T e B b bs w' := by
  have lt : ∀ {k : Nat} {o : Obj}, w.heap[k]? = some o → w'.heap[k]? = some o := fun {k o} e => by
    rw [hb.block k (Array.getElem?_eq_some_iff.1 e).1]; exact e
  have one : ∀ {p : Value}, Lib.BuilderAtF T e B b p bs w → Lib.BuilderAtF T e B b p bs w' := fun {p} ⟨h1, v, h2, ⟨h3, h4⟩, h5⟩ => by
    refine ⟨h1, v, lt h2, ⟨h3, ?_⟩, h5⟩
    rcases h4 with h4 | ⟨g, cap, cur, fz, a1, a2, a3, a4⟩
    · exact .inl h4
    · exact .inr ⟨g, cap, cur, fz, a1, a2, lt a3, a4⟩
  exact h.elim (fun x => .inl (one x)) fun x => .inr (one x)
theorem others_below {e : TypeId} {b : Option Nat} {w w' : World} (hb : RowKit.Below w.heap.size w w') : Lib.OthersKept e b w w' := fun k o hk _ _ => by
  rw [hb.block k (Array.getElem?_eq_some_iff.1 hk).1]; exact hk
theorem gTab : prog.globalNamed "internal/strconv.uint64pow10" = some 5 := by kernel_rfl
theorem itoa_k (n : Int) (h0 : -9223372036854775808 ≤ n) (h1 : n ≤ 9223372036854775807) (w : World) (htab : Lib.TabIs prog w "internal/strconv.uint64pow10" .u64 Lib.pow10Tab) :
    Calls prog 50 #[.int .i64 n] w fun e w' => ∃ d, e = .returned (.string d) ∧ Hid (d = decB n) ∧ RowKit.Below w.heap.size w w' := by
  refine (Go.Proofs.Any.strconv_Itoa Go.Proofs.Tryd.itoaL n h0 h1 w htab).mono ?_
  rintro e w' ⟨rfl, k, os, rfl⟩
  exact ⟨_, rfl, Lib.hid rfl, below_grow w k os⟩
def numL (A : Nat → Int) : Nat → List UInt8
  | 0 => []
  | k + 1 => numL A k ++ 32 :: (decB (A k)).data.toList
theorem numL_len (A : Nat → Int) (n : Nat) (hA : ∀ k, k < n → -1000000000000 ≤ A k ∧ A k ≤ 1000000000000) : ∀ k, k ≤ n → (numL A k).length ≤ k * 1000000000003
  | 0, _ => Nat.zero_le _
  | k + 1, h => by
    have ih := numL_len A n hA k (by omega)
    have h2 := decB_size (A k)
    have h3 := hA k (by omega)
    rw [numL, List.length_append, List.length_cons, ← Lib.size_eq]
    omega
set_option maxHeartbeats 1000000 in
theorem line_k (B b n : Nat) (l : List UInt8) (word : ByteArray) (A : Nat → Int) (X : Option Addr) (c : Nat) (w : World) (h : Lib.IsBuilderF 79 5 B b (Lib.byteCells l) w) (hBw : B ≤ w.heap.size) (h3 : 5 < B) (hn : n ≤ 10) (hc : n ≤ c)
    (hlen : l.length + word.size ≤ 1000000000000) (hA : ∀ k, k < n → -1000000000000 ≤ A k ∧ A k ≤ 1000000000000) (hX : ∀ W : World, RowKit.Below B w W → Lib.OthersKept 5 (some b) w W → ∀ k, k < n → ∃ a, X = some a ∧ W.cell? (a.add k) = some (.int .i64 (A k)))
    (htab : Lib.TabIs prog w "internal/strconv.uint64pow10" .u64 Lib.pow10Tab) :
    Calls prog 28 #[.pointer (some ⟨b, 0, none⟩), .string word, .slice X n c] w fun e w' => e = .returned (.tuple #[]) ∧ Lib.IsBuilderF 79 5 B b (Lib.byteCells (l ++ word.data.toList ++ numL A n ++ [10])) w' ∧ RowKit.Below B w w' ∧ Lib.OthersKept 5 (some b) w w' := by
  have mixed := hmix
  have hgT : Lib.TabIs prog w "internal/strconv.uint64pow10" .u64 Lib.pow10Tab := htab
  have HX : Hid (∀ W : World, RowKit.Below B w W → Lib.OthersKept 5 (some b) w W → ∀ k, k < n → ∃ a, X = some a ∧ W.cell? (a.add k) = some (.int .i64 (A k))) := Lib.hid hX
  clear hX
  go_enter Go.Proofs.Tryd.func28, Go.Proofs.Tryd.ntmps28
  go_wp2_with (go_at_call 48; refine (ws_k B b _ word w h (by rw [Lib.byteCells_length]; omega) hBw).mono ?_; rintro e w1 ⟨rfl, i1, b1, k1⟩; refine Hid.out ?_)
  refine Lib.hid ?_
  go_wp2
  go_loopw [13] (fun i wr => ∃ k : Nat, i = .int .i64 (k : Int) ∧ k ≤ n ∧ Lib.IsBuilderF 79 5 B b (Lib.byteCells (l ++ word.data.toList ++ numL A k)) wr ∧ RowKit.Below B w wr ∧ Lib.OthersKept 5 (some b) w wr)
    (fun i _ => (n + 1 - Lib.intOf i).toNat)
  case atStart =>
    refine ⟨0, rfl, by omega, ?_, b1, k1⟩
    rw [Lib.strCells_eq, ← Lib.byteCells_append] at i1
    rw [numL, List.append_nil]
    exact .inr i1
  case round =>
    obtain ⟨k, rfl, hk, hI, hb, ho⟩ := hrel
    have hsr : B ≤ wr.heap.size := Nat.le_trans hBw hb.size
    by_cases hlt : k < n
    · have hAk := hA k hlt
      obtain ⟨a, rfl, hcell⟩ := HX.out wr hb ho k hlt
      have htr := var?_below hb gTab h3 hgT
      have hln := numL_len A n hA k hk
      have hsl : (Lib.byteCells (l ++ word.data.toList ++ numL A k)).length + 1 ≤ 140737488355328 := by
        rw [Lib.byteCells_length, List.length_append, List.length_append, ← Lib.size_eq word]
        omega
      have hwb := wb_k B b _ 32 wr hI hsl hsr
      clear hsl
      go_wp2_with (go_at_call 49; refine hwb.mono ?_; rintro e w2 ⟨rfl, i2, b2, k2⟩; refine Hid.out ?_)
      refine Lib.hid ?_
      have hs2 : B ≤ w2.heap.size := Nat.le_trans hsr b2.size
      have ht2 := var?_below (hb.trans b2) gTab h3 hgT
      go_wp2_with (go_at_call 50; refine (itoa_k (A k) (by omega) (by omega) w2 ht2).mono ?_; rintro e w3 ⟨d, rfl, hd, b3⟩; refine Hid.out ?_)
      refine Lib.hid ?_
      have hds : d.size ≤ (A k).natAbs + 2 := by rw [hd.out]; exact decB_size (A k)
      have i2' : Lib.IsBuilderF 79 5 B b (Lib.byteCells (l ++ word.data.toList ++ numL A k ++ [32])) w2 := by
        rw [show ([Value.int .u8 32] : List Value) = Lib.byteCells [32] from rfl, ← Lib.byteCells_append] at i2
        exact .inr i2
      have hsl : (Lib.byteCells (l ++ word.data.toList ++ numL A k ++ [32])).length + d.size ≤ 140737488355328 := by
        rw [Lib.byteCells_length, List.length_append, List.length_append, List.length_append, List.length_singleton, ← Lib.size_eq word]
        omega
      have hws := ws_k B b (Lib.byteCells (l ++ word.data.toList ++ numL A k ++ [32])) d w3 (bld_below i2' b3) hsl (Nat.le_trans hs2 b3.size)
      clear hsl
      go_wp2_with (go_at_call 48; refine hws.mono ?_; rintro e w4 ⟨rfl, i4, b4, k4⟩; refine Hid.out ?_)
      refine Lib.hid ?_
      go_wp2
      go_roundw
      case rel =>
        refine ⟨k + 1, by simp, by omega, ?_, ((hb.trans b2).trans (b3.mono hs2)).trans b4, ((ho.trans k2).trans (others_below b3)).trans k4⟩
        rw [Lib.strCells_eq, ← Lib.byteCells_append, hd.out] at i4
        rw [numL, ← List.append_assoc]
        simp only [List.append_assoc, List.singleton_append] at i4 ⊢
        exact .inr i4
      case measure =>
        simp [Lib.intOf]
        omega
    · obtain rfl : k = n := by omega
      have hln := numL_len A k hA k hk
      have hsl : (Lib.byteCells (l ++ word.data.toList ++ numL A k)).length + 1 ≤ 140737488355328 := by
        rw [Lib.byteCells_length, List.length_append, List.length_append, ← Lib.size_eq word]
        omega
      have hwb := wb_k B b _ 10 wr hI hsl hsr
      clear hsl
      go_wp2_with (go_at_call 49; refine hwb.mono ?_; rintro e w3 ⟨rfl, i3, b3, k3⟩; refine Hid.out ?_)
      refine Lib.hid ?_
      go_wp2
      first | go_end0 | go_ret | go_ret2
      refine ⟨rfl, ?_, hb.trans b3, ho.trans k3⟩
      rw [show ([Value.int .u8 10] : List Value) = Lib.byteCells [10] from rfl, ← Lib.byteCells_append] at i3
      exact .inr i3
end Go.Abs
