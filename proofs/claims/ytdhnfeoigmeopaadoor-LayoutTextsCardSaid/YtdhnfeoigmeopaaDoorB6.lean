/- PrintSystem: the text of a system. PrintSystem: the text of a system. PrintSystem: its contract. -/
import Derived.Test.YtdhnfeoigmeopaaDoorB2
import Derived.Test.YtdhnfeoigmeopaaDoorK65
import Derived.Lib.SliceRun
section
section
set_option maxRecDepth 100000
namespace Go.Abs
open Go Go.RowKit Go.Lib
attribute [local go_sem] Oper.semAt_some
theorem bldX : Go.Proofs.Builder.Extra prog Go.Proofs.Tryd.strB_ren := {
  sizeBuilder := by kernel_rfl
  liesBuilder := by kernel_rfl
  t5 := Go.Proofs.Tryd.underlying5
  a5 := Go.Proofs.Tryd.isAgg5
  z5 := Go.Proofs.Tryd.sizeOf5
  v5 := Go.Proofs.Tryd.zeroValue5
  infoByte := by kernel_rfl
  cellsByte := by kernel_rfl
  sizeByte := by kernel_rfl
  neB5 := by decide }
theorem str_k (B b : Nat) (l : List UInt8) (w : World) (h : Lib.IsBuilderF 79 5 B b (Lib.byteCells l) w) (hBw : B ≤ w.heap.size) :
    Calls prog 29 #[.pointer (some ⟨b, 0, none⟩)] w fun e w' => e = .returned (.string ⟨l.toArray⟩) ∧ RowKit.Below B w w' := by
  refine (Go.Proofs.Any.Builder_String_any_k Go.Proofs.Tryd.strB bldX B b l w h hBw).mono ?_
  rintro e w' ⟨he, _, hb, _⟩
  exact ⟨he, hb⟩
theorem bldAt_lt {T e : TypeId} {B b : Nat} {p : Value} {bs : List Value} {w : World} (h : Lib.BuilderAtF T e B b p bs w) : b < w.heap.size := by
  obtain ⟨_, v, hb, _⟩ := h
  exact (Array.getElem?_eq_some_iff.1 hb).1
def lnS (w : ByteArray) (n : Nat) (A : Nat → Int) : ByteArray := ⟨(w.data.toList ++ numL A n ++ [10]).toArray⟩
def bayW : ByteArray := ⟨#[98, 97, 121, 115]⟩
def brdW : ByteArray := ⟨#[98, 111, 97, 114, 100, 115]⟩
def widW : ByteArray := ⟨#[119, 105, 100, 116, 104]⟩
def gapW : ByteArray := ⟨#[103, 97, 112]⟩
def lifW : ByteArray := ⟨#[108, 105, 102, 116]⟩
def prS (nB : Nat) (B : Nat → Int) (nO : Nat) (O : Nat → Int) (W G L : Int) : ByteArray := lnS bayW nB B ++ lnS brdW nO O ++ lnS widW 1 (fun _ => W) ++ lnS gapW 1 (fun _ => G) ++ lnS lifW 1 (fun _ => L)
def prSF (nB : Nat) (B : Nat → Int) (nO : Nat) (O : Nat → Int) (W G L : Int) : ByteArray := if sysE nB B nO O W G L = 0 then prS nB B nO O W G L else ⟨#[]⟩
structure SysOK (nB : Nat) (B : Nat → Int) (nO : Nat) (O : Nat → Int) (W G L : Int) : Prop where
  n1 : 1 ≤ nB
  n2 : nB ≤ 8
  n3 : nO ≤ 8
  B : ∀ k, k < nB → 1 ≤ B k ∧ B k ≤ 10000
  O : ∀ k, k < nO → 1 ≤ O k ∧ O k ≤ 10000
  W : 1 ≤ W ∧ W ≤ 5000
  G : 0 ≤ G ∧ G ≤ 5000
  L : 1 ≤ L ∧ L ≤ 10000
theorem sys_facts {nB : Nat} {B : Nat → Int} {nO : Nat} {O : Nat → Int} {W G L : Int} (h : sysE nB B nO O W G L = 0) : SysOK nB B nO O W G L := by
  unfold sysE at h
  split at h
  · cases h
  · rename_i h1
    split at h
    · cases h
    · rename_i h2
      split at h
      · cases h
      · rename_i h3
        split at h
        · cases h
        · rename_i h4
          have bad : ∀ {n : Nat} {A : Nat → Int}, ¬ anyBad n A = true → ∀ k, k < n → 1 ≤ A k ∧ A k ≤ 10000 := fun {n A} h k hk => by
            have h : anyBad n A = false := by simpa using h
            have := anyN_false.1 h k hk
            unfold badL at this
            simpa [inR] using this
          have inr : ∀ {x a b : Int}, ¬ inR x a b = false → a ≤ x ∧ x ≤ b := fun {x a b} h => by
            have h : inR x a b = true := by simpa using h
            simpa [inR] using h
          exact ⟨by omega, by omega, by omega, bad fun h => h2 (.inl h), bad fun h => h2 (.inr h), inr fun h => h4 (.inl h), inr fun h => h4 (.inr (.inl h)), inr fun h => h4 (.inr (.inr h))⟩
theorem numL_len2 (A : Nat → Int) (n : Nat) (hA : ∀ k, k < n → 0 ≤ A k ∧ A k ≤ 10000) : ∀ k, k ≤ n → (numL A k).length ≤ k * 10003
  | 0, _ => Nat.zero_le _
  | k + 1, h => by
    have ih := numL_len2 A n hA k (by omega)
    have h2 := decB_size (A k)
    have h3 := hA k (by omega)
    rw [numL, List.length_append, List.length_cons, ← Lib.size_eq]
    omega
end Go.Abs
end
section
set_option maxRecDepth 100000
namespace Go.Abs
open Go Go.RowKit Go.Lib
attribute [local go_sem] Oper.semAt_some
theorem line1_k (B b : Nat) (l : List UInt8) (word : ByteArray) (x : Int) (w wa : World) (g : Nat) (hwa : wa.heap[g]? = some (.cells #[.int .i64 x] 3 (0, 0))) (hgb : g ≠ b) (hw : RowKit.Below w.heap.size w wa) (h : Lib.IsBuilderF 79 5 B b (Lib.byteCells l) w) (hBw : B ≤ w.heap.size) (h3 : 5 < B)
    (hlen : l.length + word.size ≤ 1000000000000) (hx : 0 ≤ x ∧ x ≤ 10000) (htab : Lib.TabIs prog wa "internal/strconv.uint64pow10" .u64 Lib.pow10Tab) :
    Calls prog 28 #[.pointer (some ⟨b, 0, none⟩), .string word, .slice (some ⟨g, 0, none⟩) 1 1] wa fun e w' => e = .returned (.tuple #[]) ∧ Lib.IsBuilderF 79 5 B b (Lib.byteCells (l ++ word.data.toList ++ numL (fun _ => x) 1 ++ [10])) w' ∧ RowKit.Below B wa w' := by
  refine (line_k B b 1 l word (fun _ => x) (some ⟨g, 0, none⟩) 1 wa (bld_below h hw) (Nat.le_trans hBw hw.size) h3 (by decide) (Nat.le_refl _) hlen (fun _ _ => by omega) (fun W' _ ho k hk => ⟨_, rfl, ?_⟩) htab).mono ?_
  · obtain rfl : k = 0 := by omega
    show W'.cell? ⟨g, 0, none⟩ = _
    rw [Lib.cell_of_heap (ho g _ hwa (by simpa using hgb) (fun c fz e => by cases e))]; rfl
  · rintro e w' ⟨h1, h2, h3, _⟩
    exact ⟨h1, h2, h3⟩
theorem prS_l (nB : Nat) (B : Nat → Int) (nO : Nat) (O : Nat → Int) (W G L : Int) :
    (⟨((((([] ++ bayW.data.toList ++ numL B nB ++ [10]) ++ brdW.data.toList ++ numL O nO ++ [10]) ++ widW.data.toList ++ numL (fun _ => W) 1 ++ [10]) ++ gapW.data.toList ++ numL (fun _ => G) 1 ++ [10]) ++ lifW.data.toList ++ numL (fun _ => L) 1 ++ [10]).toArray⟩ : ByteArray) = prS nB B nO O W G L := by
  apply ByteArray.ext
  apply Array.toList_inj.1
  simp only [prS, lnS, ByteArray.data_append, Array.toList_append, List.append_assoc, List.nil_append]
set_option maxHeartbeats 2000000 in
theorem print_k (nB : Nat) (B : Nat → Int) (nO : Nat) (O : Nat → Int) (W G L : Int) (X Y : Option Addr) (c c' : Nat) (w : World) (hc : nB ≤ c) (hc' : nO ≤ c') (hchk : ∀ W' : World, RowKit.Below w.heap.size w W' → Calls prog 27 #[.agg #[.slice X nB c, .slice Y nO c', .int .i64 W, .int .i64 G, .int .i64 L]] W' fun e W2 => e = .returned (.int .i64 (sysE nB B nO O W G L)) ∧ RowKit.Below W'.heap.size W' W2)
    (h3 : 5 < w.heap.size) (htab : Lib.TabIs prog w "internal/strconv.uint64pow10" .u64 Lib.pow10Tab)
    (hX : ∀ i, i < nB → ∃ a, X = some a ∧ w.cell? (a.add i) = some (.int .i64 (B i))) (hY : ∀ i, i < nO → ∃ a, Y = some a ∧ w.cell? (a.add i) = some (.int .i64 (O i))) :
    Calls prog 15 #[.agg #[.slice X nB c, .slice Y nO c', .int .i64 W, .int .i64 G, .int .i64 L]] w fun e w' => e = .returned (.tuple #[.string (prSF nB B nO O W G L), .int .i64 (sysE nB B nO O W G L)]) ∧ RowKit.Below w.heap.size w w' := by
  have mixed := hmix
  have HX : Hid (∀ i, i < nB → ∃ a, X = some a ∧ w.cell? (a.add i) = some (.int .i64 (B i))) := Lib.hid hX
  have HY : Hid (∀ i, i < nO → ∃ a, Y = some a ∧ w.cell? (a.add i) = some (.int .i64 (O i))) := Lib.hid hY
  have HC : Hid (∀ W' : World, RowKit.Below w.heap.size w W' → Calls prog 27 #[.agg #[.slice X nB c, .slice Y nO c', .int .i64 W, .int .i64 G, .int .i64 L]] W' fun e W2 => e = .returned (.int .i64 (sysE nB B nO O W G L)) ∧ RowKit.Below W'.heap.size W' W2) := Lib.hid hchk
  clear hX hY hchk
  go_enter Go.Proofs.Tryd.func15, Go.Proofs.Tryd.ntmps15
  go_wp2_with (go_at_call 27; refine (HC.out _ ((RowKit.Below.refl _ w).alloc (Nat.le_refl _) _)).mono ?_; rintro e w2 ⟨rfl, b2⟩; refine Hid.out ?_)
  refine Lib.hid ?_
  have hbx : w2.heap[w.heap.size]? = some (.cells #[.slice X nB c, .slice Y nO c', .int .i64 W, .int .i64 G, .int .i64 L] 25 (0, 0)) := by
    rw [b2.block _ (by simp)]; exact World.alloc_heap_new w _
  have hlt : w.heap.size < w2.heap.size := (Array.getElem?_eq_some_iff.1 hbx).1
  by_cases hz : sysE nB B nO O W G L = 0
  · rw [hz]
    have ok := sys_facts hz
    have hB := ok.B
    have hO := ok.O
    have hW := ok.W
    have hG := ok.G
    have hL := ok.L
    have n1 := ok.n1
    have n2 := ok.n2
    have n3 := ok.n3
    clear ok
    have l1 := numL_len2 B nB (fun k hk => by have := hB k hk; omega) nB (Nat.le_refl _)
    have l2 := numL_len2 O nO (fun k hk => by have := hO k hk; omega) nO (Nat.le_refl _)
    have l3 := numL_len2 (fun _ => W) 1 (fun k hk => by omega) 1 (Nat.le_refl _)
    have l4 := numL_len2 (fun _ => G) 1 (fun k hk => by omega) 1 (Nat.le_refl _)
    have l5 := numL_len2 (fun _ => L) 1 (fun k hk => by omega) 1 (Nat.le_refl _)
    have c0 : ∀ V : World, RowKit.Below w2.heap.size w2 V → V.cell? ⟨w.heap.size, 0, none⟩ = some (.slice X nB c) ∧ V.cell? ⟨w.heap.size, 1, none⟩ = some (.slice Y nO c') ∧ V.cell? ⟨w.heap.size, 2, none⟩ = some (.int .i64 W) ∧ V.cell? ⟨w.heap.size, 3, none⟩ = some (.int .i64 G) ∧ V.cell? ⟨w.heap.size, 4, none⟩ = some (.int .i64 L) := fun V hV => by
      have hh : V.heap[w.heap.size]? = some (.cells #[.slice X nB c, .slice Y nO c', .int .i64 W, .int .i64 G, .int .i64 L] 25 (0, 0)) := by rw [hV.block _ hlt]; exact hbx
      exact ⟨by rw [Lib.cell_of_heap hh]; rfl, by rw [Lib.cell_of_heap hh]; rfl, by rw [Lib.cell_of_heap hh]; rfl, by rw [Lib.cell_of_heap hh]; rfl, by rw [Lib.cell_of_heap hh]; rfl⟩
    have C0 := Lib.hid c0
    clear c0
    have hw2 : RowKit.Below w.heap.size w w2 := (RowKit.Below.refl _ w).alloc (Nat.le_refl _) _ |>.trans (b2.mono (by simp))
    have tab : ∀ V : World, RowKit.Below w2.heap.size w2 V → Lib.TabIs prog V "internal/strconv.uint64pow10" .u64 Lib.pow10Tab := fun V hV => var?_below (hw2.trans (hV.mono (by omega))) gTab h3 htab
    have TB := Lib.hid tab
    clear tab
    have fx : ∀ V : World, RowKit.Below w2.heap.size w2 V → (∀ k, k < nB → ∃ a, X = some a ∧ V.cell? (a.add k) = some (.int .i64 (B k))) ∧ ∀ k, k < nO → ∃ a, Y = some a ∧ V.cell? (a.add k) = some (.int .i64 (O k)) := fun V hV => by
      have hwV := hw2.trans (hV.mono (by omega))
      refine ⟨fun k hk => ?_, fun k hk => ?_⟩
      · obtain ⟨a, e, h1⟩ := HX.out k hk
        exact ⟨a, e, (hwV.cell (p := a.add k) (World.block_lt_of_cell? _ _ h1)).trans h1⟩
      · obtain ⟨a, e, h1⟩ := HY.out k hk
        exact ⟨a, e, (hwV.cell (p := a.add k) (World.block_lt_of_cell? _ _ h1)).trans h1⟩
    have FX := Lib.hid fx
    clear fx HX HY HC
    have i0 : Lib.IsBuilderF 79 5 w2.heap.size w2.heap.size (Lib.byteCells ([] : List UInt8)) (w2.alloc (.cells #[.pointer none, .slice none 0 0] 79)) := Lib.IsBuilderF.of (Lib.fresh_isBuilder 79 5 w2)
    have hb0 : RowKit.Below w2.heap.size w2 (w2.alloc (.cells #[.pointer none, .slice none 0 0] 79)) := (RowKit.Below.refl _ w2).alloc (Nat.le_refl _) _
    have z0 := C0.out _ hb0
    obtain ⟨z00, z01, z02, z03, z04⟩ := z0
    have hs0 : w2.heap.size ≤ (w2.alloc (.cells #[.pointer none, .slice none 0 0] 79)).heap.size := hb0.size
    have q1 := line_k w2.heap.size w2.heap.size nB [] bayW B X c _ i0 hs0 (by omega) (by omega) hc (by decide) (fun k hk => by have := hB k hk; omega) (fun V h1 _ => (FX.out V (hb0.trans h1)).1) (TB.out _ hb0)
    go_wp2_with (go_at_call 28; refine q1.mono ?_; rintro e w3 ⟨rfl, i3, b3, k3⟩; refine Hid.out ?_)
    refine Lib.hid ?_
    clear z00 z01 z02 z03 z04 q1
    have hb3 := hb0.trans b3
    obtain ⟨z00, z01, z02, z03, z04⟩ := C0.out _ hb3
    have hs3 : w2.heap.size ≤ w3.heap.size := hb3.size
    have e3 : ([] ++ bayW.data.toList ++ numL B nB ++ [10]).length + brdW.size ≤ 1000000000000 := by
      simp only [List.length_append, List.length_nil, List.length_singleton, ← Lib.size_eq]
      rw [show bayW.size = 4 from rfl, show brdW.size = 6 from rfl]; omega
    obtain ⟨L1, hL1⟩ : ∃ L1, L1 = [] ++ bayW.data.toList ++ numL B nB ++ [10] := ⟨_, rfl⟩
    rw [← hL1] at i3 e3
    have q2 := line_k w2.heap.size w2.heap.size nO L1 brdW O Y c' _ i3 hs3 (by omega) (by omega) hc' e3 (fun k hk => by have := hO k hk; omega) (fun V h1 _ => (FX.out V (hb3.trans h1)).2) (TB.out _ hb3)
    go_wp2_with (go_at_call 28; refine q2.mono ?_; rintro e w4 ⟨rfl, i4, b4, k4⟩; refine Hid.out ?_)
    refine Lib.hid ?_
    have hb4 := hb3.trans b4
    clear z00 z01 z02 z03 z04 q2
    obtain ⟨z00, z01, z02, z03, z04⟩ := C0.out _ hb4
    have hs4 : w2.heap.size ≤ w4.heap.size := hb4.size
    have e4 : (L1 ++ brdW.data.toList ++ numL O nO ++ [10]).length ≤ 1000000 := by
      rw [hL1]
      simp only [List.length_append, List.length_nil, List.length_singleton, ← Lib.size_eq]
      rw [show bayW.size = 4 from rfl, show brdW.size = 6 from rfl]; omega
    obtain ⟨L2, hL2⟩ : ∃ L2, L2 = L1 ++ brdW.data.toList ++ numL O nO ++ [10] := ⟨_, rfl⟩
    rw [← hL2] at i4 e4
    have hl4 : w2.heap.size < w4.heap.size := by
      rcases i4 with h | h
      · exact bldAt_lt h
      · exact bldAt_lt h
    have ba4 : RowKit.Below w4.heap.size w4 (w4.alloc (.cells #[.int .i64 W] 3)) := (RowKit.Below.refl _ w4).alloc (Nat.le_refl _) _
    have q4 := line1_k w2.heap.size w2.heap.size L2 widW W w4 (w4.alloc (.cells #[.int .i64 W] 3)) w4.heap.size (World.alloc_heap_new _ _) (by omega) ba4 i4 hs4 (by omega) (by rw [show widW.size = 5 from rfl]; omega) ⟨by omega, by omega⟩ (TB.out _ (hb4.trans (ba4.mono hs4)))
    go_wp2_with (go_at_call 28; refine q4.mono ?_; rintro e w5 ⟨rfl, i5, b5⟩; refine Hid.out ?_)
    refine Lib.hid ?_
    have hb5 := (hb4.trans (ba4.mono hs4)).trans b5
    clear z00 z01 z02 z03 z04 q4
    obtain ⟨z00, z01, z02, z03, z04⟩ := C0.out _ hb5
    have hs5 : w2.heap.size ≤ w5.heap.size := hb5.size
    have e5 : (L2 ++ widW.data.toList ++ numL (fun _ => W) 1 ++ [10]).length ≤ 2000000 := by
      simp only [List.length_append, List.length_nil, List.length_singleton, ← Lib.size_eq]
      rw [show widW.size = 5 from rfl]; omega
    obtain ⟨L3, hL3⟩ : ∃ L3, L3 = L2 ++ widW.data.toList ++ numL (fun _ => W) 1 ++ [10] := ⟨_, rfl⟩
    rw [← hL3] at i5 e5
    have hl5 : w2.heap.size < w5.heap.size := by
      rcases i5 with h | h
      · exact bldAt_lt h
      · exact bldAt_lt h
    have ba5 : RowKit.Below w5.heap.size w5 (w5.alloc (.cells #[.int .i64 G] 3)) := (RowKit.Below.refl _ w5).alloc (Nat.le_refl _) _
    have q5 := line1_k w2.heap.size w2.heap.size L3 gapW G w5 (w5.alloc (.cells #[.int .i64 G] 3)) w5.heap.size (World.alloc_heap_new _ _) (by omega) ba5 i5 hs5 (by omega) (by rw [show gapW.size = 3 from rfl]; omega) ⟨by omega, by omega⟩ (TB.out _ (hb5.trans (ba5.mono hs5)))
    go_wp2_with (go_at_call 28; refine q5.mono ?_; rintro e w6 ⟨rfl, i6, b6⟩; refine Hid.out ?_)
    refine Lib.hid ?_
    have hb6 := (hb5.trans (ba5.mono hs5)).trans b6
    clear z00 z01 z02 z03 z04 q5
    obtain ⟨z00, z01, z02, z03, z04⟩ := C0.out _ hb6
    have hs6 : w2.heap.size ≤ w6.heap.size := hb6.size
    have e6 : (L3 ++ gapW.data.toList ++ numL (fun _ => G) 1 ++ [10]).length ≤ 3000000 := by
      simp only [List.length_append, List.length_nil, List.length_singleton, ← Lib.size_eq]
      rw [show gapW.size = 3 from rfl]; omega
    obtain ⟨L4, hL4⟩ : ∃ L4, L4 = L3 ++ gapW.data.toList ++ numL (fun _ => G) 1 ++ [10] := ⟨_, rfl⟩
    rw [← hL4] at i6 e6
    have hl6 : w2.heap.size < w6.heap.size := by
      rcases i6 with h | h
      · exact bldAt_lt h
      · exact bldAt_lt h
    have ba6 : RowKit.Below w6.heap.size w6 (w6.alloc (.cells #[.int .i64 L] 3)) := (RowKit.Below.refl _ w6).alloc (Nat.le_refl _) _
    have q6 := line1_k w2.heap.size w2.heap.size L4 lifW L w6 (w6.alloc (.cells #[.int .i64 L] 3)) w6.heap.size (World.alloc_heap_new _ _) (by omega) ba6 i6 hs6 (by omega) (by rw [show lifW.size = 4 from rfl]; omega) ⟨by omega, by omega⟩ (TB.out _ (hb6.trans (ba6.mono hs6)))
    go_wp2_with (go_at_call 28; refine q6.mono ?_; rintro e w7 ⟨rfl, i7, b7⟩; refine Hid.out ?_)
    refine Lib.hid ?_
    have hb7 := (hb6.trans (ba6.mono hs6)).trans b7
    clear z00 z01 z02 z03 z04 q6
    obtain ⟨z00, z01, z02, z03, z04⟩ := C0.out _ hb7
    have hs7 : w2.heap.size ≤ w7.heap.size := hb7.size
    have e7 : (L4 ++ lifW.data.toList ++ numL (fun _ => L) 1 ++ [10]).length ≤ 4000000 := by
      simp only [List.length_append, List.length_nil, List.length_singleton, ← Lib.size_eq]
      rw [show lifW.size = 4 from rfl]; omega
    obtain ⟨L5, hL5⟩ : ∃ L5, L5 = L4 ++ lifW.data.toList ++ numL (fun _ => L) 1 ++ [10] := ⟨_, rfl⟩
    rw [← hL5] at i7 e7
    have q8 := str_k w2.heap.size w2.heap.size L5 w7 i7 hs7
    go_wp2_with (go_at_call 29; refine q8.mono ?_; rintro e w8 ⟨rfl, b8⟩; refine Hid.out ?_)
    refine Lib.hid ?_
    go_wp2
    go_ret2
    refine ⟨?_, hw2.trans ((hb7.trans b8).mono (by omega))⟩
    rw [prSF, if_pos hz, ← prS_l, hz]
    simp only [List.nil_append, List.append_assoc, List.singleton_append, List.cons_append]
    rfl
  · go_wp2
    go_ret2
    refine ⟨?_, (RowKit.Below.refl _ w).alloc (Nat.le_refl _) _ |>.trans (b2.mono (by simp))⟩
    rw [prSF, if_neg hz]
    rfl
end Go.Abs
end
end
section
set_option maxRecDepth 100000
namespace Go.Abs
open Go Go.RowKit Go.Lib
theorem sys_open {w : World} {S : Nat → Prop} {nB : Nat} {B : Nat → Int} {nO : Nat} {O : Nat → Int} {W G L : Int} {v : Value} (h : RelC (rdArg w S) (sys nB B nO O W G L) v) : ∃ X c Y c', v = .agg #[.slice X nB c, .slice Y nO c', .int .i64 W, .int .i64 G, .int .i64 L] ∧ nB ≤ c ∧ nO ≤ c' ∧
    (∀ i, i < nB → ∃ a, X = some a ∧ w.cell? (a.add i) = some (.int .i64 (B i))) ∧ (∀ i, i < nO → ∃ a, Y = some a ∧ w.cell? (a.add i) = some (.int .i64 (O i))) := by
  have lst : ∀ {n : Nat} {f : Nat → Int} {u : Value}, RelC (rdArg w S) (nums n f) u → ∃ A c, u = .slice A n c ∧ n ≤ c ∧ ∀ i, i < n → ∃ a, A = some a ∧ w.cell? (a.add i) = some (.int .i64 (f i)) := fun {n f u} h => by
    cases h with
    | lst U hc ha hn ho hr =>
      rename_i A c
      refine ⟨A, c, rfl, hc, fun i hi => ?_⟩
      obtain ⟨a, e, hrd⟩ := ha i 0 _ hi rfl
      have h1 := hr i 0 _ hi rfl
      have h2 := ho i 0 _ hi rfl
      generalize U i 0 = y at hrd h1 h2
      cases h1
      have := rdw_cell hrd.1 h2
      simp only [List.length_cons, List.length_nil, Nat.zero_add, Nat.mul_one, Nat.add_zero] at this
      exact ⟨a, e, this⟩
  cases h with
  | agg hs hr =>
    rename_i vs
    obtain ⟨⟨l⟩, rfl⟩ : ∃ v : Array Value, vs = v := ⟨vs, rfl⟩
    match l, hs with
    | [u0, u1, u2, u3, u4], _ =>
      obtain ⟨A, c, rfl, hc, h0⟩ := lst (hr 0 _ _ rfl rfl)
      obtain ⟨A', c', rfl, hc', h1⟩ := lst (hr 1 _ _ rfl rfl)
      have e2 := (hr 2 _ _ rfl rfl).val_eq
      have e3 := (hr 3 _ _ rfl rfl).val_eq
      have e4 := (hr 4 _ _ rfl rfl).val_eq
      subst e2 e3 e4
      exact ⟨A, c, A', c', rfl, hc, hc', h0, h1⟩
theorem PrintS_c (nB : Nat) (B : Nat → Int) (nO : Nat) (O : Nat → Int) (W G L : Int) : FnC prog 15 [sys nB B nO O W G L] (.tup [dS (prSF nB B nO O W G L), dI (sysE nB B nO O W G L)]) := by
  refine ⟨⟨_, Go.Proofs.Tryd.func15, rfl, by kernel_rfl⟩, fun S w vs hs hv hg => ?_⟩
  obtain ⟨u, rfl, h1⟩ := args1 hs hv
  obtain ⟨X, c, Y, c', rfl, hc, hc', hX, hY⟩ := sys_open h1
  have htab := tab_of hg
  have h3 : 5 < w.heap.size := by
    have := World.var?_cell gTab htab 0
    exact World.block_lt_of_cell? (u := .int .u64 1) _ ⟨5, 0, none⟩ (this.trans rfl)
  refine (print_k nB B nO O W G L X Y c c' w hc hc' (fun V hV => ?_) h3 htab hX hY).mono ?_
  · have hr : RelC (rdArg V fun k => k < w.heap.size) (sys nB B nO O W G L) (.agg #[.slice X nB c, .slice Y nO c', .int .i64 W, .int .i64 G, .int .i64 L]) := h1.mono (fun a u h => ⟨rdw_of (hV.block _ (rdw_lt h.1)) h.1, rdw_lt h.1⟩) (fun _ h => h) fun _ _ h => h.elim
    have hgl : GlobOK (rdArg V fun k => k < w.heap.size) := hg.mono fun a u h => ⟨rdw_of (hV.block _ (rdw_lt h.1)) h.1, rdw_lt h.1⟩
    refine ((system_c nB B nO O W G L).2 _ V #[.agg #[.slice X nB c, .slice Y nO c', .int .i64 W, .int .i64 G, .int .i64 L]] rfl (fun j d v hj hv => ?_) hgl).mono ?_
    · match j, hj, hv with
      | 0, hj, hv => cases hj; cases hv; exact hr
    · rintro e W' ⟨v, rfl, hv, hb⟩
      cases hv
      exact ⟨rfl, hb.lib⟩
  · rintro e w' ⟨rfl, hb⟩
    exact ⟨_, rfl, tup2 (.val _) (.val _), below_of hb⟩
end Go.Abs
end
