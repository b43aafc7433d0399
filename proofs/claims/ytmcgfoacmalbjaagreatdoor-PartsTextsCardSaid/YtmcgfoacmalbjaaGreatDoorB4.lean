/- Print: the text of a scaffold. Print: the text of a scaffold. -/
import Derived.Test.YtmcgfoacmalbjaaGreatDoorB2
import Derived.Test.YtmcgfoacmalbjaaGreatDoorK65
import Derived.Lib.SliceRun
section
set_option maxRecDepth 100000
namespace Go.Abs
open Go Go.RowKit Go.Lib
attribute [local go_sem] Oper.semAt_some
theorem bldX : Go.Proofs.Builder.Extra prog Go.Proofs.Tryz.strB_ren := {
  sizeBuilder := by kernel_rfl
  liesBuilder := by kernel_rfl
  t5 := Go.Proofs.Tryz.underlying5
  a5 := Go.Proofs.Tryz.isAgg5
  z5 := Go.Proofs.Tryz.sizeOf5
  v5 := Go.Proofs.Tryz.zeroValue5
  infoByte := by kernel_rfl
  cellsByte := by kernel_rfl
  sizeByte := by kernel_rfl
  neB5 := by decide }
theorem str_k (B b : Nat) (l : List UInt8) (w : World) (h : Lib.IsBuilderF 60 5 B b (Lib.byteCells l) w) (hBw : B ≤ w.heap.size) :
    Calls prog 21 #[.pointer (some ⟨b, 0, none⟩)] w fun e w' => e = .returned (.string ⟨l.toArray⟩) ∧ RowKit.Below B w w' := by
  refine (Go.Proofs.Any.Builder_String_any_k Go.Proofs.Tryz.strB bldX B b l w h hBw).mono ?_
  rintro e w' ⟨he, _, hb, _⟩
  exact ⟨he, hb⟩
def tri (x y z : Int) : Nat → Int
  | 0 => x
  | 1 => y
  | _ => z
theorem line_l (l : List UInt8) (w : ByteArray) (x y z : Int) (t : ByteArray) (w' : ByteArray) (ht : t.data.toList = l) (hw : w'.data.toList = w.data.toList ++ [32]) :
    l ++ w.data.toList ++ numL (tri x y z) 3 ++ [10] = (prL t w' x y z).data.toList := by
  unfold prL
  simp only [ByteArray.data_append, Array.toList_append, ht, hw, numL, tri, List.nil_append, List.append_assoc, List.cons_append]
theorem line3_k (B b g : Nat) (t word word' : ByteArray) (x y z : Int) (cs : Array Value) (fr : Nat × Nat) (w : World) (h : Lib.IsBuilderF 60 5 B b (Lib.byteCells t.data.toList) w) (hBw : B ≤ w.heap.size) (h3 : 3 < B)
    (hlen : t.size + word.size ≤ 1000000000000) (hx : inC x = true) (hy : inC y = true) (hz : inC z = true) (hg : w.heap[g]? = some (.cells cs 3 fr)) (hgb : g ≠ b) (hcs : cs = #[.int .i64 x, .int .i64 y, .int .i64 z])
    (htab : Lib.TabIs prog w "internal/strconv.uint64pow10" .u64 Lib.pow10Tab) (hw : word'.data.toList = word.data.toList ++ [32]) :
    Calls prog 20 #[.pointer (some ⟨b, 0, none⟩), .string word, .slice (some ⟨g, 0, none⟩) 3 3] w fun e w' => e = .returned (.tuple #[]) ∧ Lib.IsBuilderF 60 5 B b (Lib.byteCells (prL t word' x y z).data.toList) w' ∧ RowKit.Below B w w' ∧ Lib.OthersKept 5 (some b) w w' := by
  have ix : -1000000 ≤ x ∧ x ≤ 1000000 := of_decide_eq_true hx
  have iy : -1000000 ≤ y ∧ y ≤ 1000000 := of_decide_eq_true hy
  have iz : -1000000 ≤ z ∧ z ≤ 1000000 := of_decide_eq_true hz
  refine (line_k B b g t.data.toList word (tri x y z) cs fr w h hBw h3 (by rw [← Lib.size_eq]; exact hlen) (fun k hk => ?_) hg hgb (fun k hk => ?_) htab).mono ?_
  · match k, hk with
    | 0, _ => show _ ≤ x ∧ x ≤ _; omega
    | 1, _ => show _ ≤ y ∧ y ≤ _; omega
    | 2, _ => show _ ≤ z ∧ z ≤ _; omega
  · subst hcs
    match k, hk with
    | 0, _ => rfl
    | 1, _ => rfl
    | 2, _ => rfl
  · rintro e w' ⟨he, h1, h2, h3⟩
    rw [line_l t.data.toList word x y z t word' rfl hw] at h1
    exact ⟨he, h1, h2, h3⟩
end Go.Abs
end
section
set_option maxRecDepth 100000
namespace Go.Abs
open Go Go.RowKit Go.Lib
attribute [local go_sem] Oper.semAt_some
theorem add_blk (a : Addr) (i : Nat) : (a.add i).block = a.block := by unfold Addr.add; split <;> rfl
theorem add_add' (a : Addr) (i j : Nat) : (a.add i).add j = a.add (i + j) := by
  unfold Addr.add
  by_cases h1 : i = 0
  · subst h1; simp
  · by_cases h2 : j = 0
    · subst h2; simp [h1]
    · simp [h1, h2, Nat.add_assoc]
theorem scf_open {w : World} {S : Nat → Prop} {s : Scf} {v : Value} (h : RelC (rdArg w S) (scfD s) v) : ∃ A c A' c', v = .agg #[.slice A s.nN c, .slice A' s.nM c'] ∧ s.nN ≤ c ∧ s.nM ≤ c' ∧
    (∀ i, i < s.nN → ∃ a, A = some a ∧ w.cell? (a.add (i * 3)) = some (.int .i64 (s.X i)) ∧ w.cell? (a.add (i * 3 + 1)) = some (.int .i64 (s.Y i)) ∧ w.cell? (a.add (i * 3 + 2)) = some (.int .i64 (s.Z i))) ∧
    (∀ i, i < s.nM → ∃ a, A' = some a ∧ w.cell? (a.add (i * 3)) = some (.int .i64 (s.K i)) ∧ w.cell? (a.add (i * 3 + 1)) = some (.int .i64 (s.A i)) ∧ w.cell? (a.add (i * 3 + 2)) = some (.int .i64 (s.B i))) := by
  have lst : ∀ {n : Nat} {f0 f1 f2 : Nat → Int} {u : Value}, RelC (rdArg w S) (.lst n [fun i => dI (f0 i), fun i => dI (f1 i), fun i => dI (f2 i)]) u → ∃ A c, u = .slice A n c ∧ n ≤ c ∧ ∀ i, i < n → ∃ a, A = some a ∧ w.cell? (a.add (i * 3)) = some (.int .i64 (f0 i)) ∧ w.cell? (a.add (i * 3 + 1)) = some (.int .i64 (f1 i)) ∧ w.cell? (a.add (i * 3 + 2)) = some (.int .i64 (f2 i)) := fun {n f0 f1 f2 u} h => by
    cases h with
    | lst U hc ha hn ho hr =>
      rename_i A c
      refine ⟨A, c, rfl, hc, fun i hi => ?_⟩
      have get : ∀ (j : Nat) (f : Nat → DV) (x : Int), [fun i => dI (f0 i), fun i => dI (f1 i), fun i => dI (f2 i)][j]? = some f → f i = dI x → ∃ a, A = some a ∧ w.cell? (a.add (i * 3 + j)) = some (.int .i64 x) := fun j f x hj hf => by
        obtain ⟨a, e, hrd⟩ := ha i j f hi hj
        have h1 := hr i j f hi hj
        have h2 := ho i j f hi hj
        rw [hf] at h1
        generalize U i j = y at hrd h1 h2
        cases h1
        exact ⟨a, e, rdw_cell hrd.1 h2⟩
      obtain ⟨a, e, h0⟩ := get 0 _ _ rfl rfl
      obtain ⟨a1, e1, h1⟩ := get 1 _ _ rfl rfl
      obtain ⟨a2, e2, h2⟩ := get 2 _ _ rfl rfl
      rw [e] at e1 e2
      cases e1
      cases e2
      exact ⟨a, e, h0, h1, h2⟩
  cases h with
  | agg hs hr =>
    rename_i vs
    obtain ⟨⟨l⟩, rfl⟩ : ∃ v : Array Value, vs = v := ⟨vs, rfl⟩
    match l, hs with
    | [u0, u1], _ =>
      obtain ⟨A, c, rfl, hc, h0⟩ := lst (hr 0 _ _ rfl rfl)
      obtain ⟨A', c', rfl, hc', h1⟩ := lst (hr 1 _ _ rfl rfl)
      exact ⟨A, c, A', c', rfl, hc, hc', h0, h1⟩
theorem bldAt_lt {T e : TypeId} {B b : Nat} {p : Value} {bs : List Value} {w : World} (h : Lib.BuilderAtF T e B b p bs w) : b < w.heap.size := by
  obtain ⟨_, v, hb, _⟩ := h
  exact (Array.getElem?_eq_some_iff.1 hb).1
def prF (s : Scf) : ByteArray := if chkE s = 0 then prM s s.nM else ⟨#[]⟩
set_option maxHeartbeats 1000000 in
theorem print_k (s : Scf) (A A' : Option Addr) (c c' : Nat) (w : World) (hchk : ∀ W : World, RowKit.Below w.heap.size w W → Calls prog 19 #[.agg #[.slice A s.nN c, .slice A' s.nM c']] W fun e W' => e = .returned (.int .i64 (chkE s)) ∧ RowKit.Below W.heap.size W W')
    (h3 : 3 < w.heap.size) (htab : Lib.TabIs prog w "internal/strconv.uint64pow10" .u64 Lib.pow10Tab)
    (hN : ∀ i, i < s.nN → ∃ a, A = some a ∧ w.cell? (a.add (i * 3)) = some (.int .i64 (s.X i)) ∧ w.cell? (a.add (i * 3 + 1)) = some (.int .i64 (s.Y i)) ∧ w.cell? (a.add (i * 3 + 2)) = some (.int .i64 (s.Z i)))
    (hM : ∀ i, i < s.nM → ∃ a, A' = some a ∧ w.cell? (a.add (i * 3)) = some (.int .i64 (s.K i)) ∧ w.cell? (a.add (i * 3 + 1)) = some (.int .i64 (s.A i)) ∧ w.cell? (a.add (i * 3 + 2)) = some (.int .i64 (s.B i))) :
    Calls prog 6 #[.agg #[.slice A s.nN c, .slice A' s.nM c']] w fun e w' => e = .returned (.tuple #[.string (prF s), .int .i64 (chkE s)]) ∧ RowKit.Below w.heap.size w w' := by
  have mixed := hmix
  have HN : Hid (∀ i, i < s.nN → ∃ a, A = some a ∧ w.cell? (a.add (i * 3)) = some (.int .i64 (s.X i)) ∧ w.cell? (a.add (i * 3 + 1)) = some (.int .i64 (s.Y i)) ∧ w.cell? (a.add (i * 3 + 2)) = some (.int .i64 (s.Z i))) := Lib.hid hN
  have HM : Hid (∀ i, i < s.nM → ∃ a, A' = some a ∧ w.cell? (a.add (i * 3)) = some (.int .i64 (s.K i)) ∧ w.cell? (a.add (i * 3 + 1)) = some (.int .i64 (s.A i)) ∧ w.cell? (a.add (i * 3 + 2)) = some (.int .i64 (s.B i))) := Lib.hid hM
  have HC : Hid (∀ W : World, RowKit.Below w.heap.size w W → Calls prog 19 #[.agg #[.slice A s.nN c, .slice A' s.nM c']] W fun e W' => e = .returned (.int .i64 (chkE s)) ∧ RowKit.Below W.heap.size W W') := Lib.hid hchk
  clear hN hM hchk
  go_enter Go.Proofs.Tryz.func6, Go.Proofs.Tryz.ntmps6
  go_wp2_with (go_at_call 19; refine (HC.out _ ((RowKit.Below.refl _ w).alloc (Nat.le_refl _) _)).mono ?_; rintro e w2 ⟨rfl, b2⟩; refine Hid.out ?_)
  refine Lib.hid ?_
  have hbx : w2.heap[w.heap.size]? = some (.cells #[.slice A s.nN c, .slice A' s.nM c'] 25 (0, 0)) := by
    rw [b2.block _ (by simp)]; exact World.alloc_heap_new w _
  have hx0 : w2.cell? ⟨w.heap.size, 0, none⟩ = some (.slice A s.nN c) := by rw [Lib.cell_of_heap hbx]; rfl
  have hx1 : w2.cell? ⟨w.heap.size, 1, none⟩ = some (.slice A' s.nM c') := by rw [Lib.cell_of_heap hbx]; rfl
  have hlt : w.heap.size < w2.heap.size := (Array.getElem?_eq_some_iff.1 hbx).1
  have hy0 := Lib.cell?_alloc_some (.cells #[.pointer none, .slice none 0 0] 60) hx0
  have hy1 := Lib.cell?_alloc_some (.cells #[.pointer none, .slice none 0 0] 60) hx1
  by_cases hz : chkE s = 0
  · rw [hz]
    go_wp2
    have hc := chk_facts hz
    have hN0 := hc.nN
    have hM0 := hc.nM
    clear hy0 hy1
    go_loopw [18] (fun i wr => ∃ k : Nat, i = .int .i64 (k : Int) ∧ k ≤ s.nN ∧ Lib.IsBuilderF 60 5 w2.heap.size w2.heap.size (Lib.byteCells (prN s k).data.toList) wr ∧ RowKit.Below w2.heap.size w2 wr)
      (fun i _ => (s.nN + 1 - Lib.intOf i).toNat)
    case atStart =>
      refine ⟨0, rfl, by omega, ?_, (RowKit.Below.refl _ w2).alloc (Nat.le_refl _) _⟩
      exact Lib.IsBuilderF.of (Lib.fresh_isBuilder 60 5 w2)
    case round =>
      obtain ⟨k, rfl, hk, hI, hb⟩ := hrel
      by_cases hlt2 : k < s.nN
      · obtain ⟨a, rfl, c0, c1, c2⟩ := HN.out k hlt2
        have hw : RowKit.Below w.heap.size w wr := ((RowKit.Below.refl _ w).alloc (Nat.le_refl _) _ |>.trans (b2.mono (by simp))).trans (hb.mono (by omega))
        have hal : a.block < w.heap.size := by
          have := World.block_lt_of_cell? _ _ c0
          rwa [add_blk] at this
        have d0 := (hw.cell (p := a.add (k * 3)) (by rw [add_blk]; exact hal)).trans c0
        have d1 := (hw.cell (p := a.add (k * 3 + 1)) (by rw [add_blk]; exact hal)).trans c1
        have d2 := (hw.cell (p := a.add (k * 3 + 2)) (by rw [add_blk]; exact hal)).trans c2
        rw [← add_add', show ∀ x : Addr, x.add 1 = ⟨x.block, x.off + 1, none⟩ from fun _ => rfl] at d1
        rw [← add_add', show ∀ x : Addr, x.add 2 = ⟨x.block, x.off + 2, none⟩ from fun _ => rfl] at d2
        clear c0 c1 c2 HN HM HC
        have hsr : w2.heap.size ≤ wr.heap.size := Nat.le_trans (Nat.le_refl _) hb.size
        have hbl : w2.heap.size < wr.heap.size := by
          rcases hI with hI | hI
          · exact bldAt_lt hI
          · exact bldAt_lt hI
        have hwb : RowKit.Below wr.heap.size wr ((wr.alloc (.cells #[.int .i64 (s.X k), .int .i64 (s.Y k), .int .i64 (s.Z k)] 62)).alloc (.cells #[.int .i64 (s.X k), .int .i64 (s.Y k), .int .i64 (s.Z k)] 3)) := ((RowKit.Below.refl wr.heap.size wr).alloc (Nat.le_refl _) _).alloc (by simp) _
        have hgn : ((wr.alloc (.cells #[.int .i64 (s.X k), .int .i64 (s.Y k), .int .i64 (s.Z k)] 62)).alloc (.cells #[.int .i64 (s.X k), .int .i64 (s.Y k), .int .i64 (s.Z k)] 3)).heap[wr.heap.size + 1]? = some (.cells #[.int .i64 (s.X k), .int .i64 (s.Y k), .int .i64 (s.Z k)] 3 (0, 0)) := by
          have := World.alloc_heap_new (wr.alloc (.cells #[.int .i64 (s.X k), .int .i64 (s.Y k), .int .i64 (s.Z k)] 62)) (.cells #[.int .i64 (s.X k), .int .i64 (s.Y k), .int .i64 (s.Z k)] 3)
          rwa [World.size_alloc] at this
        have hle : (prN s k).size + 4 ≤ 1000000000000 := by
          have := prN_size hc k hk
          omega
        have hln := line3_k w2.heap.size w2.heap.size (wr.heap.size + 1) (prN s k) ⟨#[110, 111, 100, 101]⟩ nodB (s.X k) (s.Y k) (s.Z k) _ _ _ (bld_below hI hwb) (Nat.le_trans hsr hwb.size) (by omega) hle ((hc.node k hlt2).1.1) ((hc.node k hlt2).1.2.1) ((hc.node k hlt2).1.2.2) hgn (by omega) rfl (var?_below (hw.trans (hwb.mono (by omega))) gTab h3 htab) rfl
        have hbw := hb.trans (hwb.mono hsr)
        clear hgn hle hwb
        go_wp2_with (go_at_call 20; refine hln.mono ?_; rintro e w3 ⟨rfl, i3, b3, k3⟩; refine Hid.out ?_)
        refine Lib.hid ?_
        go_wp2
        go_roundw
        case rel =>
          exact ⟨k + 1, by simp, by omega, i3, hbw.trans b3⟩
        case measure =>
          simp [Lib.intOf]
          omega
      · obtain rfl : k = s.nN := by omega
        have hx := (hb.cell (p := ⟨w.heap.size, 1, none⟩) hlt).trans hx1
        go_wp2
        go_loopw [34] (fun i wr => ∃ k : Nat, i = .int .i64 (k : Int) ∧ k ≤ s.nM ∧ Lib.IsBuilderF 60 5 w2.heap.size w2.heap.size (Lib.byteCells (prM s k).data.toList) wr ∧ RowKit.Below w2.heap.size w2 wr)
          (fun i _ => (s.nM + 1 - Lib.intOf i).toNat)
        case atStart => exact ⟨0, rfl, by omega, hI, hb⟩
        case round =>
          clear hx hI hb hk
          obtain ⟨k, rfl, hk, hI, hb⟩ := hrel
          have hw : RowKit.Below w.heap.size w wr := ((RowKit.Below.refl _ w).alloc (Nat.le_refl _) _ |>.trans (b2.mono (by simp))).trans (hb.mono (by omega))
          by_cases hlt3 : k < s.nM
          · obtain ⟨a, rfl, c0, c1, c2⟩ := HM.out k hlt3
            have hal : a.block < w.heap.size := by
              have := World.block_lt_of_cell? _ _ c0
              rwa [add_blk] at this
            have d0 := (hw.cell (p := a.add (k * 3)) (by rw [add_blk]; exact hal)).trans c0
            have d1 := (hw.cell (p := a.add (k * 3 + 1)) (by rw [add_blk]; exact hal)).trans c1
            have d2 := (hw.cell (p := a.add (k * 3 + 2)) (by rw [add_blk]; exact hal)).trans c2
            rw [← add_add', show ∀ x : Addr, x.add 1 = ⟨x.block, x.off + 1, none⟩ from fun _ => rfl] at d1
            rw [← add_add', show ∀ x : Addr, x.add 2 = ⟨x.block, x.off + 2, none⟩ from fun _ => rfl] at d2
            clear c0 c1 c2 HN HM HC
            have hsr : w2.heap.size ≤ wr.heap.size := Nat.le_trans (Nat.le_refl _) hb.size
            have hbl : w2.heap.size < wr.heap.size := by
              rcases hI with hI | hI
              · exact bldAt_lt hI
              · exact bldAt_lt hI
            have hwb : RowKit.Below wr.heap.size wr ((wr.alloc (.cells #[.int .i64 (s.K k), .int .i64 (s.A k), .int .i64 (s.B k)] 65)).alloc (.cells #[.int .i64 (s.K k), .int .i64 (s.A k), .int .i64 (s.B k)] 3)) := ((RowKit.Below.refl wr.heap.size wr).alloc (Nat.le_refl _) _).alloc (by simp) _
            have hgn : ((wr.alloc (.cells #[.int .i64 (s.K k), .int .i64 (s.A k), .int .i64 (s.B k)] 65)).alloc (.cells #[.int .i64 (s.K k), .int .i64 (s.A k), .int .i64 (s.B k)] 3)).heap[wr.heap.size + 1]? = some (.cells #[.int .i64 (s.K k), .int .i64 (s.A k), .int .i64 (s.B k)] 3 (0, 0)) := by
              have := World.alloc_heap_new (wr.alloc (.cells #[.int .i64 (s.K k), .int .i64 (s.A k), .int .i64 (s.B k)] 65)) (.cells #[.int .i64 (s.K k), .int .i64 (s.A k), .int .i64 (s.B k)] 3)
              rwa [World.size_alloc] at this
            have hle : (prM s k).size + 6 ≤ 1000000000000 := by
              have := prM_size hc k hk
              omega
            have hln := line3_k w2.heap.size w2.heap.size (wr.heap.size + 1) (prM s k) ⟨#[109, 101, 109, 98, 101, 114]⟩ memB (s.K k) (s.A k) (s.B k) _ _ _ (bld_below hI hwb) (Nat.le_trans hsr hwb.size) (by omega) hle ((decide_eq_true (by have := hc.kind k hlt3; omega))) ((decide_eq_true (by have := hc.ends k hlt3; omega))) ((decide_eq_true (by have := hc.ends k hlt3; omega))) hgn (by omega) rfl (var?_below (hw.trans (hwb.mono (by omega))) gTab h3 htab) rfl
            have hbw := hb.trans (hwb.mono hsr)
            clear hgn hle hwb
            go_wp2_with (go_at_call 20; refine hln.mono ?_; rintro e w3 ⟨rfl, i3, b3, k3⟩; refine Hid.out ?_)
            refine Lib.hid ?_
            go_wp2
            go_roundw
            case rel =>
              exact ⟨k + 1, by simp, by omega, i3, hbw.trans b3⟩
            case measure =>
              simp [Lib.intOf]
              omega
          · obtain rfl : k = s.nM := by omega
            have hsr : w2.heap.size ≤ wr.heap.size := hb.size
            have hst := str_k w2.heap.size w2.heap.size _ wr hI hsr
            go_wp2_with (go_at_call 21; refine hst.mono ?_; rintro e w3 ⟨rfl, b3⟩; refine Hid.out ?_)
            refine Lib.hid ?_
            go_wp2
            go_ret2
            refine ⟨?_, hw.trans (b3.mono (by omega))⟩
            rw [prF, if_pos hz, hz]
            rfl
  · go_wp2
    go_ret2
    refine ⟨?_, (RowKit.Below.refl _ w).alloc (Nat.le_refl _) _ |>.trans (b2.mono (by simp))⟩
    rw [prF, if_neg hz]
    rfl
theorem Print_c (s : Scf) : FnC prog 6 [scfD s] (.tup [dS (prF s), dI (chkE s)]) := by
  refine ⟨⟨_, Go.Proofs.Tryz.func6, rfl, by kernel_rfl⟩, fun S w vs hs hv hg => ?_⟩
  obtain ⟨u, rfl, h1⟩ := args1 hs hv
  obtain ⟨A, c, A', c', rfl, _, _, hN, hM⟩ := scf_open h1
  have htab := tab_of hg
  have h3 : 3 < w.heap.size := by
    have := World.var?_cell gTab htab 0
    exact World.block_lt_of_cell? (u := .int .u64 1) _ ⟨3, 0, none⟩ (this.trans rfl)
  refine (print_k s A A' c c' w (fun W hW => ?_) h3 htab hN hM).mono ?_
  · have hr : RelC (rdArg W fun k => k < w.heap.size) (scfD s) (.agg #[.slice A s.nN c, .slice A' s.nM c']) := h1.mono (fun a u h => ⟨rdw_of (hW.block _ (rdw_lt h.1)) h.1, rdw_lt h.1⟩) (fun _ h => h) fun _ _ h => h.elim
    have hgl : GlobOK (rdArg W fun k => k < w.heap.size) := hg.mono fun a u h => ⟨rdw_of (hW.block _ (rdw_lt h.1)) h.1, rdw_lt h.1⟩
    refine ((checkP_c s).2 _ W #[.agg #[.slice A s.nN c, .slice A' s.nM c']] rfl (fun j d v hj hv => ?_) hgl).mono ?_
    · match j, hj, hv with
      | 0, hj, hv => cases hj; cases hv; exact hr
    · rintro e W' ⟨v, rfl, hv, hb⟩
      cases hv
      exact ⟨rfl, hb.lib⟩
  · rintro e w' ⟨rfl, hb⟩
    exact ⟨_, rfl, tup2 (.val _) (.val _), below_of hb⟩
end Go.Abs
end
