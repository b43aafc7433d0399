/- Contracts. -/
import Derived.Test.YtmcgfoacmalbjaaGreatDoorK60
import Derived.Test.YtmcgfoacmalbjaaGreatDoorK11
set_option maxRecDepth 100000
namespace Go.Abs
open Go
def prL (t w : ByteArray) (x y z : Int) : ByteArray := t ++ w ++ decB x ++ ⟨#[32]⟩ ++ decB y ++ ⟨#[32]⟩ ++ decB z ++ ⟨#[10]⟩
def nodB : ByteArray := ⟨#[110, 111, 100, 101, 32]⟩
def memB : ByteArray := ⟨#[109, 101, 109, 98, 101, 114, 32]⟩
def prN (s : Scf) : Nat → ByteArray
  | 0 => ⟨#[]⟩
  | k + 1 => prL (prN s k) nodB (s.X k) (s.Y k) (s.Z k)
def prM (s : Scf) : Nat → ByteArray
  | 0 => prN s s.nN
  | k + 1 => prL (prM s k) memB (s.K k) (s.A k) (s.B k)
theorem dig_len : ∀ u : Nat, (Lib.decDigits u).length ≤ u + 1 := fun u => by
  induction u using Nat.strongRecOn with
  | _ u ih =>
    rw [Lib.decDigits]
    split
    · rw [List.length_singleton]; omega
    · rename_i h
      have := ih (u / 10) (by omega)
      rw [List.length_append, List.length_singleton]
      omega
theorem decB_size (n : Int) : (decB n).size ≤ n.natAbs + 2 := by
  show (Lib.itoa n).toArray.size ≤ _
  rw [List.size_toArray, Lib.itoa]
  have h1 := dig_len n.natAbs
  have h2 := dig_len n.toNat
  split
  · rw [List.length_cons]; omega
  · omega
theorem prL_size {t w : ByteArray} {x y z : Int} (hw : w.size ≤ 10) (hx : x.natAbs ≤ 1000000) (hy : y.natAbs ≤ 1000000) (hz : z.natAbs ≤ 1000000) : (prL t w x y z).size ≤ t.size + 4000000 := by
  have a := decB_size x
  have b := decB_size y
  have c := decB_size z
  unfold prL
  simp only [ByteArray.size_append]
  rw [show ByteArray.size ⟨#[32]⟩ = 1 from rfl, show ByteArray.size ⟨#[10]⟩ = 1 from rfl]
  omega
theorem prN_size {s : Scf} (hc : ScfOK s) : ∀ k, k ≤ s.nN → (prN s k).size ≤ 4000000 * k
  | 0, _ => Nat.le_refl _
  | k + 1, h => by
    have ih := prN_size hc k (by omega)
    obtain ⟨⟨x, y, z⟩, _⟩ := hc.node k (by omega)
    have x := inC_bd x
    have y := inC_bd y
    have z := inC_bd z
    have := prL_size (t := prN s k) (w := nodB) (x := s.X k) (y := s.Y k) (z := s.Z k) (by decide) (by omega) (by omega) (by omega)
    rw [prN]
    omega
theorem prM_size {s : Scf} (hc : ScfOK s) : ∀ k, k ≤ s.nM → (prM s k).size ≤ 4000000 * (s.nN + k)
  | 0, _ => prN_size hc s.nN (Nat.le_refl _)
  | k + 1, h => by
    have ih := prM_size hc k (by omega)
    have x := hc.kind k (by omega)
    have y := hc.ends k (by omega)
    have hn := hc.nN
    have := prL_size (t := prM s k) (w := memB) (x := s.K k) (y := s.A k) (z := s.B k) (by decide) (by omega) (by omega) (by omega)
    rw [prM]
    omega
def lnP (s w : ByteArray) : Bool := decide (cutN s 32 = 4) && ((cutS s 32 0).toList == w.toList)
def lnK (s w : ByteArray) : Nat → Bool
  | 0 => lnP s w
  | k + 1 => lnK s w k && nuB (cutS s 32 (k + 1)) 7
def lnX (s w : ByteArray) (j : Nat) : Int := if lnK s w (j + 1) = true then nuV (cutS s 32 (j + 1)) 7 else 0
theorem ext_size (s : ByteArray) (i j : Nat) : (s.extract i j).size ≤ s.size := by
  rw [ByteArray.size_extract]
  omega
theorem cuS_size (s : ByteArray) (c : Int) : ∀ k q, (cuS s c k q).size ≤ s.size
  | 0, q => Nat.zero_le _
  | k + 1, q => by
    rw [cuS]
    split
    · exact ext_size _ _ _
    · exact cuS_size s c k q
theorem cutS_size (s : ByteArray) (c : Int) (q : Nat) : (cutS s c q).size ≤ s.size := by
  unfold cutS
  split
  · exact cuS_size _ _ _ _
  · exact ext_size _ _ _
theorem ln_no {s w : ByteArray} {j : Nat} (h : lnK s w j = false) : ∀ {k : Nat}, j ≤ k → lnK s w k = false
  | 0, hk => by obtain rfl : j = 0 := by omega
                exact h
  | k + 1, hk => by
    by_cases e : j = k + 1
    · subst e; exact h
    · rw [lnK, ln_no h (by omega)]; rfl
theorem lnX_no {s w : ByteArray} {i j : Nat} (h : lnK s w i = false) (hj : i ≤ j + 1) : 0 = lnX s w j := by rw [lnX, ln_no h hj, if_neg (by decide)]
theorem lnX_yes {s w : ByteArray} {j : Nat} (h : lnK s w (j + 1) = true) : nuV (cutS s 32 (j + 1)) 7 = lnX s w j := by rw [lnX, if_pos h]
noncomputable def A9_printR_c (s : Scf) : Ann := { orc := [(6, [(4, .res fun q => dS (decB (aI q 0))), (9, .res fun q => dS (decB (aI q 0))), (14, .res fun q => dS (decB (aI q 0)))]), (11, [(4, .res fun q => dS (decB (aI q 0))), (9, .res fun q => dS (decB (aI q 0))), (14, .res fun q => dS (decB (aI q 0)))])], loops := [(0, { ι := Nat, keep := [1], boxes := [1], ts := fun _ i => [(4, dI (i : Int)), (3, dS (prN s i))], inv := fun _ i => i ≤ s.nN, mu := fun _ i => s.nN - i, rd := fun _ σ => (iOf (σ.get 4)).toNat }), (2, { ι := Nat, keep := [1], boxes := [1], ts := fun _ i => [(6, dI (i : Int)), (3, dS (prM s i))], inv := fun _ i => i ≤ s.nM, mu := fun _ i => s.nM - i, rd := fun _ σ => (iOf (σ.get 6)).toNat })], cuts := [] }
noncomputable abbrev printR_cr0 (s : Scf) (r : List Prop) : List Prop := (s.nN = s.nN) :: (∀ (i : Nat), i < s.nN → s.X i = s.X i) :: (∀ (i : Nat), i < s.nN → s.Y i = s.Y i) :: (∀ (i : Nat), i < s.nN → s.Z i = s.Z i) :: (s.nM = s.nM) :: (∀ (i : Nat), i < s.nM → s.K i = s.K i) :: (∀ (i : Nat), i < s.nM → s.A i = s.A i) :: (∀ (i : Nat), i < s.nM → s.B i = s.B i) :: r
theorem printR_c (s : Scf) (hc : ScfOK s) : FnC prog 9 [scfD s] (dS (prM s s.nM)) := by
  refine FnC_owed hmix (A9_printR_c s) (V := .loop Nat (fun a => a ≤ s.nN) (0:Int).toNat (((0:Int) = (↑(0:Int).toNat : Int)) :: ((ByteArray.mk #[] = prN s (0:Int).toNat) :: (printR_cr0 s []))) fun i => .ite (decide ((i:Int) < (s.nN:Int))) (.need [(0:Int) ≤ (i:Int) ∧ (i:Int) < (s.nN:Int)] (.need [ByteArray.size (prN s i) + ByteArray.size (ByteArray.mk #[(110 : UInt8), (111 : UInt8), (100 : UInt8), (101 : UInt8), (32 : UInt8)]) ≤ 9223372036854775807, FnC prog 29 [(dI (s.X (i:Int).toNat))] (.val (.string (decB (s.X (i:Int).toNat)))), ByteArray.size (prN s i ++ ByteArray.mk #[(110 : UInt8), (111 : UInt8), (100 : UInt8), (101 : UInt8), (32 : UInt8)]) + ByteArray.size (decB (s.X (i:Int).toNat)) ≤ 9223372036854775807, ByteArray.size (prN s i ++ ByteArray.mk #[(110 : UInt8), (111 : UInt8), (100 : UInt8), (101 : UInt8), (32 : UInt8)] ++ decB (s.X (i:Int).toNat)) + ByteArray.size (ByteArray.mk #[(32 : UInt8)]) ≤ 9223372036854775807, FnC prog 29 [(dI (s.Y (i:Int).toNat))] (.val (.string (decB (s.Y (i:Int).toNat)))), ByteArray.size (prN s i ++ ByteArray.mk #[(110 : UInt8), (111 : UInt8), (100 : UInt8), (101 : UInt8), (32 : UInt8)] ++ decB (s.X (i:Int).toNat) ++ ByteArray.mk #[(32 : UInt8)]) + ByteArray.size (decB (s.Y (i:Int).toNat)) ≤ 9223372036854775807, ByteArray.size (prN s i ++ ByteArray.mk #[(110 : UInt8), (111 : UInt8), (100 : UInt8), (101 : UInt8), (32 : UInt8)] ++ decB (s.X (i:Int).toNat) ++ ByteArray.mk #[(32 : UInt8)] ++ decB (s.Y (i:Int).toNat)) + ByteArray.size (ByteArray.mk #[(32 : UInt8)]) ≤ 9223372036854775807, FnC prog 29 [(dI (s.Z (i:Int).toNat))] (.val (.string (decB (s.Z (i:Int).toNat)))), ByteArray.size (prN s i ++ ByteArray.mk #[(110 : UInt8), (111 : UInt8), (100 : UInt8), (101 : UInt8), (32 : UInt8)] ++ decB (s.X (i:Int).toNat) ++ ByteArray.mk #[(32 : UInt8)] ++ decB (s.Y
     (i:Int).toNat) ++ ByteArray.mk #[(32 : UInt8)]) + ByteArray.size (decB (s.Z (i:Int).toNat)) ≤ 9223372036854775807, ByteArray.size (prN s i ++ ByteArray.mk #[(110 : UInt8), (111 : UInt8), (100 : UInt8), (101 : UInt8), (32 : UInt8)] ++ decB (s.X (i:Int).toNat) ++ ByteArray.mk #[(32 : UInt8)] ++ decB (s.Y (i:Int).toNat) ++ ByteArray.mk #[(32 : UInt8)] ++ decB (s.Z (i:Int).toNat)) + ByteArray.size (ByteArray.mk #[(10 : UInt8)]) ≤ 9223372036854775807] (.need [i64In ((i:Int) + 1)] (.done (((i:Int) + 1 = (↑((i:Int) + 1).toNat : Int)) :: ((prN s i ++ ByteArray.mk #[(110 : UInt8), (111 : UInt8), (100 : UInt8), (101 : UInt8), (32 : UInt8)] ++ decB (s.X (i:Int).toNat) ++ ByteArray.mk #[(32 : UInt8)] ++ decB (s.Y (i:Int).toNat) ++ ByteArray.mk #[(32 : UInt8)] ++ decB (s.Z (i:Int).toNat) ++ ByteArray.mk #[(10 : UInt8)] = prN s ((i:Int) + 1).toNat) :: (printR_cr0 s [Int.toNat ((i:Int) + 1) ≤ s.nN, s.nN - ((i:Int) + 1).toNat < s.nN - i]))))))) (.loop Nat (fun a => a ≤ s.nM) (0:Int).toNat (((0:Int) = (↑(0:Int).toNat : Int)) :: ((prN s i = prM s (0:Int).toNat) :: (printR_cr0 s []))) fun i => .ite (decide ((i:Int) < (s.nM:Int))) (.need [(0:Int) ≤ (i:Int) ∧ (i:Int) < (s.nM:Int)] (.need [ByteArray.size (prM s i) + ByteArray.size (ByteArray.mk #[(109 : UInt8), (101 : UInt8), (109 : UInt8), (98 : UInt8), (101 : UInt8), (114 : UInt8), (32 : UInt8)]) ≤ 9223372036854775807, FnC prog 29 [(dI (s.K (i:Int).toNat))] (.val (.string (decB (s.K (i:Int).toNat)))), ByteArray.size (prM s i ++ ByteArray.mk #[(109 : UInt8), (101 : UInt8), (109 : UInt8), (98 : UInt8), (101 : UInt8), (114 : UInt8), (32 : UInt8)]) + ByteArray.size (decB (s.K (i:Int).toNat)) ≤ 9223372036854775807, ByteArray.size (prM s i ++ ByteArray.mk #[(109 : UInt8), (101 :
     UInt8), (109 : UInt8), (98 : UInt8), (101 : UInt8), (114 : UInt8), (32 : UInt8)] ++ decB (s.K (i:Int).toNat)) + ByteArray.size (ByteArray.mk #[(32 : UInt8)]) ≤ 9223372036854775807, FnC prog 29 [(dI (s.A (i:Int).toNat))] (.val (.string (decB (s.A (i:Int).toNat)))), ByteArray.size (prM s i ++ ByteArray.mk #[(109 : UInt8), (101 : UInt8), (109 : UInt8), (98 : UInt8), (101 : UInt8), (114 : UInt8), (32 : UInt8)] ++ decB (s.K (i:Int).toNat) ++ ByteArray.mk #[(32 : UInt8)]) + ByteArray.size (decB (s.A (i:Int).toNat)) ≤ 9223372036854775807, ByteArray.size (prM s i ++ ByteArray.mk #[(109 : UInt8), (101 : UInt8), (109 : UInt8), (98 : UInt8), (101 : UInt8), (114 : UInt8), (32 : UInt8)] ++ decB (s.K (i:Int).toNat) ++ ByteArray.mk #[(32 : UInt8)] ++ decB (s.A (i:Int).toNat)) + ByteArray.size (ByteArray.mk #[(32 : UInt8)]) ≤ 9223372036854775807, FnC prog 29 [(dI (s.B (i:Int).toNat))] (.val (.string (decB (s.B (i:Int).toNat)))), ByteArray.size (prM s i ++ ByteArray.mk #[(109 : UInt8), (101 : UInt8), (109 : UInt8), (98 : UInt8), (101 : UInt8), (114 : UInt8), (32 : UInt8)] ++ decB (s.K (i:Int).toNat) ++ ByteArray.mk #[(32 : UInt8)] ++ decB (s.A (i:Int).toNat) ++ ByteArray.mk #[(32 : UInt8)]) + ByteArray.size (decB (s.B (i:Int).toNat)) ≤ 9223372036854775807, ByteArray.size (prM s i ++ ByteArray.mk #[(109 : UInt8), (101 : UInt8), (109 : UInt8), (98 : UInt8), (101 : UInt8), (114 : UInt8), (32 : UInt8)] ++ decB (s.K (i:Int).toNat) ++ ByteArray.mk #[(32 : UInt8)] ++ decB (s.A (i:Int).toNat) ++ ByteArray.mk #[(32 : UInt8)] ++ decB (s.B (i:Int).toNat)) + ByteArray.size (ByteArray.mk #[(10 : UInt8)]) ≤ 9223372036854775807] (.need [i64In ((i:Int) + 1)] (.done (((i:Int) + 1 = (↑((i:Int) + 1).toNat : Int)) :: ((prM s i ++ ByteArray.mk #[(109 : UInt8), (101 : UInt8),
     (109 : UInt8), (98 : UInt8), (101 : UInt8), (114 : UInt8), (32 : UInt8)] ++ decB (s.K (i:Int).toNat) ++ ByteArray.mk #[(32 : UInt8)] ++ decB (s.A (i:Int).toNat) ++ ByteArray.mk #[(32 : UInt8)] ++ decB (s.B (i:Int).toNat) ++ ByteArray.mk #[(10 : UInt8)] = prM s ((i:Int) + 1).toNat) :: (printR_cr0 s [Int.toNat ((i:Int) + 1) ≤ s.nM, s.nM - ((i:Int) + 1).toNat < s.nM - i]))))))) (.done [prM s i = prM s s.nM]))) (by kernel_rfl) ?_
  simp only [VT.holds, AllT, printR_cr0, Sq]
  have s1 : ByteArray.size ⟨#[110, 111, 100, 101, 32]⟩ = 5 := rfl
  have s2 : ByteArray.size ⟨#[32]⟩ = 1 := rfl
  have s3 : ByteArray.size ⟨#[10]⟩ = 1 := rfl
  have s4 : ByteArray.size ⟨#[109, 101, 109, 98, 101, 114, 32]⟩ = 7 := rfl
  have hn := hc.nN
  have hm := hc.nM
  simp only [ByteArray.size_append, s1, s2, s3, s4]
  refine ⟨⟨rfl, rfl⟩, Nat.zero_le _, fun i hi => ⟨fun hlt => ?_, fun hge => ?_⟩⟩
  · obtain ⟨⟨x, y, z⟩, _⟩ := hc.node i (by omega)
    have x := inC_bd x
    have y := inC_bd y
    have z := inC_bd z
    have a := decB_size (s.X i)
    have b := decB_size (s.Y i)
    have c := decB_size (s.Z i)
    have e := prN_size hc i hi
    exact ⟨by omega, ⟨by omega, decimal_c _ (by omega), by omega, by omega, decimal_c _ (by omega), by omega, by omega, decimal_c _ (by omega), by omega, by omega⟩, by unfold i64In; omega, by omega, rfl, by omega, by omega⟩
  · obtain rfl : i = s.nN := by omega
    refine ⟨⟨rfl, rfl⟩, Nat.zero_le _, fun i hi => ⟨fun hlt => ?_, fun hge => ?_⟩⟩
    · have x := hc.kind i (by omega)
      have y := hc.ends i (by omega)
      have a := decB_size (s.K i)
      have b := decB_size (s.A i)
      have c := decB_size (s.B i)
      have e := prM_size hc i hi
      exact ⟨by omega, ⟨by omega, decimal_c _ (by omega), by omega, by omega, decimal_c _ (by omega), by omega, by omega, decimal_c _ (by omega), by omega, by omega⟩, by unfold i64In; omega, by omega, rfl, by omega, by omega⟩
    · obtain rfl : i = s.nM := by omega
      rfl
noncomputable def A31_line_c (s w : ByteArray) : Ann := { orc := [(1, [(1, .res fun q => .lst (cutN (sO (arg q 0)) (aI q 1)) [fun j => dS (cutS (sO (arg q 0)) (aI q 1) j)])]), (8, [(5, .res fun q => .tup [dI (nuV (sO (arg q 0)) (aI q 1)), dB (nuB (sO (arg q 0)) (aI q 1))])])], loops := [], cuts := [], unroll := [(0, 4)], dec := [25] }
noncomputable abbrev qab (s : ByteArray) : Bool := !(↑(cutN s (32:Int)) : Int) != (4:Int)
theorem line_c (s w : ByteArray) (hs : s.size ≤ 1000000) : FnC prog 31 [dS s, dS w] (.tup [.agg [dI (lnX s w 0), dI (lnX s w 1), dI (lnX s w 2)], dB (lnK s w 3)]) := by
  refine FnC_owed hmix (A31_line_c s w) (V := .need [FnC prog 30 [.val (.string s), .val (Value.int IntKind.u8 (32:Int))] (.lst (cutN s (32:Int)) [fun j => .val (.string (cutS s (32:Int) j))])] (.need [ri ((qab s) = true), (qab s) = true → (0:Int) ≤ 0 ∧ (0:Int) < (↑(cutN s (32:Int)) : Int), ri ((qab s) = true), ri ((qab s) = true), ri ((qab s) = true), ((↑(cutN s (32:Int)) : Int) != 4) = false → (qab s) = true] (.ite (if ((↑(cutN s (32:Int)) : Int) != 4) = true then true else !ByteArray.toList (cutS s (32:Int) (0:Int).toNat) == ByteArray.toList w) (.done [(0:Int) = lnX s w 0, (0:Int) = lnX s w 1, (0:Int) = lnX s w 2, false = lnK s w 3]) (.need [i64In (1:Int), (0:Int) ≤ 1 ∧ (1:Int) < (↑(cutN s (32:Int)) : Int), FnC prog 54 [.val (.string (cutS s (32:Int) (1:Int).toNat)), (dI (7:Int))] (.tup [(dI (nuV (cutS s (32:Int) (1:Int).toNat) (7:Int))), (dB (nuB (cutS s (32:Int) (1:Int).toNat) (7:Int)))])] (.ite (!nuB (cutS s (32:Int) (1:Int).toNat) (7:Int)) (.done [(0:Int) = lnX s w 0, (0:Int) = lnX s w 1, (0:Int) = lnX s w 2, false = lnK s w 3]) (.need [(0:Int) ≤ 0 ∧ (0:Int) < (↑(3:Nat) : Int)] (.need [i64In (1:Int)] (.need [i64In (2:Int), (0:Int) ≤ 2 ∧ (2:Int) < (↑(cutN s (32:Int)) : Int), FnC prog 54 [.val (.string (cutS s (32:Int) (2:Int).toNat)), (dI (7:Int))] (.tup [(dI (nuV (cutS s (32:Int) (2:Int).toNat) (7:Int))), (dB (nuB (cutS s (32:Int) (2:Int).toNat) (7:Int)))])] (.ite (!nuB (cutS s (32:Int) (2:Int).toNat) (7:Int)) (.done [nuV (cutS s (32:Int) (1:Int).toNat) (7:Int) = lnX s w 0, (0:Int) = lnX s w 1, (0:Int) = lnX s w 2, false = lnK s w 3]) (.need [(0:Int) ≤
     (1:Int) ∧ (1:Int) < (↑(3:Nat) : Int)] (.need [i64In (2:Int)] (.need [i64In (3:Int), (0:Int) ≤ 3 ∧ (3:Int) < (↑(cutN s (32:Int)) : Int), FnC prog 54 [.val (.string (cutS s (32:Int) (3:Int).toNat)), (dI (7:Int))] (.tup [(dI (nuV (cutS s (32:Int) (3:Int).toNat) (7:Int))), (dB (nuB (cutS s (32:Int) (3:Int).toNat) (7:Int)))])] (.ite (!nuB (cutS s (32:Int) (3:Int).toNat) (7:Int)) (.done [nuV (cutS s (32:Int) (1:Int).toNat) (7:Int) = lnX s w 0, nuV (cutS s (32:Int) (2:Int).toNat) (7:Int) = lnX s w 1, (0:Int) = lnX s w 2, false = lnK s w 3]) (.need [(0:Int) ≤ 2 ∧ (2:Int) < (↑(3:Nat) : Int)] (.need [i64In (3:Int)] (.done [nuV (cutS s (32:Int) (1:Int).toNat) (7:Int) = lnX s w 0, nuV (cutS s (32:Int) (2:Int).toNat) (7:Int) = lnX s w 1, nuV (cutS s (32:Int) (3:Int).toNat) (7:Int) = lnX s w 2, true = lnK s w 3])))))))))))))))) (by kernel_rfl) ?_
  simp only [qab, VT.holds, AllT, Sq]
  have cs := fun q => Nat.le_trans (cutS_size s 32 q) hs
  have t1 : Int.toNat 1 = 1 := rfl
  have t2 : Int.toNat 2 = 2 := rfl
  have t3 : Int.toNat 3 = 3 := rfl
  rw [t1, t2, t3]
  refine ⟨cutB_c s 32 hs, fun h => by omega, fun h => ?_, fun h => ?_⟩
  · have e : lnK s w 0 = false := by
      show lnP s w = false
      unfold lnP
      rcases h with h | h
      · rw [decide_eq_false (by omega)]; rfl
      · rw [show ((cutS s 32 0).toList == w.toList) = false from by simpa using h, Bool.and_false]
    exact ⟨lnX_no e (by omega), lnX_no e (by omega), lnX_no e (by omega), (ln_no e (by omega)).symm⟩
  · have e : lnK s w 0 = true := by
      show lnP s w = true
      unfold lnP
      rw [decide_eq_true (by omega), show ((cutS s 32 0).toList == w.toList) = true from by simpa using h.2]
      rfl
    have i1 : i64In 1 := by unfold i64In; omega
    have i2 : i64In 2 := by unfold i64In; omega
    have i3 : i64In 3 := by unfold i64In; omega
    refine ⟨⟨i1, by omega, number_c _ 7 (cs 1) (by decide)⟩, fun h1 => ?_, fun h1 => ⟨by decide, i1, ⟨i2, by omega, number_c _ 7 (cs 2) (by decide)⟩, fun h2 => ?_, fun h2 => ⟨by decide, i2, ⟨i3, by omega, number_c _ 7 (cs 3) (by decide)⟩, fun h3 => ?_, fun h3 => ?_⟩⟩⟩
    · have e1 : lnK s w 1 = false := by rw [lnK, e, h1]; rfl
      exact ⟨lnX_no e1 (by omega), lnX_no e1 (by omega), lnX_no e1 (by omega), (ln_no e1 (by omega)).symm⟩
    · have e1 : lnK s w 1 = true := by rw [lnK, e, h1]; rfl
      have e2 : lnK s w 2 = false := by rw [lnK, e1, h2]; rfl
      exact ⟨lnX_yes e1, lnX_no e2 (by omega), lnX_no e2 (by omega), (ln_no e2 (by omega)).symm⟩
    · have e1 : lnK s w 1 = true := by rw [lnK, e, h1]; rfl
      have e2 : lnK s w 2 = true := by rw [lnK, e1, h2]; rfl
      have e3 : lnK s w 3 = false := by rw [lnK, e2, h3]; rfl
      exact ⟨lnX_yes e1, lnX_yes e2, lnX_no e3 (by omega), (ln_no e3 (by omega)).symm⟩
    · have e1 : lnK s w 1 = true := by rw [lnK, e, h1]; rfl
      have e2 : lnK s w 2 = true := by rw [lnK, e1, h2]; rfl
      have e3 : lnK s w 3 = true := by rw [lnK, e2, h3]; rfl
      exact ⟨by decide, i3, lnX_yes e1, lnX_yes e2, lnX_yes e3, e3.symm⟩
end Go.Abs
