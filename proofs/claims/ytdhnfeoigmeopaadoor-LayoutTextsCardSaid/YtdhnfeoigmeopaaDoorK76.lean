/- Contracts. Contracts. -/
import Derived.Test.YtdhnfeoigmeopaaDoorK74
section
set_option maxRecDepth 100000
namespace Go.Abs
open Go
theorem list_inj {x y : ByteArray} (h : x.toList = y.toList) : x = y := by
  rw [Lib.toList_data, Lib.toList_data] at h
  exact ByteArray.ext (Array.toList_inj.1 h)
theorem nu_dec {n : Int} (h : n.natAbs < 10000000) : nuV (decB n) 9 = n := by
  obtain ⟨⟨h1, h2⟩, _⟩ := dec_ok h
  rw [nuB, Bool.and_eq_true, Bool.and_eq_true] at h1
  have h3 := h1.1.1
  rw [nuV, if_pos ⟨h3, h1.1.2⟩] at h2
  rw [nln, decide_eq_true_eq] at h3
  have h4 : nln (decB n) 9 = true := by rw [nln]; exact decide_eq_true (by omega)
  rw [nuV, if_pos ⟨h4, h1.1.2⟩]
  exact h2
theorem back_ref {nB : Nat} {B : Nat → Int} {nO : Nat} {O : Nat → Int} {W G L : Int} (h : sysE nB B nO O W G L = 0) : okR (prS nB B nO O W G L) = true := by
  have ok := sys_facts h
  obtain ⟨c0, r0, r1, r2, r3, r4⟩ := prS_cut (nB := nB) (B := B) (nO := nO) (O := O) (W := W) (G := G) (L := L)
  obtain ⟨w1, w2, w3, w4, w5⟩ := wrd_no (c := 32) (.inl rfl)
  obtain ⟨b1, b2⟩ := spB_cut w1 B nB
  obtain ⟨o1, o2⟩ := spB_cut w2 O nO
  obtain ⟨x1, x2⟩ := spB_cut w3 (fun _ => W) 1
  obtain ⟨y1, y2⟩ := spB_cut w4 (fun _ => G) 1
  obtain ⟨z1, z2⟩ := spB_cut w5 (fun _ => L) 1
  obtain ⟨T, hT⟩ : ∃ T, T = prS nB B nO O W G L := ⟨_, rfl⟩
  rw [← hT] at c0 r0 r1 r2 r3 r4 ⊢
  have m1 := ok.n2
  have m2 := ok.n3
  have n0 : rN T 0 = nB := by rw [rN, r0, b1]; omega
  have n1 : rN T 1 = nO := by rw [rN, r1, o1]; omega
  have n2 : rN T 2 = 1 := by rw [rN, r2, x1]; rfl
  have n3 : rN T 3 = 1 := by rw [rN, r3, y1]; rfl
  have n4 : rN T 4 = 1 := by rw [rN, r4, z1]; rfl
  have v0 : ∀ k, k < nB → rV T 0 k = B k := fun k hk => by
    have := ok.B k hk
    rw [rV, r0, b2 k hk, nu_dec (by omega)]
  have v1 : ∀ k, k < nO → rV T 1 k = O k := fun k hk => by
    have := ok.O k hk
    rw [rV, r1, o2 k hk, nu_dec (by omega)]
  have v2 : rV T 2 0 = W := by
    have := ok.W
    rw [rV, r2, x2 0 (by decide), nu_dec (by omega)]
  have v3 : rV T 3 0 = G := by
    have := ok.G
    rw [rV, r3, y2 0 (by decide), nu_dec (by omega)]
  have v4 : rV T 4 0 = L := by
    have := ok.L
    rw [rV, r4, z2 0 (by decide), nu_dec (by omega)]
  rw [okR, n0, n1, n2, n3, n4, v2, v3, v4, sysE_eq v0 v1, h, c0, prS, lnS_eq v0, lnS_eq v1, decide_eq_true (show 5 ≤ 6 ∧ 1 = 1 ∧ 1 = 1 ∧ 1 = 1 from ⟨by decide, rfl, rfl, rfl⟩)]
  rw [show lnS bayW nB B ++ lnS brdW nO O ++ lnS widW 1 (fun _ => W) ++ lnS gapW 1 (fun _ => G) ++ lnS lifW 1 (fun _ => L) = T from hT.symm]
  simp
theorem read_alike (t : ByteArray) : psE t = rsE t ∧ psB t = rsB t ∧ psO t = rsO t ∧ (∀ k, k < rsB t → vlT t 0 k = rV t 0 k) ∧ (∀ k, k < rsO t → vlT t 1 k = rV t 1 k) ∧ psW t 2 = rsW t 2 ∧ psW t 3 = rsW t 3 ∧ psW t 4 = rsW t 4 := by
  have bad : psE t ≠ 0 → psE t = rsE t → psE t = rsE t ∧ psB t = rsB t ∧ psO t = rsO t ∧ (∀ k, k < rsB t → vlT t 0 k = rV t 0 k) ∧ (∀ k, k < rsO t → vlT t 1 k = rV t 1 k) ∧ psW t 2 = rsW t 2 ∧ psW t 3 = rsW t 3 ∧ psW t 4 = rsW t 4 := fun h e => by
    have h' : rsE t ≠ 0 := e ▸ h
    have z1 : rsB t = 0 := by rw [rsB, if_neg h']
    have z2 : rsO t = 0 := by rw [rsO, if_neg h']
    exact ⟨e, by rw [psB, if_neg h, z1], by rw [psO, if_neg h, z2], fun k hk => by omega, fun k hk => by omega, by rw [psW, if_neg h, rsW, if_neg h'], by rw [psW, if_neg h, rsW, if_neg h'], by rw [psW, if_neg h, rsW, if_neg h']⟩
  by_cases hs : (t.size : Int) > 60000
  · have e1 : psE t = 8 := by rw [psE, if_pos hs]
    have e2 : rsE t = 8 := by rw [rsE, if_pos hs]
    exact bad (by rw [e1]; decide) (by rw [e1, e2])
  · by_cases hk : okR t = true
    · have e : rsE t = 0 := by rw [rsE, if_neg hs, if_pos hk]
      rw [okR, Bool.and_eq_true, Bool.and_eq_true, decide_eq_true_eq, decide_eq_true_eq, beq_iff_eq] at hk
      obtain ⟨_, h0, h1⟩ := hk
      obtain ⟨a1, a2, a3, a4, a5, a6, a7, a8⟩ := read_back h0
      rw [list_inj h1] at a1 a2 a3 a4 a5 a6 a7 a8
      have y1 : rsB t = rN t 0 := by rw [rsB, if_pos e]
      have y2 : rsO t = rN t 1 := by rw [rsO, if_pos e]
      exact ⟨a1.trans e.symm, a2.trans y1.symm, a3.trans y2.symm, fun k hk => a4 k (by omega), fun k hk => a5 k (by omega), by rw [a6, rsW, if_pos e], by rw [a7, rsW, if_pos e], by rw [a8, rsW, if_pos e]⟩
    · have e : rsE t = 7 := by rw [rsE, if_neg hs, if_neg hk]
      have hp : okT t = false := by
        rw [Bool.eq_false_iff]
        intro hp
        rw [okT, Bool.and_eq_true, Bool.and_eq_true, Bool.and_eq_true, decide_eq_true_eq, decide_eq_true_eq, beq_iff_eq] at hp
        obtain ⟨_, _, h0, h1⟩ := hp
        have := back_ref (of_decide_eq_true h0)
        rw [list_inj h1] at this
        exact hk this
      have e' : psE t = 7 := by rw [psE, if_neg hs, hp]; rfl
      exact bad (by rw [e']; decide) (by rw [e, e'])
end Go.Abs
end
section
set_option maxRecDepth 100000
namespace Go.Abs
open Go
noncomputable def A3_texts_c (t : ByteArray) : Ann := { orc := [(1, [(0, .res fun _ => dB true)]), (5, [(1, .res fun _ => .tup [sys (psB t) (vlT t 0) (psO t) (vlT t 1) (psW t 2) (psW t 3) (psW t 4), dI (psE t)])]), (6, [(1, .res fun _ => .tup [sys (rsB t) (rV t 0) (rsO t) (rV t 1) (rsW t 2) (rsW t 3) (rsW t 4), dI (rsE t)])]), (7, [(6, .res fun _ => dB (sameN (psB t) (vlT t 0) (rsB t) (rV t 0) && sameN (psO t) (vlT t 1) (rsO t) (rV t 1) && decide (psW t 2 = rsW t 2) && decide (psW t 3 = rsW t 3) && decide (psW t 4 = rsW t 4)))])], loops := [], cuts := [] }
noncomputable abbrev qj (t : ByteArray) : Bool := decide ((↑(ByteArray.size t) : Int) > (1000:Int))
noncomputable abbrev q7 (t : ByteArray) : Bool := decide ((↑(ByteArray.size t) : Int) ≤ (60000:Int))
noncomputable abbrev qcb (t : ByteArray) : Bool := !if (qj t) = true then (q7 t) else false
theorem texts_c (t : ByteArray)  : FnC prog 3 [dS t] (dB true) := by
  refine FnC_owed hmix (A3_texts_c t) (V := .need [FnC prog 4 [] ((dB true))] (.ite (!true) (.done [false = true]) (.need [ri ((qj t) = true), ri ((qj t) = true), ri ((qj t) = true), ri ((qcb t) = true), ri ((qcb t) = true), (if (qj t) = true then (q7 t) else false) = false → (qcb t) = true] (.ite (if (if (qj t) = true then (q7 t) else false) = true then true else decide ((↑(ByteArray.size t) : Int) > 60005)) (.done [true = true]) (.need [FnC prog 5 [.val (.string t)] (.tup [.agg [.lst (psB t) [fun i => (dI (vlT t 0 i))], .lst (psO t) [fun i => (dI (vlT t 1 i))], (dI (psW t 2)), (dI (psW t 3)), (dI (psW t 4))], (dI (psE t))])] (.need [FnC prog 6 [.val (.string t)] (.tup [.agg [.lst (rsB t) [fun i => (dI (rV t 0 i))], .lst (rsO t) [fun i => (dI (rV t 1 i))], (dI (rsW t 2)), (dI (rsW t 3)), (dI (rsW t 4))], (dI (rsE t))])] (.need [ri ((psE t == rsE t) = true), ri ((psE t == rsE t) = true), (psE t == rsE t) = true → FnC prog 7 [.agg [.lst (psB t) [fun i => (dI (vlT t 0 i))], .lst (psO t) [fun i => (dI (vlT t 1 i))], (dI (psW t 2)), (dI (psW t 3)), (dI (psW t 4))], .agg [.lst (rsB t) [fun i => (dI (rV t 0 i))], .lst (rsO t) [fun i => (dI (rV t 1 i))], (dI (rsW t 2)), (dI (rsW t 3)), (dI (rsW t 4))]] ((dB (sameN (psB t) (vlT t 0) (rsB t) (rV t 0) && sameN (psO t) (vlT t 1) (rsO t) (rV t 1) && decide (psW t 2 = rsW t 2) && decide (psW t 3 = rsW t 3) && decide (psW t 4 = rsW t 4)))), ri ((psE t == rsE t) = true)] (.done [(if (psE t == rsE t) = true then sameN (psB t) (vlT t 0) (rsB t) (rV
     t 0) && sameN (psO t) (vlT t 1) (rsO t) (rV t 1) && decide (psW t 2 = rsW t 2) && decide (psW t 3 = rsW t 3) && decide (psW t 4 = rsW t 4) else false) = true])))))))) (by kernel_rfl) ?_
  simp only [qj, q7, qcb, VT.holds, AllT, Sq]
  obtain ⟨a1, a2, a3, a4, a5, a6, a7, a8⟩ := read_alike t
  have b1 : rsB t ≤ 9 := by
    rw [rsB]
    split
    · exact Nat.min_le_right _ _
    · exact Nat.zero_le _
  have b2 : rsO t ≤ 9 := by
    rw [rsO]
    split
    · exact Nat.min_le_right _ _
    · exact Nat.zero_le _
  refine ⟨awake_c, fun h => absurd h (by decide), fun _ hs => ⟨parseS_c t (by omega), parseR_c t (by omega), fun _ => same_c _ _ _ _ _ _ _ _ _ _ _ _ _ _ (by omega) (by omega), a1, ⟨⟨⟨?_, ?_⟩, a6⟩, a7⟩, a8⟩⟩
  · rw [sameN]; exact decide_eq_true ⟨a2, fun k hk => a4 k (by omega)⟩
  · rw [sameN]; exact decide_eq_true ⟨a3, fun k hk => a5 k (by omega)⟩
end Go.Abs
end
