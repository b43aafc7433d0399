/- A map that a variable holds, told as one that is only read. -/
import Derived.Test.YtbemjdppfiabgaaAbsN
namespace Go.Abs
open Go.RowKit

/-- Cell j of the variable behind temp t: a map of the call's own; from now on only read. -/
def frz1 (σ : St) (t j : Nat) : St := match σ.get t with
  | .ptr id _ => match σ.obj id with
    | some (.box cs) => match cs[j]? with
      | some (.mph m) => match σ.obj m with
        | some (.map ks has col _) => { σ with h := (id, some (.box (cs.set j (.mp ks has col)))) :: (m, none) :: σ.h }
        | _ => σ
      | _ => σ
    | _ => σ
  | _ => σ
def frzs (σ : St) : List (Nat × Nat) → St
  | [] => σ
  | (t, j) :: r => frzs (frz1 σ t j) r

section
variable {base : Nat} {w0 w : World} {S0 : Env} {σ : St} {kn : Nat → Prop} {blk : Nat → Option Loc} {a : Act}

theorem R.frz1 (r : R base w0 S0 σ kn blk a w) (t j : Nat) : ∃ blk', R base w0 S0 (frz1 σ t j) kn blk' a w := by
  unfold Abs.frz1
  split
  · rename_i id o ht
    split
    · rename_i cs hob
      split
      · rename_i m hj
        split
        · rename_i ks has col hot hm
          obtain ⟨hkm, g, es, clock, hlm, hhp, hM, hst, hhot⟩ := r.objs _ _ hm
          have hne : m ≠ id := by
            rintro rfl
            rw [hm] at hob; cases hob
          obtain ⟨blk', r', hsub, hgone⟩ := r.dropRows [.mph m] (fun d i v hd hi => by
            obtain rfl := List.mem_singleton.1 hd
            obtain rfl := List.mem_singleton.1 hi
            intro e; rw [hlm] at e; cases e)
          have hbm : blk' m = none := hgone (.mph m) m List.mem_cons_self (by simp [ownIds])
          have hob' : St.obj { σ with h := Abs.dropRows [.mph m] ++ σ.h } id = some (.box cs) := by
            unfold St.obj
            simp only [Abs.dropRows, List.cons_append, List.nil_append, look_cons]
            rw [if_neg hne]
            exact hob
          obtain ⟨hk, g0, C, cv, T, hl, hh, hsz, hcell, hone⟩ := r'.objs _ _ hob'
          have hl0 := hsub _ _ hl
          have hobj0 := (r.objs _ _ hob).2
          obtain ⟨g1, C1, cv1, T1, hl1, hh1, _, hcell1, _⟩ := hobj0
          rw [hl0] at hl1
          cases hl1
          rw [hh] at hh1
          cases hh1
          have hmono : ∀ ad u, rdOf w base S0 blk ad u → rdOf w base S0 blk' ad u := fun ad u ⟨x, y, z, q⟩ => ⟨x, fun id l e => y id l (hsub _ _ e), z, q⟩
          have hown : ∀ l g, blk m = some l → l.has g → ∀ ad u, ad.block = g → rdw w ad u → rdOf w base S0 blk' ad u := fun l g' hbk hg ad u e hu => ⟨hu, fun id' l' e' hg' => (by
              have e3 := hsub _ _ e'
              rw [e] at hg'
              have := r.inj _ _ _ _ _ e3 hbk hg' hg
              rw [this, hbm] at e'
              cases e'), e ▸ own_S r hbk hg, fun B hB _ => (by
              have h2 := r.mlow B hB m g [] hlm
              rw [hlm] at hbk
              cases hbk
              rcases hg with rfl | hg
              · rw [e]; exact h2
              · cases hg)⟩
          refine ⟨blk', r'.turnL hl rfl rfl rfl rfl (fun _ _ => rfl) fun _ _ => ⟨g0, C, cv, T, rfl, hh, by rw [hsz, List.length_set], fun k d u hd hu => ?_, hone⟩⟩
          rw [List.getElem?_set] at hd
          split at hd
          · rename_i hjk
            subst hjk
            split at hd
            · cases hd
              exact relC_open (map_rd r hmono hown hm (hcell1 j _ u hj hu))
            · cases hd
          · exact hcell k d u hd hu
        · exact ⟨blk, r⟩
      · exact ⟨blk, r⟩
    · exact ⟨blk, r⟩
  · exact ⟨blk, r⟩
theorem frz1_nx (t j : Nat) : (frz1 σ t j).nx = σ.nx := by
  unfold frz1
  repeat' split
  all_goals rfl
theorem Fits.frz1 (h : Fits base w0 S0 σ a w) (t j : Nat) : Fits base w0 S0 (Abs.frz1 σ t j) a w := by
  obtain ⟨kn, blk, r, hn⟩ := h
  obtain ⟨blk', r'⟩ := r.frz1 t j
  exact ⟨kn, blk', r', fun i hi => by rw [frz1_nx]; exact hn i hi⟩
theorem Fits.frzs : ∀ (l : List (Nat × Nat)) {σ : St}, Fits base w0 S0 σ a w → Fits base w0 S0 (Abs.frzs σ l) a w
  | [], _, h => h
  | (t, j) :: r, _, h => Fits.frzs r (h.frz1 t j)
end
end Go.Abs
