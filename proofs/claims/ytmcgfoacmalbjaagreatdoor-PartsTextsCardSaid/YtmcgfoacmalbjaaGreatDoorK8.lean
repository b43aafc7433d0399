/- Contracts. Contracts. -/
import Derived.Test.YtmcgfoacmalbjaaGreatDoorK6
section
set_option maxRecDepth 100000
namespace Go.Abs
open Go
def rLes (q : List DV) : DV := dB (lesR (fI 0 (arg q 0)) (fI 1 (arg q 0)) (fI 0 (arg q 1)) (fI 1 (arg q 1)))
structure Way where
  f1 : Int
  f2 : Int
  t1 : Int
  t2 : Int
def Way.ok (w : Way) : Prop := bd7 w.f1 ∧ bd7 w.f2 ∧ bd7 w.t1 ∧ bd7 w.t2
def wst (w : Way) (a b lo hi : Int) : Way := ⟨cF1 w.f1 w.f2 a b lo hi, cF2 w.f1 w.f2 a b lo hi, cT1 w.t1 w.t2 a b lo hi, cT2 w.t1 w.t2 a b lo hi⟩
def w1 (ax bx x1 x2 : Int) : Way := wst ⟨-1, 1, 2, 1⟩ ax bx x1 x2
def w2 (ax ay bx by_ x1 y1 x2 y2 : Int) : Way := wst (w1 ax bx x1 x2) ay by_ y1 y2
def w3 (ax ay az bx by_ bz x1 y1 z1 x2 y2 z2 : Int) : Way := wst (w2 ax ay bx by_ x1 y1 x2 y2) az bz z1 z2
def crE (w : Way) : Bool := lesR w.f1 w.f2 w.t1 w.t2 && (lesR w.f1 w.f2 1 1 && lesR 0 1 w.t1 w.t2)
def crs (ax ay az bx by_ bz x1 y1 z1 x2 y2 z2 : Int) : Bool := cutB ax bx x1 x2 && (cutB ay by_ y1 y2 && (cutB az bz z1 z2 && crE (w3 ax ay az bx by_ bz x1 y1 z1 x2 y2 z2)))
def wWr (w : Way) (ok : Bool) : List WO × DV := ([.box [dI w.f1, dI w.f2], .box [dI w.t1, dI w.t2]], dB ok)
theorem wst_ok {w : Way} {a b lo hi : Int} (h : w.ok) (ha : bd6 a) (hb : bd6 b) (hl : bd6 lo) (hh : bd6 hi) : (wst w a b lo hi).ok := by
  obtain ⟨h1, h2, h3, h4⟩ := h
  refine ⟨?_, ?_, ?_, ?_⟩
  · show bd7 (cF1 _ _ _ _ _ _)
    unfold cF1
    by_cases e : a = b
    · rw [if_pos e]; exact h1
    · rw [if_neg e]
      by_cases g : lesR w.f1 w.f2 (cL a b lo hi - cA a b) (cB a b - cA a b) = true
      · rw [if_pos g]; unfold cL cA; split <;> omega
      · rw [if_neg g]; exact h1
  · show bd7 (cF2 _ _ _ _ _ _)
    unfold cF2
    by_cases e : a = b
    · rw [if_pos e]; exact h2
    · rw [if_neg e]
      by_cases g : lesR w.f1 w.f2 (cL a b lo hi - cA a b) (cB a b - cA a b) = true
      · rw [if_pos g]; unfold cB cA; split <;> omega
      · rw [if_neg g]; exact h2
  · show bd7 (cT1 _ _ _ _ _ _)
    unfold cT1
    by_cases e : a = b
    · rw [if_pos e]; exact h3
    · rw [if_neg e]
      by_cases g : lesR (cH a b lo hi - cA a b) (cB a b - cA a b) w.t1 w.t2 = true
      · rw [if_pos g]; unfold cH cA; split <;> omega
      · rw [if_neg g]; exact h3
  · show bd7 (cT2 _ _ _ _ _ _)
    unfold cT2
    by_cases e : a = b
    · rw [if_pos e]; exact h4
    · rw [if_neg e]
      by_cases g : lesR (cH a b lo hi - cA a b) (cB a b - cA a b) w.t1 w.t2 = true
      · rw [if_pos g]; unfold cB cA; split <;> omega
      · rw [if_neg g]; exact h4
abbrev d6 (x1 y1 z1 x2 y2 z2 : Int) : DV := .val (.agg #[.int .i64 x1, .int .i64 y1, .int .i64 z1, .int .i64 x2, .int .i64 y2, .int .i64 z2])
def bxE (x1 y1 z1 x2 y2 z2 : Int) : Int :=
  if (inC x1 && (inC y1 && inC z1)) = false ∨ (inC x2 && (inC y2 && inC z2)) = false then 2 else if x1 ≥ x2 ∨ y1 ≥ y2 ∨ z1 ≥ z2 then 3 else 0
noncomputable def A60_crosses_c (ax ay az bx by_ bz x1 y1 z1 x2 y2 z2 : Int) : Ann := { orc := [(2, [(8, .wr fun q => wWr (w1 ax bx x1 x2) (cutB ax bx x1 x2)), (19, .wr fun q => wWr (w2 ax ay bx by_ x1 y1 x2 y2) (cutB ay by_ y1 y2)), (31, .wr fun q => wWr (w3 ax ay az bx by_ bz x1 y1 z1 x2 y2 z2) (cutB az bz z1 z2))]), (4, [(2, .res rLes), (6, .res rLes), (11, .res rLes)])], loops := [], cuts := [] }
noncomputable abbrev qd (ax : Int) (bx : Int) (x1 : Int) (x2 : Int) (ay : Int) (by_ : Int) (y1 : Int) (y2 : Int) : Bool := !if (!cutB ax bx x1 x2) = true then true else !cutB ay by_ y1 y2
noncomputable abbrev qxb (ax : Int) (bx : Int) (x1 : Int) (x2 : Int) (ay : Int) (by_ : Int) (y1 : Int) (y2 : Int) (az : Int) (bz : Int) (z1 : Int) (z2 : Int) : Bool := if lesR (if (qd ax bx x1 x2 ay by_ y1 y2) = true then (w3 ax ay az bx by_ bz x1 y1 z1 x2 y2 z2).1 else if (!!cutB ax bx x1 x2) = true then (w2 ax ay bx by_ x1 y1 x2 y2).1 else (w1 ax bx x1 x2).1) (if (qd ax bx x1 x2 ay by_ y1 y2) = true then (w3 ax ay az bx by_ bz x1 y1 z1 x2 y2 z2).2 else if (!!cutB ax bx x1 x2) = true then (w2 ax ay bx by_ x1 y1 x2 y2).2 else (w1 ax bx x1 x2).2) (if (qd ax bx x1 x2 ay by_ y1 y2) = true then (w3 ax ay az bx by_ bz x1 y1 z1 x2 y2 z2).3 else if (!!cutB ax bx x1 x2) = true then (w2 ax ay bx by_ x1 y1 x2 y2).3 else (w1 ax bx x1 x2).3) (if (qd ax bx x1 x2 ay by_ y1 y2) = true then (w3 ax ay az bx by_ bz x1 y1 z1 x2 y2 z2).4 else if (!!cutB ax bx x1 x2) = true then (w2 ax ay bx by_ x1 y1 x2 y2).4 else (w1 ax bx x1 x2).4) = true then lesR (if (qd ax bx x1 x2 ay by_ y1 y2) = true then (w3 ax ay az bx by_ bz x1 y1 z1 x2 y2 z2).1 else if (!!cutB ax bx x1 x2) = true then (w2 ax ay bx by_ x1 y1 x2 y2).1 else (w1 ax bx x1 x2).1) (if (qd ax bx x1 x2 ay by_ y1 y2) = true then (w3 ax ay az bx by_ bz x1 y1 z1 x2 y2 z2).2 else if (!!cutB ax bx x1 x2) = true then (w2 ax ay bx by_ x1 y1 x2 y2).2 else (w1 ax bx x1 x2).2) (1:Int) (1:Int) else false
theorem crosses_c (ax ay az bx by_ bz x1 y1 z1 x2 y2 z2 : Int) (hax : bd6 ax) (hay : bd6 ay) (haz : bd6 az) (hbx : bd6 bx) (hby : bd6 by_) (hbz : bd6 bz) (hx1 : bd6 x1) (hy1 : bd6 y1) (hz1 : bd6 z1) (hx2 : bd6 x2) (hy2 : bd6 y2) (hz2 : bd6 z2) : FnC prog 60 [dN ax ay az, dN bx by_ bz, d6 x1 y1 z1 x2 y2 z2] (dB (crs ax ay az bx by_ bz x1 y1 z1 x2 y2 z2)) := by
  refine FnC_owed hmix (A60_crosses_c ax ay az bx by_ bz x1 y1 z1 x2 y2 z2) (V := .need [FnW prog 69 [WA.box [(dI (-1:Int)), (dI (1:Int))] [(dI (w1 ax bx x1 x2).1), (dI (w1 ax bx x1 x2).2)], WA.box [(dI (2:Int)), (dI (1:Int))] [(dI (w1 ax bx x1 x2).3), (dI (w1 ax bx x1 x2).4)], WA.arg ((dI ax)), WA.arg ((dI bx)), WA.arg ((dI x1)), WA.arg ((dI x2))] ((dB (cutB ax bx x1 x2))), ri ((!!cutB ax bx x1 x2) = true), ri ((!!cutB ax bx x1 x2) = true), ri ((!!cutB ax bx x1 x2) = true), ri ((!!cutB ax bx x1 x2) = true), ri ((!!cutB ax bx x1 x2) = true), ri ((!!cutB ax bx x1 x2) = true), ri ((!!cutB ax bx x1 x2) = true), ri ((!!cutB ax bx x1 x2) = true), (!!cutB ax bx x1 x2) = true → FnW prog 69 [WA.box [(dI (w1 ax bx x1 x2).1), (dI (w1 ax bx x1 x2).2)] [(dI (w2 ax ay bx by_ x1 y1 x2 y2).1), (dI (w2 ax ay bx by_ x1 y1 x2 y2).2)], WA.box [(dI (w1 ax bx x1 x2).3), (dI (w1 ax bx x1 x2).4)] [(dI (w2 ax ay bx by_ x1 y1 x2 y2).3), (dI (w2 ax ay bx by_ x1 y1 x2 y2).4)], WA.arg ((dI ay)), WA.arg ((dI by_)), WA.arg ((dI y1)), WA.arg ((dI y2))] ((dB (cutB ay by_ y1 y2))), ri ((!!cutB ax bx x1 x2) = true), (!cutB ax bx x1 x2) = false → (!!cutB ax bx x1 x2) = true, ri ((qd ax bx x1 x2 ay by_ y1 y2) = true), ri ((qd ax bx x1 x2 ay by_ y1 y2) = true), ri ((qd ax bx x1 x2 ay by_ y1 y2) = true), ri ((qd ax bx x1 x2 ay by_ y1 y2) = true), ri ((qd ax bx x1 x2 ay by_ y1 y2) = true), ri ((qd ax bx x1 x2 ay by_ y1 y2) = true), ri ((qd ax bx x1 x2 ay by_ y1 y2) = true), ri ((qd ax bx x1 x2 ay by_ y1 y2) = true), (qd ax bx x1 x2 ay by_ y1 y2) = true → FnW prog 69 [WA.box [(dI (if (!!cutB ax bx x1 x2) = true then (w2 ax ay bx by_ x1 y1 x2 y2).1 else (w1 ax bx x1 x2).1)), (dI (if (!!cutB ax bx x1 x2) = true then (w2 ax ay bx by_ x1 y1 x2 y2).2 else (w1 ax bx x1 x2).2))] [(dI (w3 ax ay az bx by_ bz x1 y1 z1 x2 y2 z2).1), (dI (w3 ax ay az bx by_ bz x1 y1 z1 x2 y2 z2).2)], WA.box [(dI (if (!!cutB ax bx x1 x2) = true then (w2 ax ay bx by_ x1 y1 x2 y2).3 else (w1 ax bx x1 x2).3)), (dI (if (!!cutB ax bx x1 x2) = true then (w2 ax ay bx by_ x1 y1 x2 y2).4 else (w1 ax bx x1 x2).4))] [(dI (w3 ax ay az bx by_ bz x1 y1 z1 x2 y2 z2).3), (dI (w3 ax ay az bx by_ bz x1 y1 z1 x2 y2 z2).4)], WA.arg ((dI az)), WA.arg ((dI bz)), WA.arg ((dI z1)), WA.arg ((dI z2))] ((dB (cutB az bz z1 z2))), ri ((qd ax bx x1 x2 ay by_ y1 y2) = true), (if (!cutB ax bx x1 x2) = true then true else !cutB ay by_ y1 y2) = false → (qd ax bx x1 x2 ay by_ y1 y2) = true] (.ite (if (if (!cutB ax bx x1 x2) = true then true else !cutB ay by_ y1 y2) = true then true else !cutB az bz z1 z2) (.done [false = crs ax ay az bx by_ bz x1 y1 z1 x2 y2 z2]) (.need [FnC prog 70 [.val (.agg (Array.mk [.int .i64 (if (qd ax bx x1 x2 ay by_ y1 y2) = true then (w3 ax ay az bx by_ bz x1 y1 z1 x2 y2 z2).1 else if (!!cutB ax bx x1 x2) = true then (w2 ax ay bx by_ x1 y1 x2 y2).1 else (w1 ax bx x1 x2).1), .int .i64 (if (qd ax bx x1 x2 ay by_ y1 y2) = true then (w3 ax ay az bx by_ bz x1 y1 z1 x2 y2 z2).2 else if (!!cutB ax bx x1 x2) = true then (w2 ax ay bx by_ x1 y1 x2 y2).2 else (w1 ax bx x1 x2).2)])), .val (.agg (Array.mk [.int .i64 (if (qd ax bx x1 x2 ay by_ y1 y2) = true then (w3 ax ay az bx by_ bz x1 y1 z1 x2 y2 z2).3 else if (!!cutB ax bx x1 x2) = true then (w2 ax ay bx by_ x1 y1 x2 y2).3 else (w1 ax
     bx x1 x2).3), .int .i64 (if (qd ax bx x1 x2 ay by_ y1 y2) = true then (w3 ax ay az bx by_ bz x1 y1 z1 x2 y2 z2).4 else if (!!cutB ax bx x1 x2) = true then (w2 ax ay bx by_ x1 y1 x2 y2).4 else (w1 ax bx x1 x2).4)]))] ((dB (lesR (if (qd ax bx x1 x2 ay by_ y1 y2) = true then (w3 ax ay az bx by_ bz x1 y1 z1 x2 y2 z2).1 else if (!!cutB ax bx x1 x2) = true then (w2 ax ay bx by_ x1 y1 x2 y2).1 else (w1 ax bx x1 x2).1) (if (qd ax bx x1 x2 ay by_ y1 y2) = true then (w3 ax ay az bx by_ bz x1 y1 z1 x2 y2 z2).2 else if (!!cutB ax bx x1 x2) = true then (w2 ax ay bx by_ x1 y1 x2 y2).2 else (w1 ax bx x1 x2).2) (if (qd ax bx x1 x2 ay by_ y1 y2) = true then (w3 ax ay az bx by_ bz x1 y1 z1 x2 y2 z2).3 else if (!!cutB ax bx x1 x2) = true then (w2 ax ay bx by_ x1 y1 x2 y2).3 else (w1 ax bx x1 x2).3) (if (qd ax bx x1 x2 ay by_ y1 y2) = true then (w3 ax ay az bx by_ bz x1 y1 z1 x2 y2 z2).4 else if (!!cutB ax bx x1 x2) = true then (w2 ax ay bx by_ x1 y1 x2 y2).4 else (w1 ax bx x1 x2).4)))), ri (lesR (if (qd ax bx x1 x2 ay by_ y1 y2) = true then (w3 ax ay az bx by_ bz x1 y1 z1 x2 y2 z2).1 else if (!!cutB ax bx x1 x2) = true then (w2 ax ay bx by_ x1 y1 x2 y2).1 else (w1 ax bx x1 x2).1) (if (qd ax bx x1 x2 ay by_ y1 y2) = true then (w3 ax ay az bx by_ bz x1 y1 z1 x2 y2 z2).2 else if (!!cutB ax bx x1 x2) = true then (w2 ax ay bx by_ x1 y1 x2 y2).2 else (w1 ax bx x1 x2).2) (if (qd ax bx x1 x2 ay by_ y1 y2) = true then (w3 ax ay az bx by_ bz x1 y1 z1 x2 y2 z2).3 else if (!!cutB ax bx x1 x2) = true then (w2 ax ay bx by_ x1 y1 x2 y2).3 else (w1 ax bx x1 x2).3) (if (qd ax bx x1 x2 ay by_ y1 y2) = true then (w3 ax ay az bx by_ bz x1 y1 z1 x2 y2 z2).4 else if (!!cutB ax bx x1 x2) = true then (w2 ax ay bx by_ x1 y1 x2 y2).4 else (w1 ax bx x1 x2).4) = true), ri (lesR (if (qd ax bx x1 x2 ay by_ y1 y2) = true then (w3 ax ay az bx by_ bz x1 y1 z1 x2 y2 z2).1 else if (!!cutB ax bx x1 x2) = true then (w2 ax ay bx by_ x1 y1 x2 y2).1 else (w1 ax bx x1 x2).1) (if (qd ax bx x1 x2 ay by_ y1 y2) = true then (w3 ax ay az bx by_ bz x1 y1 z1 x2 y2 z2).2 else if (!!cutB ax bx x1 x2) = true then (w2 ax ay bx by_ x1 y1 x2 y2).2 else (w1 ax bx x1 x2).2) (if (qd ax bx x1 x2 ay by_ y1 y2) = true then (w3 ax ay az bx by_ bz x1 y1 z1 x2 y2 z2).3 else if (!!cutB ax bx x1 x2) = true then (w2 ax ay bx by_ x1 y1 x2 y2).3 else (w1 ax bx x1 x2).3) (if (qd ax bx x1 x2 ay by_ y1 y2) = true then (w3 ax ay az bx by_ bz x1 y1 z1 x2 y2 z2).4 else if (!!cutB ax bx x1 x2) = true then (w2 ax ay bx by_ x1 y1 x2 y2).4 else (w1 ax bx x1 x2).4) = true), lesR (if (qd ax bx x1 x2 ay by_ y1 y2) = true then (w3 ax ay az bx by_ bz x1 y1 z1 x2 y2 z2).1 else if (!!cutB ax bx x1 x2) = true then (w2 ax ay bx by_ x1 y1 x2 y2).1 else (w1 ax bx x1 x2).1) (if (qd ax bx x1 x2 ay by_ y1 y2) = true then (w3 ax ay az bx by_ bz x1 y1 z1 x2 y2 z2).2 else if (!!cutB ax bx x1 x2) = true then (w2 ax ay bx by_ x1 y1 x2 y2).2 else (w1 ax bx x1 x2).2) (if (qd ax bx x1 x2 ay by_ y1 y2) = true then (w3 ax ay az bx by_ bz x1 y1 z1 x2 y2 z2).3 else if (!!cutB ax bx x1 x2) = true then (w2 ax ay bx by_ x1 y1 x2 y2).3 else (w1 ax bx x1 x2).3) (if (qd ax bx x1 x2 ay by_ y1 y2) = true then (w3 ax ay az bx by_ bz x1 y1 z1 x2 y2 z2).4 else if (!!cutB ax bx x1 x2) = true then (w2 ax ay bx by_ x1 y1 x2 y2).4 else (w1 ax bx x1 x2).4) = true → FnC prog 70 [.val (.agg (Array.mk [.int .i64 (if (qd ax bx x1 x2 ay by_ y1 y2) = true then (w3 ax ay az bx by_ bz x1 y1 z1 x2 y2 z2).1 else if (!!cutB ax bx x1 x2) = true then (w2 ax ay bx by_ x1 y1 x2 y2).1 else (w1 ax bx x1 x2).1), .int .i64 (if (qd ax bx x1 x2 ay by_ y1 y2) = true then (w3 ax ay az bx by_ bz x1 y1 z1 x2 y2 z2).2 else if (!!cutB ax bx x1 x2) = true then (w2 ax ay bx by_ x1 y1 x2 y2).2 else (w1 ax bx x1 x2).2)])), .val (.agg (Array.mk [.int .i64 (1:Int), .int .i64 (1:Int)]))] ((dB (lesR (if (qd ax bx x1 x2 ay by_ y1 y2) = true then (w3 ax ay az bx by_ bz x1 y1 z1 x2 y2 z2).1 else if (!!cutB ax bx x1 x2) = true then (w2 ax ay bx by_ x1 y1 x2 y2).1 else (w1 ax bx x1 x2).1) (if (qd ax bx x1 x2 ay by_ y1 y2) = true then (w3 ax ay az bx by_ bz x1 y1 z1 x2 y2 z2).2 else if (!!cutB ax bx x1 x2) = true then (w2 ax ay bx by_ x1 y1
     x2 y2).2 else (w1 ax bx x1 x2).2) (1:Int) (1:Int)))), ri (lesR (if (qd ax bx x1 x2 ay by_ y1 y2) = true then (w3 ax ay az bx by_ bz x1 y1 z1 x2 y2 z2).1 else if (!!cutB ax bx x1 x2) = true then (w2 ax ay bx by_ x1 y1 x2 y2).1 else (w1 ax bx x1 x2).1) (if (qd ax bx x1 x2 ay by_ y1 y2) = true then (w3 ax ay az bx by_ bz x1 y1 z1 x2 y2 z2).2 else if (!!cutB ax bx x1 x2) = true then (w2 ax ay bx by_ x1 y1 x2 y2).2 else (w1 ax bx x1 x2).2) (if (qd ax bx x1 x2 ay by_ y1 y2) = true then (w3 ax ay az bx by_ bz x1 y1 z1 x2 y2 z2).3 else if (!!cutB ax bx x1 x2) = true then (w2 ax ay bx by_ x1 y1 x2 y2).3 else (w1 ax bx x1 x2).3) (if (qd ax bx x1 x2 ay by_ y1 y2) = true then (w3 ax ay az bx by_ bz x1 y1 z1 x2 y2 z2).4 else if (!!cutB ax bx x1 x2) = true then (w2 ax ay bx by_ x1 y1 x2 y2).4 else (w1 ax bx x1 x2).4) = true), ri ((qxb ax bx x1 x2 ay by_ y1 y2 az bz z1 z2) = true), ri ((qxb ax bx x1 x2 ay by_ y1 y2 az bz z1 z2) = true), (qxb ax bx x1 x2 ay by_ y1 y2 az bz z1 z2) = true → FnC prog (70 :
     Nat) [.val (.agg (Array.mk [.int .i64 (0:Int), .int .i64 (1:Int)])), .val (.agg (Array.mk [.int .i64 (if (qd ax bx x1 x2 ay by_ y1 y2) = true then (w3 ax ay az bx by_ bz x1 y1 z1 x2 y2 z2).3 else if (!!cutB ax bx x1 x2) = true then (w2 ax ay bx by_ x1 y1 x2 y2).3 else (w1 ax bx x1 x2).3), .int .i64 (if (qd ax bx x1 x2 ay by_ y1 y2) = true then (w3 ax ay az bx by_ bz x1 y1 z1 x2 y2 z2).4 else if (!!cutB ax bx x1 x2) = true then (w2 ax ay bx by_ x1 y1 x2 y2).4 else (w1 ax bx x1 x2).4)]))] ((dB (lesR (0:Int) (1:Int) (if (qd ax bx x1 x2 ay by_ y1 y2) = true then (w3 ax ay az bx by_ bz x1 y1 z1 x2 y2 z2).3 else if (!!cutB ax bx x1 x2) = true then (w2 ax ay bx by_ x1 y1 x2 y2).3 else (w1 ax bx x1 x2).3) (if (qd ax bx x1 x2 ay by_ y1 y2) = true then (w3 ax ay az bx by_ bz x1 y1 z1 x2 y2 z2).4 else if (!!cutB ax bx x1 x2) = true then (w2 ax ay bx by_ x1 y1 x2 y2).4 else (w1 ax bx x1 x2).4)))), ri ((qxb ax bx x1 x2 ay by_ y1 y2 az bz z1 z2) = true)] (.done [(if (qxb ax bx x1 x2 ay by_ y1 y2 az bz z1 z2) = true then lesR (0:Int) (1:Int) (if (qd ax bx x1 x2 ay by_ y1 y2) = true then (w3 ax ay az bx by_ bz x1 y1 z1 x2 y2 z2).3 else if (!!cutB ax bx x1 x2) = true then (w2 ax ay bx by_ x1 y1 x2 y2).3 else (w1 ax bx x1 x2).3) (if (qd ax bx x1 x2 ay by_ y1 y2) = true then (w3 ax ay az bx by_ bz x1 y1 z1 x2 y2 z2).4 else if (!!cutB ax bx x1 x2) = true then (w2 ax ay bx by_ x1 y1 x2 y2).4 else (w1 ax bx x1 x2).4) else false) = crs ax ay az bx by_ bz x1 y1 z1 x2 y2 z2])))) (by kernel_rfl) ?_
  simp only [qd, qxb, VT.holds, AllT, Sq]
  have o0 : (⟨-1, 1, 2, 1⟩ : Way).ok := ⟨⟨by decide, by decide⟩, ⟨by decide, by decide⟩, ⟨by decide, by decide⟩, ⟨by decide, by decide⟩⟩
  have o1 : (w1 ax bx x1 x2).ok := wst_ok o0 hax hbx hx1 hx2
  have o2 : (w2 ax ay bx by_ x1 y1 x2 y2).ok := wst_ok o1 hay hby hy1 hy2
  have o3 : (w3 ax ay az bx by_ bz x1 y1 z1 x2 y2 z2).ok := wst_ok o2 haz hbz hz1 hz2
  have c1 := cut_c (-1) 1 2 1 ax bx x1 x2 o0.1 o0.2.1 o0.2.2.1 o0.2.2.2 hax hbx hx1 hx2
  have c2 := cut_c _ _ _ _ ay by_ y1 y2 o1.1 o1.2.1 o1.2.2.1 o1.2.2.2 hay hby hy1 hy2
  have c3 := cut_c _ _ _ _ az bz z1 z2 o2.1 o2.2.1 o2.2.2.1 o2.2.2.2 haz hbz hz1 hz2
  refine ⟨⟨c1, fun h => c2, fun h => ?_⟩, fun h => ?_, fun h => ?_⟩
  · have h1 : cutB ax bx x1 x2 = true := by simpa using h.1
    simp only [h1, if_true]
    exact c3
  · unfold crs
    rcases h with (h | h) | h <;> simp [h]
  · obtain ⟨h12, h3⟩ := h
    have h1 : cutB ax bx x1 x2 = true := by
      cases e : cutB ax bx x1 x2 with
      | true => rfl
      | false => exact absurd (.inl e) h12
    have h2 : cutB ay by_ y1 y2 = true := by
      cases e : cutB ay by_ y1 y2 with
      | true => rfl
      | false => exact absurd (.inr e) h12
    simp only [h1, h2, Bool.true_eq_false, not_false_eq_true, true_and, and_self, if_true]
    have one : bd7 1 := ⟨by decide, by decide⟩
    have zero : bd7 0 := ⟨by decide, by decide⟩
    refine ⟨⟨less_c _ _ _ _ o3.1 o3.2.1 o3.2.2.1 o3.2.2.2, fun _ => less_c _ _ _ _ o3.1 o3.2.1 one one, fun _ => less_c _ _ _ _ zero one o3.2.2.1 o3.2.2.2⟩, ?_⟩
    unfold crs crE
    rw [h1, h2, h3]
    generalize w3 ax ay az bx by_ bz x1 y1 z1 x2 y2 z2 = w
    cases lesR w.f1 w.f2 w.t1 w.t2 <;> cases lesR w.f1 w.f2 1 1 <;> cases lesR 0 1 w.t1 w.t2 <;> simp
noncomputable def A39_checkBox_c (x1 y1 z1 x2 y2 z2 : Int) : Ann := { orc := [(1, [(7, .res fun q => dB (inC (fI 0 (arg q 0)) && (inC (fI 1 (arg q 0)) && inC (fI 2 (arg q 0))))), (17, .res fun q => dB (inC (fI 0 (arg q 0)) && (inC (fI 1 (arg q 0)) && inC (fI 2 (arg q 0)))))])], loops := [], cuts := [] }
noncomputable abbrev qn (x1 : Int) (y1 : Int) (z1 : Int) : Bool := !!(inC x1 && (inC y1 && inC z1))
noncomputable abbrev qvb (x1 : Int) (x2 : Int) (y1 : Int) (y2 : Int) : Bool := !if decide (x1 ≥ x2) = true then true else decide (y1 ≥ y2)
theorem checkBox_c (x1 y1 z1 x2 y2 z2 : Int)  : FnC prog 39 [d6 x1 y1 z1 x2 y2 z2] (dI (bxE x1 y1 z1 x2 y2 z2)) := by
  refine FnC_owed hmix (A39_checkBox_c x1 y1 z1 x2 y2 z2) (V := .need [FnC prog 55 [.val (.agg (Array.mk [.int .i64 x1, .int .i64 y1, .int .i64 z1]))] ((dB (inC x1 && (inC y1 && inC z1)))), ri ((qn x1 y1 z1) = true), ri ((qn x1 y1 z1) = true), ri ((qn x1 y1 z1) = true), ri ((qn x1 y1 z1) = true), ri ((qn x1 y1 z1) = true), ri ((qn x1 y1 z1) = true), ri ((qn x1 y1 z1) = true), (qn x1 y1 z1) = true → FnC prog 55 [.val (.agg (Array.mk [.int .i64 x2, .int .i64 y2, .int .i64 z2]))] ((dB (inC x2 && (inC y2 && inC z2)))), ri ((qn x1 y1 z1) = true), (!(inC x1 && (inC y1 && inC z1))) = false → (qn x1 y1 z1) = true] (.ite (if (!(inC x1 && (inC y1 && inC z1))) = true then true else !(inC x2 && (inC y2 && inC z2))) (.done [(2:Int) = bxE x1 y1 z1 x2 y2 z2]) (.need [ri ((!decide (x1 ≥ x2)) = true), ri ((!decide (x1 ≥ x2)) = true), ri ((!decide (x1 ≥ x2)) = true), ri ((!decide (x1 ≥ x2)) = true), decide (x1 ≥ x2) = false → (!decide (x1 ≥ x2)) = true, ri ((qvb x1 x2 y1 y2) = true), ri ((qvb x1 x2 y1 y2) = true), ri ((qvb x1 x2 y1 y2) = true), ri ((qvb x1 x2 y1 y2) = true), (if decide (x1 ≥ x2) = true then true else decide (y1 ≥ y2)) = false → (qvb x1 x2 y1 y2) = true] (.ite (if (if decide (x1 ≥ x2) = true then true else decide (y1 ≥ y2)) = true then true else decide (z1 ≥ z2)) (.done [(3:Int) = bxE x1 y1 z1 x2 y2 z2]) (.done [(0:Int) = bxE x1 y1 z1 x2 y2 z2]))))) (by kernel_rfl) ?_
  simp only [qn, qvb, VT.holds, AllT, Sq]
  refine ⟨⟨inSpace_c _ _ _, fun _ => inSpace_c _ _ _⟩, fun h => ?_, fun ⟨h0, h3, h4, h5⟩ => ?_⟩
  · rw [bxE, if_pos]
    cases e1 : inC x1 <;> cases e2 : inC y1 <;> cases e3 : inC z1 <;> cases e4 : inC x2 <;> cases e5 : inC y2 <;> cases e6 : inC z2 <;> simp_all
  · have hn : ¬ ((inC x1 && (inC y1 && inC z1)) = false ∨ (inC x2 && (inC y2 && inC z2)) = false) := by
      cases e1 : inC x1 <;> cases e2 : inC y1 <;> cases e3 : inC z1 <;> simp_all
    refine ⟨fun h => ?_, fun h => ?_⟩
    · rw [bxE, if_neg hn, if_pos (by omega)]
    · rw [bxE, if_neg hn, if_neg (by omega)]
end Go.Abs
end
section
set_option maxRecDepth 100000
namespace Go.Abs
open Go
structure Bxs where
  n : Nat
  x1 : Nat → Int
  y1 : Nat → Int
  z1 : Nat → Int
  x2 : Nat → Int
  y2 : Nat → Int
  z2 : Nat → Int
abbrev bxsD (l : Bxs) : DV := .lst l.n [fun i => dI (l.x1 i), fun i => dI (l.y1 i), fun i => dI (l.z1 i), fun i => dI (l.x2 i), fun i => dI (l.y2 i), fun i => dI (l.z2 i)]
def bxOK (l : Bxs) (i : Nat) : Int := bxE (l.x1 i) (l.y1 i) (l.z1 i) (l.x2 i) (l.y2 i) (l.z2 i)
def mtF (s : Scf) (k a b x1 y1 z1 x2 y2 z2 : Int) : Bool :=
  if k = 6 then decide (s.Z a.toNat > z1 ∧ s.Z a.toNat < z2 ∧ s.X a.toNat < x2 ∧ s.X b.toNat > x1 ∧ s.Y a.toNat < y2 ∧ s.Y b.toNat > y1)
  else crs (s.X a.toNat) (s.Y a.toNat) (s.Z a.toNat) (s.X b.toNat) (s.Y b.toNat) (s.Z b.toNat) x1 y1 z1 x2 y2 z2
def mtB (s : Scf) (k a b : Int) (l : Bxs) (j : Nat) : Bool := mtF s k a b (l.x1 j) (l.y1 j) (l.z1 j) (l.x2 j) (l.y2 j) (l.z2 j)
def ixF (p : Nat → Bool) : Nat → Int
  | 0 => -1
  | k + 1 => if 0 ≤ ixF p k then ixF p k else if p k = true then (k : Int) else -1
theorem ixF_none {p : Nat → Bool} : ∀ {n : Nat}, (∀ j, j < n → p j = false) → ixF p n = -1
  | 0, _ => rfl
  | n + 1, h => by rw [ixF, ixF_none (fun j hj => h j (by omega)), if_neg (by decide), h n (by omega), if_neg (by decide)]
theorem ixF_at {p : Nat → Bool} {i : Nat} (h : ∀ j, j < i → p j = false) (hi : p i = true) : ∀ {n : Nat}, i < n → ixF p n = i
  | n + 1, hn => by
    rcases Nat.lt_or_ge i n with h1 | h1
    · rw [ixF, ixF_at h hi h1, if_pos (by omega)]
    · obtain rfl : i = n := by omega
      rw [ixF, ixF_none h, if_neg (by decide), if_pos hi]
theorem flI_yes' {p : Nat → Bool} {k : Nat} (h : p k = true) {α : Type} (f : Nat → α) {j : Nat} (hj : j < flN p (k + 1)) : (if j < flN p k then f (flI p k j) else f k) = f (flI p (k + 1) j) := by
  have := flI_yes h f hj
  simpa only [decide_eq_true_eq] using this
def bkP (s : Scf) (l : Bxs) (i : Nat) : Bool := decide (0 ≤ ixF (mtB s (s.K i) (s.A i) (s.B i) l) l.n)
def bkE (s : Scf) (l : Bxs) : Int := if chkE s ≠ 0 then chkE s else if l.n > 50 then 8 else firstE (bxOK l) l.n
def bkN (s : Scf) (l : Bxs) : Nat := if bkE s l = 0 then flN (bkP s l) s.nM else 0
abbrev frmP (s : Scf) : DV := .cptr [nodesD s, membsD s, atD s s.nN]
abbrev memP (k a b : Int) : DV := .cptr [dI k, dI a, dI b]
abbrev capI (q : List DV) (j : Nat) : Int := match arg q 1 with
  | .clo _ [_, .cptr l] => aI l j
  | _ => 0
abbrev g6 (q : List DV) (j : Nat) : Int := fI j (arg q 0)
theorem bxOK_bd {x1 y1 z1 x2 y2 z2 : Int} (h : bxE x1 y1 z1 x2 y2 z2 = 0) : (bd6 x1 ∧ bd6 y1 ∧ bd6 z1) ∧ bd6 x2 ∧ bd6 y2 ∧ bd6 z2 := by
  unfold bxE at h
  split at h
  · cases h
  · rename_i h0
    have : inC x1 = true ∧ inC y1 = true ∧ inC z1 = true ∧ inC x2 = true ∧ inC y2 = true ∧ inC z2 = true := by
      cases e1 : inC x1 <;> cases e2 : inC y1 <;> cases e3 : inC z1 <;> cases e4 : inC x2 <;> cases e5 : inC y2 <;> cases e6 : inC z2 <;> simp_all
    obtain ⟨h1, h2, h3, h4, h5, h6⟩ := this
    exact ⟨⟨inC_bd h1, inC_bd h2, inC_bd h3⟩, inC_bd h4, inC_bd h5, inC_bd h6⟩
noncomputable def A42_meets_c (s : Scf) (k a b x1 y1 z1 x2 y2 z2 : Int) : Ann := { orc := [(4, [(3, .res fun q => dB (crs (fI 0 (arg q 0)) (fI 1 (arg q 0)) (fI 2 (arg q 0)) (fI 0 (arg q 1)) (fI 1 (arg q 1)) (fI 2 (arg q 1)) (fI 0 (arg q 2)) (fI 1 (arg q 2)) (fI 2 (arg q 2)) (fI 3 (arg q 2)) (fI 4 (arg q 2)) (fI 5 (arg q 2))))])], loops := [], cuts := [] }
noncomputable abbrev qgb (s : Scf) (a : Int) (z1 : Int) (z2 : Int) : Bool := if decide (s.Z (Int.toNat a) > z1) = true then decide (s.Z (Int.toNat a) < z2) else false
noncomputable abbrev qdb (s : Scf) (a : Int) (z1 : Int) (z2 : Int) (x2 : Int) : Bool := if (qgb s a z1 z2) = true then decide (s.X (Int.toNat a) < x2) else false
noncomputable abbrev q9 (s : Scf) (a : Int) (z1 : Int) (z2 : Int) (x2 : Int) (b : Int) (x1 : Int) : Bool := if (qdb s a z1 z2 x2) = true then decide (s.X (Int.toNat b) > x1) else false
noncomputable abbrev qbb (s : Scf) (a : Int) (z1 : Int) (z2 : Int) (x2 : Int) (b : Int) (x1 : Int) (y2 : Int) : Bool := if (q9 s a z1 z2 x2 b x1) = true then decide (s.Y (Int.toNat a) < y2) else false
theorem meets_c (s : Scf) (k a b x1 y1 z1 x2 y2 z2 : Int) (hc : ScfOK s) (ha : 0 ≤ a ∧ a < s.nN) (hb : 0 ≤ b ∧ b < s.nN) (hx : bxE x1 y1 z1 x2 y2 z2 = 0) : FnC prog 42 [frmD s s.nN, dM k a b, d6 x1 y1 z1 x2 y2 z2] (dB (mtF s k a b x1 y1 z1 x2 y2 z2)) := by
  refine FnC_owed hmix (A42_meets_c s k a b x1 y1 z1 x2 y2 z2) (V := .need [(0:Int) ≤ a ∧ a < (s.nN:Int), (0:Int) ≤ b ∧ b < (s.nN:Int)] (.ite (k == 6) (.need [ri (decide (s.Z a.toNat > z1) = true), ri (decide (s.Z a.toNat > z1) = true), ri (decide (s.Z a.toNat > z1) = true), ri (decide (s.Z a.toNat > z1) = true), ri (decide (s.Z a.toNat > z1) = true), ri ((qgb s a z1 z2) = true), ri ((qgb s a z1 z2) = true), ri ((qgb s a z1 z2) = true), ri ((qgb s a z1 z2) = true), ri ((qgb s a z1 z2) = true), ri ((qdb s a z1 z2 x2) = true), ri ((qdb s a z1 z2 x2) = true), ri ((qdb s a z1 z2 x2) = true), ri ((qdb s a z1 z2 x2) = true), ri ((qdb s a z1 z2 x2) = true), ri ((q9 s a z1 z2 x2 b x1) = true), ri ((q9 s a z1 z2 x2 b x1) = true), ri ((q9 s a z1 z2 x2 b x1) = true), ri ((q9 s a z1 z2 x2 b x1) = true), ri ((q9 s a z1 z2 x2 b x1) = true), ri ((qbb s a z1 z2 x2 b x1 y2) = true), ri ((qbb s a z1 z2 x2 b x1 y2) = true), ri ((qbb s a z1 z2 x2 b x1 y2) = true), ri ((qbb s a z1 z2 x2 b x1 y2) = true), ri ((qbb s a z1 z2 x2 b x1 y2) = true)] (.done [(if (qbb s a z1 z2 x2 b x1 y2) = true then decide (s.Y b.toNat > y1) else false) = mtF s k a b x1 y1 z1 x2 y2 z2])) (.need [FnC prog 60 [.val (.agg (Array.mk [.int .i64 (s.X a.toNat), .int .i64 (s.Y a.toNat), .int .i64 (s.Z a.toNat)])), .val (.agg (Array.mk [.int .i64 (s.X b.toNat), .int .i64 (s.Y b.toNat), .int .i64 (s.Z b.toNat)])), .val (.agg (Array.mk [.int .i64 x1, .int .i64 y1, .int .i64 z1, .int .i64 x2, .int .i64 y2, .int .i64 z2]))] ((dB (crs (s.X a.toNat) (s.Y a.toNat) (s.Z a.toNat) (s.X b.toNat) (s.Y b.toNat) (s.Z b.toNat) x1 y1 z1 x2 y2 z2)))] (.done [crs (s.X a.toNat) (s.Y a.toNat) (s.Z a.toNat) (s.X b.toNat) (s.Y b.toNat) (s.Z b.toNat) x1 y1 z1 x2 y2 z2 = mtF s k a b x1 y1 z1 x2 y2 z2])))) (by kernel_rfl) ?_
  simp only [qgb, qdb, q9, qbb, VT.holds, AllT, Sq]
  have ea : a.toNat < s.nN := by omega
  have eb : b.toNat < s.nN := by omega
  obtain ⟨⟨a1, a2, a3⟩, _⟩ := hc.node _ ea
  obtain ⟨⟨b1, b2, b3⟩, _⟩ := hc.node _ eb
  obtain ⟨⟨h1, h2, h3⟩, h4, h5, h6⟩ := bxOK_bd hx
  refine ⟨⟨ha, hb⟩, fun h => ?_, fun h => ⟨crosses_c _ _ _ _ _ _ _ _ _ _ _ _ (inC_bd a1) (inC_bd a2) (inC_bd a3) (inC_bd b1) (inC_bd b2) (inC_bd b3) h1 h2 h3 h4 h5 h6, by rw [mtF, if_neg h]⟩⟩
  rw [mtF, if_pos h, ← Bool.decide_and]
  exact decide_eq_decide.2 (by omega)
noncomputable def A41_meetsC_c (s : Scf) (k a b x1 y1 z1 x2 y2 z2 : Int) : Ann := { orc := [(1, [(3, .res fun q => dB (mtF s (fI 0 (arg q 1)) (fI 1 (arg q 1)) (fI 2 (arg q 1)) (fI 0 (arg q 2)) (fI 1 (arg q 2)) (fI 2 (arg q 2)) (fI 3 (arg q 2)) (fI 4 (arg q 2)) (fI 5 (arg q 2))))])], loops := [], cuts := [] }
theorem meetsC_c (s : Scf) (k a b x1 y1 z1 x2 y2 z2 : Int) (hc : ScfOK s) (ha : 0 ≤ a ∧ a < s.nN) (hb : 0 ≤ b ∧ b < s.nN) (hx : bxE x1 y1 z1 x2 y2 z2 = 0) : FnC prog 41 [d6 x1 y1 z1 x2 y2 z2, frmP s, memP k a b] (dB (mtF s k a b x1 y1 z1 x2 y2 z2)) := by
  refine FnC_owed hmix (A41_meetsC_c s k a b x1 y1 z1 x2 y2 z2) (V := .need [FnC prog 42 [.agg [.lst s.nN [fun i => (dI (s.X i)), fun i => (dI (s.Y i)), fun i => (dI (s.Z i))], .lst s.nM [fun i => (dI (s.K i)), fun i => (dI (s.A i)), fun i => (dI (s.B i))], DV.mp (KS.ints 3) (fun (l : List Int) => atH s s.nN l) fun (l : List Int) => (dI (atL s s.nN l))], .val (.agg (Array.mk [.int .i64 k, .int .i64 a, .int .i64 b])), .val (.agg (Array.mk [.int .i64 x1, .int .i64 y1, .int .i64 z1, .int .i64 x2, .int .i64 y2, .int .i64 z2]))] ((dB (mtF s k a b x1 y1 z1 x2 y2 z2)))] (.done [mtF s k a b x1 y1 z1 x2 y2 z2 = mtF s k a b x1 y1 z1 x2 y2 z2])) (by kernel_rfl) ?_
  simp only [VT.holds, AllT, Sq]
  exact meets_c s k a b x1 y1 z1 x2 y2 z2 hc ha hb hx
noncomputable def A59_index_c (s : Scf) (k a b : Int) (l : Bxs) : Ann := { orc := [(4, [(5, .res fun q => dB (mtF s k a b (g6 q 0) (g6 q 1) (g6 q 2) (g6 q 3) (g6 q 4) (g6 q 5)))])], loops := [(0, { ι := Nat, keep := [0, 1, 7], boxes := [], ts := fun _ i => [(8, dI (i : Int))], inv := fun _ i => i ≤ l.n ∧ ∀ j, j < i → mtB s k a b l j = false, mu := fun _ i => l.n - i, rd := fun _ σ => (iOf (σ.get 8)).toNat })], cuts := [] }
noncomputable abbrev index_cr0 (s : Scf) (l : Bxs) (r : List Prop) : List Prop := (l.n = l.n) :: (∀ (i : Nat), i < l.n → l.x1 i = l.x1 i) :: (∀ (i : Nat), i < l.n → l.y1 i = l.y1 i) :: (∀ (i : Nat), i < l.n → l.z1 i = l.z1 i) :: (∀ (i : Nat), i < l.n → l.x2 i = l.x2 i) :: (∀ (i : Nat), i < l.n → l.y2 i = l.y2 i) :: (∀ (i : Nat), i < l.n → l.z2 i = l.z2 i) :: (s.nN = s.nN) :: (∀ (i : Nat), i < s.nN → s.X i = s.X i) :: (∀ (i : Nat), i < s.nN → s.Y i = s.Y i) :: (∀ (i : Nat), i < s.nN → s.Z i = s.Z i) :: (s.nM = s.nM) :: (∀ (i : Nat), i < s.nM → s.K i = s.K i) :: (∀ (i : Nat), i < s.nM → s.A i = s.A i) :: (∀ (i : Nat), i < s.nM → s.B i = s.B i) :: r
theorem index_c (s : Scf) (k a b : Int) (l : Bxs) (hc : ScfOK s) (ha : 0 ≤ a ∧ a < s.nN) (hb : 0 ≤ b ∧ b < s.nN) (hl : l.n ≤ 50 ∧ ∀ i, i < l.n → bxOK l i = 0) : FnC prog 59 [bxsD l, .clo 41 [frmP s, memP k a b]] (dI (ixF (mtB s k a b l) l.n)) := by
  refine FnC_owed hmix (A59_index_c s k a b l) (V := .loop Nat (fun a_1 => a_1 ≤ l.n ∧ ∀ (j : Nat), j < a_1 → mtB s k a b l j = false) (0:Int).toNat (((0:Int) = (↑(0:Int).toNat : Int)) :: (index_cr0 s l [∀ (l : List Int), atH s s.nN l = atH s s.nN l, ∀ (l : List Int), atH s s.nN l = true → atL s s.nN l = atL s s.nN l, k = k, a = a, b = b, (l.n:Int) = (l.n:Int)])) fun i => .ite (decide ((i:Int) < (l.n:Int))) (.need [(0:Int) ≤ (i:Int) ∧ (i:Int) < (l.n:Int), FnC prog (41 : FuncId) [.val (.agg (Array.mk [.int .i64 (l.x1 (i:Int).toNat), .int .i64 (l.y1 (i:Int).toNat), .int .i64 (l.z1 (i:Int).toNat), .int .i64 (l.x2 (i:Int).toNat), .int .i64 (l.y2 (i:Int).toNat), .int .i64 (l.z2 (i:Int).toNat)])), .cptr [.lst s.nN [fun i => (dI (s.X i)), fun i => (dI (s.Y i)), fun i => (dI (s.Z i))], .lst s.nM [fun i => (dI (s.K i)), fun i => (dI (s.A i)), fun i => (dI (s.B i))], DV.mp (KS.ints 3) (fun (l : List Int) => atH s s.nN l) fun (l : List Int) => (dI (atL s s.nN l))], .cptr [(dI k), (dI a), (dI b)]] ((dB (mtF s k a b (l.x1 (i:Int).toNat) (l.y1 (i:Int).toNat) (l.z1 (i:Int).toNat) (l.x2 (i:Int).toNat) (l.y2 (i:Int).toNat) (l.z2 (i:Int).toNat))))] (.ite (mtF s k a b (l.x1 (i:Int).toNat) (l.y1 (i:Int).toNat) (l.z1 (i:Int).toNat) (l.x2 (i:Int).toNat) (l.y2 (i:Int).toNat) (l.z2 (i:Int).toNat)) (.done [(i:Int) = ixF (mtB s k a b l) l.n]) (.need [i64In ((i:Int) + 1)] (.done (((i:Int) + 1 = (↑((i:Int) + 1).toNat : Int)) :: (index_cr0 s l [∀ (l : List Int), atH s s.nN l = atH s s.nN l, ∀ (l : List Int), atH s s.nN l = true → atL s s.nN l = atL s s.nN l, k = k, a = a, b = b, (l.n:Int) = (l.n:Int), Int.toNat ((i:Int) + 1) ≤ l.n ∧ ∀ (j : Nat), j < ((i:Int) + 1).toNat → mtB s k a b l j = false, l.n - ((i:Int) + 1).toNat < l.n - i])))))) (.done [(-1 :
     Int) = ixF (mtB s k a b l) l.n])) (by kernel_rfl) ?_
  simp only [VT.holds, AllT, index_cr0, Sq]
  refine ⟨rfl, ⟨Nat.zero_le _, fun j hj => absurd hj (Nat.not_lt_zero j)⟩, fun i ⟨hi, hb'⟩ => ⟨fun hlt => ?_, fun hge => ?_⟩⟩
  · have hlt : i < l.n := by omega
    have h50 := hl.1
    refine ⟨⟨by omega, meetsC_c s k a b _ _ _ _ _ _ hc ha hb (hl.2 i hlt)⟩, fun h => (ixF_at hb' h hlt).symm, fun h => ⟨by unfold i64In; omega, by omega, ⟨by omega, fun j hj => ?_⟩, by omega⟩⟩
    rcases Nat.lt_or_ge j i with h9 | h9
    · exact hb' j h9
    · obtain rfl : j = i := by omega
      exact h
  · obtain rfl : i = l.n := by omega
    exact (ixF_none hb').symm
noncomputable def A40_contains_c (s : Scf) (k a b : Int) (l : Bxs) : Ann := { orc := [(1, [(2, .res fun q => dI (ixF (mtB s k a b l) l.n))])], loops := [], cuts := [] }
theorem contains_c (s : Scf) (k a b : Int) (l : Bxs) (hc : ScfOK s) (ha : 0 ≤ a ∧ a < s.nN) (hb : 0 ≤ b ∧ b < s.nN) (hl : l.n ≤ 50 ∧ ∀ i, i < l.n → bxOK l i = 0) : FnC prog 40 [bxsD l, .clo 41 [frmP s, memP k a b]] (dB (decide (0 ≤ ixF (mtB s k a b l) l.n))) := by
  refine FnC_owed hmix (A40_contains_c s k a b l) (V := .need [FnC prog 59 [.lst l.n [fun i => (dI (l.x1 i)), fun i => (dI (l.y1 i)), fun i => (dI (l.z1 i)), fun i => (dI (l.x2 i)), fun i => (dI (l.y2 i)), fun i => (dI (l.z2 i))], .clo (41 : FuncId) [.cptr [.lst s.nN [fun i => (dI (s.X i)), fun i => (dI (s.Y i)), fun i => (dI (s.Z i))], .lst s.nM [fun i => (dI (s.K i)), fun i => (dI (s.A i)), fun i => (dI (s.B i))], DV.mp (KS.ints 3) (fun (l : List Int) => atH s s.nN l) fun (l : List Int) => (dI (atL s s.nN l))], .cptr [(dI k), (dI a), (dI b)]]] ((dI (ixF (mtB s k a b l) l.n)))] (.done [decide (ixF (mtB s k a b l) l.n ≥ 0) = decide ((0:Int) ≤ ixF (mtB s k a b l) l.n)])) (by kernel_rfl) ?_
  simp only [VT.holds, AllT, Sq]
  exact index_c s k a b l hc ha hb hl
noncomputable def A16_Blocked_c (s : Scf) (l : Bxs) : Ann := { orc := [(1, [(1, .res fun q => rdD s)]), (9, [(1, .res fun q => dI (bxE (g6 q 0) (g6 q 1) (g6 q 2) (g6 q 3) (g6 q 4) (g6 q 5)))]), (17, [(2, .res fun q => dB (decide (0 ≤ ixF (mtB s (capI q 0) (capI q 1) (capI q 2) l) l.n)))])], loops := [(0, { ι := Nat, keep := [1, 2, 4, 5, 6, 7, 25, 26], boxes := [2, 6], ts := fun _ i => [(27, dI (i : Int))], inv := fun _ i => i ≤ l.n ∧ ∀ j, j < i → bxOK l j = 0, mu := fun _ i => l.n - i, rd := fun _ σ => (iOf (σ.get 27)).toNat }), (2, { ι := Nat, keep := [1, 2, 4, 5, 6, 7, 38, 39], boxes := [2, 6], ts := fun _ i => [(40, dI (i : Int))], rw := fun _ i => [(11, 1, flN (bkP s l) i, [fun j => dI (flI (bkP s l) i j)])], inv := fun _ i => i ≤ s.nM, mu := fun _ i => s.nM - i, rd := fun _ σ => (iOf (σ.get 40)).toNat })], cuts := [] }
noncomputable abbrev Blocked_cr0 (s : Scf) (r : List Prop) : List Prop := (s.nN = s.nN) :: (∀ (i : Nat), i < s.nN → s.X i = s.X i) :: (∀ (i : Nat), i < s.nN → s.Y i = s.Y i) :: (∀ (i : Nat), i < s.nN → s.Z i = s.Z i) :: (s.nM = s.nM) :: (∀ (i : Nat), i < s.nM → s.K i = s.K i) :: (∀ (i : Nat), i < s.nM → s.A i = s.A i) :: (∀ (i : Nat), i < s.nM → s.B i = s.B i) :: r
noncomputable abbrev Blocked_cr1 (l : Bxs) (r : List Prop) : List Prop := (l.n = l.n) :: (∀ (i : Nat), i < l.n → l.x1 i = l.x1 i) :: (∀ (i : Nat), i < l.n → l.y1 i = l.y1 i) :: (∀ (i : Nat), i < l.n → l.z1 i = l.z1 i) :: (∀ (i : Nat), i < l.n → l.x2 i = l.x2 i) :: (∀ (i : Nat), i < l.n → l.y2 i = l.y2 i) :: (∀ (i : Nat), i < l.n → l.z2 i = l.z2 i) :: r
noncomputable abbrev Blocked_cr2 (s : Scf) (r : List Prop) : List Prop := (Value.slice none (0:Nat) (0:Nat) = Value.slice none (0:Nat) (0:Nat)) :: ((0:Int) = (0:Int)) :: (chkE s = chkE s) :: (s.nM = s.nM) :: (∀ (i : Nat), i < s.nM → s.K i = s.K i) :: (∀ (i : Nat), i < s.nM → s.A i = s.A i) :: (∀ (i : Nat), i < s.nM → s.B i = s.B i) :: ((s.nM:Int) = (s.nM:Int)) :: r
theorem Blocked_c (s : Scf) (l : Bxs)  : FnC prog 16 [scfD s, bxsD l] (.tup [.lst (bkN s l) [fun j => dI (flI (bkP s l) s.nM j)], dI (bkE s l)]) := by
  refine FnC_owed hmix (A16_Blocked_c s l) (V := .need [FnC prog 32 [scfD s] (.tup [.agg [.lst s.nN [fun i => (dI (s.X i)), fun i => (dI (s.Y i)), fun i => (dI (s.Z i))], .lst s.nM [fun i => (dI (s.K i)), fun i => (dI (s.A i)), fun i => (dI (s.B i))], DV.mp (KS.ints 3) (fun (l : List Int) => atH s (rdN s) l) fun (l : List Int) => (dI (atL s (rdN s) l))], (dI (chkE s))])] (.ite (chkE s != 0) (.done [bkN s l = 0, chkE s = bkE s l]) (.ite (decide ((l.n:Int) > 50)) (.done [bkN s l = 0, (8:Int) = bkE s l]) (.loop Nat (fun a => a ≤ l.n ∧ ∀ (j : Nat), j < a → bxOK l j = 0) (0:Int).toNat (((0:Int) = (↑(0:Int).toNat : Int)) :: (Blocked_cr1 l ((Value.slice none 0 (0:Nat) = Value.slice none 0 (0:Nat)) :: (((0:Int) = 0) :: ((chkE s = chkE s) :: (Blocked_cr1 l (((l.n:Int) = (l.n:Int)) :: (Blocked_cr0 s (Blocked_cr0 s [∀ (l : List Int), atH s (rdN s) l = atH s (rdN s) l, ∀ (l : List Int), atH s (rdN s) l = true → atL s (rdN s) l = atL s (rdN s) l]))))))))) fun i => .ite (decide ((i:Int) < (l.n:Int))) (.need [(0:Int) ≤ (i:Int) ∧ (i:Int) < (l.n:Int)] (.need [FnC prog 39 [.val (.agg (Array.mk [.int .i64 (l.x1 (i:Int).toNat), .int .i64 (l.y1 (i:Int).toNat), .int .i64 (l.z1 (i:Int).toNat), .int .i64 (l.x2 (i:Int).toNat), .int .i64 (l.y2 (i:Int).toNat), .int .i64 (l.z2 (i:Int).toNat)]))] ((dI (bxE (l.x1 (i:Int).toNat) (l.y1 (i:Int).toNat) (l.z1 (i:Int).toNat) (l.x2 (i:Int).toNat) (l.y2 (i:Int).toNat) (l.z2 (i:Int).toNat))))] (.ite (bxE (l.x1 (i:Int).toNat) (l.y1 (i:Int).toNat) (l.z1 (i:Int).toNat) (l.x2 (i:Int).toNat) (l.y2 (i:Int).toNat) (l.z2 (i:Int).toNat) != 0) (.done
     [bkN s l = 0, bxE (l.x1 (i:Int).toNat) (l.y1 (i:Int).toNat) (l.z1 (i:Int).toNat) (l.x2 (i:Int).toNat) (l.y2 (i:Int).toNat) (l.z2 (i:Int).toNat) = bkE s l]) (.need [i64In ((i:Int) + 1)] (.done (((i:Int) + 1 = (↑((i:Int) + 1).toNat : Int)) :: (Blocked_cr1 l ((Value.slice none 0 (0:Nat) = Value.slice none 0 (0:Nat)) :: (((0:Int) = 0) :: ((chkE s = chkE s) :: (Blocked_cr1 l (((l.n:Int) = (l.n:Int)) :: (Blocked_cr0 s (Blocked_cr0 s [∀ (l : List Int), atH s (rdN s) l = atH s (rdN s) l, ∀ (l : List Int), atH s (rdN s) l = true → atL s (rdN s) l = atL s (rdN s) l, Int.toNat ((i:Int) + 1) ≤ l.n ∧ ∀ (j : Nat), j < ((i:Int) + 1).toNat → bxOK l j = 0, l.n - ((i:Int) + 1).toNat < l.n - i])))))))))))))) (.loop Nat (fun a => a ≤ s.nM) (0:Int).toNat (((0:Int) = (↑(0:Int).toNat : Int)) :: (((0:Nat) = 0) :: ((flN (bkP s l) (0:Int).toNat = 0) :: (Blocked_cr1 l (Blocked_cr2 s ((flN (bkP s l) (0:Int).toNat = 0) :: (Blocked_cr0 s (Blocked_cr0 s [∀ (l : List Int), atH s (rdN s) l = atH s (rdN s) l, ∀ (l : List Int), atH s (rdN s) l = true → atL s (rdN s) l = atL s (rdN s) l])))))))) fun i_1 => .ite (decide ((i_1:Int) < (s.nM:Int))) (.need [(0:Int) ≤ (i_1:Int) ∧ (i_1:Int) < (s.nM:Int)] (.need [FnC prog 40 [.lst l.n [fun i => (dI (l.x1 i)), fun i => (dI (l.y1 i)), fun i => (dI (l.z1 i)), fun i => (dI (l.x2 i)), fun i => (dI (l.y2 i)), fun i => (dI (l.z2 i))], .clo (41:Nat) [.cptr [.lst s.nN [fun i => (dI (s.X i)), fun i => (dI (s.Y i)), fun i => (dI (s.Z i))], .lst s.nM [fun i => (dI (s.K i)), fun i => (dI (s.A i)), fun i => (dI (s.B i))], DV.mp (KS.ints 3) (fun (l : List Int) => atH s (rdN s) l) fun (l : List Int) => (dI (atL s (rdN s) l))], .cptr [(dI (s.K (i_1:Int).toNat)), (dI (s.A (↑i_1 :
     Int).toNat)), (dI (s.B (i_1:Int).toNat))]]] ((dB (decide ((0:Int) ≤ ixF (mtB s (s.K (i_1:Int).toNat) (s.A (i_1:Int).toNat) (s.B (i_1:Int).toNat) l) l.n))))] (.ite (decide ((0:Int) ≤ ixF (mtB s (s.K (i_1:Int).toNat) (s.A (i_1:Int).toNat) (s.B (i_1:Int).toNat) l) l.n)) (.need [flN (bkP s l) i_1 ≤ flN (bkP s l) i_1, (flN (bkP s l) i_1 + 1) * (nat_lit 7 + 1) ≤ 140737488355328, (1:Nat) ≤ 1] (.need [i64In ((i_1:Int) + 1)] (.done (((i_1:Int) + 1 = (↑((i_1:Int) + 1).toNat : Int)) :: (((0:Nat) = 0) :: ((flN (bkP s l) i_1 + 1 = flN (bkP s l) ((i_1:Int) + 1).toNat) :: (Blocked_cr1 l (Blocked_cr2 s ((flN (bkP s l) i_1 + 1 = flN (bkP s l) ((i_1:Int) + 1).toNat) :: ((∀ i < flN (bkP s l) ((i_1:Int) + 1).toNat, (if decide (i < flN (bkP s l) i_1) = true then (↑(flI (bkP s l) i_1 i) : Int) else (i_1:Int)) = (↑(flI (bkP s l) ((i_1:Int) + 1).toNat i) : Int)) :: (Blocked_cr0 s (Blocked_cr0 s [∀ (l : List Int), atH s (rdN s) l = atH s (rdN s) l, ∀ (l : List Int), atH s (rdN s) l = true → atL s (rdN s) l = atL s (rdN s) l, Int.toNat ((i_1:Int) + 1) ≤ s.nM, s.nM - ((i_1:Int) + 1).toNat < s.nM - i_1])))))))))))) (.need [i64In ((i_1:Int) + 1)] (.done (((i_1:Int) + 1 = (↑((i_1:Int) + 1).toNat : Int)) :: (((0:Nat) = 0) :: ((flN (bkP s l) i_1 = flN (bkP s l) ((i_1:Int) + 1).toNat) :: (Blocked_cr1 l (Blocked_cr2 s ((flN (bkP s l) i_1 = flN (bkP s l) ((i_1:Int) + 1).toNat) :: ((∀ i < flN (bkP s l) ((i_1:Int) + 1).toNat, (↑(flI (bkP s l) i_1 i) : Int) = (↑(flI (bkP s l) ((i_1:Int) + 1).toNat i) : Int)) :: (Blocked_cr0 s (Blocked_cr0 s [∀ (l : List Int), atH s (rdN s) l = atH s (rdN s) l, ∀ (l : List Int),
     atH s (rdN s) l = true → atL s (rdN s) l = atL s (rdN s) l, Int.toNat ((i_1:Int) + 1) ≤ s.nM, s.nM - ((i_1:Int) + 1).toNat < s.nM - i_1])))))))))))))) (.done [flN (bkP s l) i_1 ≤ flN (bkP s l) i_1, flN (bkP s l) i_1 = bkN s l, ∀ i < bkN s l, (↑(flI (bkP s l) i_1 i) : Int) = (↑(flI (bkP s l) s.nM i) : Int), (0:Int) = bkE s l])))))) (by kernel_rfl) ?_
  simp only [VT.holds, AllT, Blocked_cr0, Blocked_cr1, Blocked_cr2, Sq]
  refine ⟨read_c s, fun h => ⟨by rw [bkN, bkE, if_pos h, if_neg h], by rw [bkE, if_pos h]⟩, fun h0 => ⟨fun h => ?_, fun h50 => ?_⟩⟩
  · have e : bkE s l = 8 := by rw [bkE, if_neg (by rw [h0]; decide), if_pos (by omega)]
    exact ⟨by rw [bkN, e, if_neg (by decide)], e.symm⟩
  · have eE : bkE s l = firstE (bxOK l) l.n := by rw [bkE, if_neg (by rw [h0]; decide), if_neg (by omega)]
    have hc := chk_facts h0
    have hm := hc.nM
    refine ⟨rfl, ⟨Nat.zero_le _, fun j hj => absurd hj (Nat.not_lt_zero j)⟩, fun i ⟨hi, hb⟩ => ⟨fun hlt => ?_, fun hge => ?_⟩⟩
    · have hlt : i < l.n := by omega
      refine ⟨by omega, checkBox_c _ _ _ _ _ _, fun h => ?_, fun h => ⟨by unfold i64In; omega, by omega, ⟨by omega, fun j hj => ?_⟩, by omega⟩⟩
      · have h : ¬ bxOK l i = 0 := h
        have h1 := firstE_at hb h hlt
        rw [← eE] at h1
        exact ⟨by rw [bkN, h1, if_neg h], h1.symm⟩
      · rcases Nat.lt_or_ge j i with h9 | h9
        · exact hb j h9
        · obtain rfl : j = i := by omega
          exact h
    · obtain rfl : i = l.n := by omega
      have e0 : bkE s l = 0 := by rw [eE]; exact firstE_none hb
      refine ⟨⟨rfl, rfl, rfl⟩, Nat.zero_le _, fun i hi => ⟨fun hlt => ?_, fun hge => ?_⟩⟩
      · have hlt : i < s.nM := by omega
        obtain ⟨hA, hB⟩ := hc.ends i hlt
        have := flN_le (bkP s l) i
        refine ⟨by omega, ?_, fun h => ?_, fun h => ?_⟩
        · rw [rdN_ok h0]
          exact contains_c s _ _ _ l hc hA hB ⟨by omega, hb⟩
        · have hp : bkP s l i = true := decide_eq_true h
          exact ⟨⟨Nat.le_refl _, by omega, Nat.le_refl _⟩, by unfold i64In; omega, by omega, (flN_yes hp).symm, (flN_yes hp).symm, fun j hj => flI_yes' hp (fun q : Nat => (q : Int)) hj, by omega, by omega⟩
        · have hp : ¬ bkP s l i = true := by rw [bkP, decide_eq_true_eq]; exact h
          exact ⟨by unfold i64In; omega, by omega, (flN_no hp).symm, (flN_no hp).symm, fun j _ => by rw [flI_no hp], by omega, by omega⟩
      · obtain rfl : i = s.nM := by omega
        exact ⟨Nat.le_refl _, by rw [bkN, if_pos e0], fun _ _ => rfl, e0.symm⟩
end Go.Abs
end
