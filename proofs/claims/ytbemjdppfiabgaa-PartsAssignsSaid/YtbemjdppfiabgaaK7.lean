/- Contracts. -/
import Derived.Test.YtbemjdppfiabgaaK6
set_option linter.unusedVariables false
set_option linter.unusedSimpArgs false
set_option maxRecDepth 100000
namespace Go.Abs
open Go
def rLes (q : List DV) : DV := dB (lesR (fI 0 (arg q 0)) (fI 1 (arg q 0)) (fI 0 (arg q 1)) (fI 1 (arg q 1)))
/-- The part of the way behind a coordinate. -/
structure Way where
  f1 : Int
  f2 : Int
  t1 : Int
  t2 : Int
def Way.ok (w : Way) : Prop := bd7 w.f1 ∧ bd7 w.f2 ∧ bd7 w.t1 ∧ bd7 w.t2
def wst (w : Way) (a b lo hi : Int) : Way := ⟨cF1 w.f1 w.f2 a b lo hi, cF2 w.f1 w.f2 a b lo hi, cT1 w.t1 w.t2 a b lo hi, cT2 w.t1 w.t2 a b lo hi⟩
def w1 (ax bx x1 x2 : Int) : Way := wst ⟨-1, 1, 2, 1⟩ ax bx x1 x2
def w2 (ax ay bx by_ x1 y1 x2 y2 : Int) : Way := wst (w1 ax bx x1 x2) ay by_ y1 y2
def w3 (ax ay az bx by_ bz x1 y1 z1 x2 y2 z2 : Int) : Way := wst (w2 ax ay bx by_ x1 y1 x2 y2) az bz z1 z2
def crE (w : Way) : Bool := lesR w.f1 w.f2 w.t1 w.t2 && (lesR w.f1 w.f2 1 1 && lesR 0 1 w.t1 w.t2)
def crs (ax ay az bx by_ bz x1 y1 z1 x2 y2 z2 : Int) : Bool := cutB ax bx x1 x2 && (cutB ay by_ y1 y2 && (cutB az bz z1 z2 && crE (w3 ax ay az bx by_ bz x1 y1 z1 x2 y2 z2)))
def wWr (w : Way) (ok : Bool) : List WO × DV := ([.box [dI w.f1, dI w.f2], .box [dI w.t1, dI w.t2]], dB ok)
theorem wst_ok {w : Way} {a b lo hi : Int} (h : w.ok) (ha : bd6 a) (hb : bd6 b) (hl : bd6 lo) (hh : bd6 hi) : (wst w a b lo hi).ok := by
  obtain ⟨h1, h2, h3, h4⟩ := h
  refine ⟨?_, ?_, ?_, ?_⟩
  · show bd7 (cF1 _ _ _ _ _ _)
    unfold cF1
    by_cases e : a = b
    · rw [if_pos e]; exact h1
    · rw [if_neg e]
      by_cases g : lesR w.f1 w.f2 (cL a b lo hi - cA a b) (cB a b - cA a b) = true
      · rw [if_pos g]; unfold cL cA; split <;> omega
      · rw [if_neg g]; exact h1
  · show bd7 (cF2 _ _ _ _ _ _)
    unfold cF2
    by_cases e : a = b
    · rw [if_pos e]; exact h2
    · rw [if_neg e]
      by_cases g : lesR w.f1 w.f2 (cL a b lo hi - cA a b) (cB a b - cA a b) = true
      · rw [if_pos g]; unfold cB cA; split <;> omega
      · rw [if_neg g]; exact h2
  · show bd7 (cT1 _ _ _ _ _ _)
    unfold cT1
    by_cases e : a = b
    · rw [if_pos e]; exact h3
    · rw [if_neg e]
      by_cases g : lesR (cH a b lo hi - cA a b) (cB a b - cA a b) w.t1 w.t2 = true
      · rw [if_pos g]; unfold cH cA; split <;> omega
      · rw [if_neg g]; exact h3
  · show bd7 (cT2 _ _ _ _ _ _)
    unfold cT2
    by_cases e : a = b
    · rw [if_pos e]; exact h4
    · rw [if_neg e]
      by_cases g : lesR (cH a b lo hi - cA a b) (cB a b - cA a b) w.t1 w.t2 = true
      · rw [if_pos g]; unfold cB cA; split <;> omega
      · rw [if_neg g]; exact h4
abbrev d6 (x1 y1 z1 x2 y2 z2 : Int) : DV := .val (.agg #[.int .i64 x1, .int .i64 y1, .int .i64 z1, .int .i64 x2, .int .i64 y2, .int .i64 z2])
/-- The error of a box. -/
def bxE (x1 y1 z1 x2 y2 z2 : Int) : Int :=
  if (inC x1 && (inC y1 && inC z1)) = false ∨ (inC x2 && (inC y2 && inC z2)) = false then 2 else if x1 ≥ x2 ∨ y1 ≥ y2 ∨ z1 ≥ z2 then 3 else 0
noncomputable def A129_crosses_c (ax ay az bx by_ bz x1 y1 z1 x2 y2 z2 : Int) : Ann := { orc := [(2, [(8, .wr fun q => wWr (w1 ax bx x1 x2) (cutB ax bx x1 x2)), (19, .wr fun q => wWr (w2 ax ay bx by_ x1 y1 x2 y2) (cutB ay by_ y1 y2)), (31, .wr fun q => wWr (w3 ax ay az bx by_ bz x1 y1 z1 x2 y2 z2) (cutB az bz z1 z2))]), (4, [(2, .res rLes), (6, .res rLes), (11, .res rLes)])], loops := [], cuts := [] }
noncomputable abbrev q_crosses_c_0 (ax : Int) (bx : Int) (x1 : Int) (x2 : Int) (ay : Int) (by_ : Int) (y1 : Int) (y2 : Int) : Bool := !if (!cutB ax bx x1 x2) = true then true else !cutB ay by_ y1 y2
noncomputable abbrev q_crosses_c_1 (ax : Int) (bx : Int) (x1 : Int) (x2 : Int) (ay : Int) (by_ : Int) (y1 : Int) (y2 : Int) (az : Int) (bz : Int) (z1 : Int) (z2 : Int) : Bool := if lesR (if (q_crosses_c_0 ax bx x1 x2 ay by_ y1 y2) = true then (w3 ax ay az bx by_ bz x1 y1 z1 x2 y2 z2).1 else if (!!cutB ax bx x1 x2) = true then (w2 ax ay bx by_ x1 y1 x2 y2).1 else (w1 ax bx x1 x2).1) (if (q_crosses_c_0 ax bx x1 x2 ay by_ y1 y2) = true then (w3 ax ay az bx by_ bz x1 y1 z1 x2 y2 z2).2 else if (!!cutB ax bx x1 x2) = true then (w2 ax ay bx by_ x1 y1 x2 y2).2 else (w1 ax bx x1 x2).2) (if (q_crosses_c_0 ax bx x1 x2 ay by_ y1 y2) = true then (w3 ax ay az bx by_ bz x1 y1 z1 x2 y2 z2).3 else if (!!cutB ax bx x1 x2) = true then (w2 ax ay bx by_ x1 y1 x2 y2).3 else (w1 ax bx x1 x2).3) (if (q_crosses_c_0 ax bx x1 x2 ay by_ y1 y2) = true then (w3 ax ay az bx by_ bz x1 y1 z1 x2 y2 z2).4 else if (!!cutB ax bx x1 x2) = true then (w2 ax ay bx by_ x1 y1 x2 y2).4 else (w1 ax bx x1 x2).4) = true then lesR (if (q_crosses_c_0 ax bx x1 x2 ay by_ y1 y2) = true then (w3 ax ay az bx by_ bz x1 y1 z1 x2 y2 z2).1 else if (!!cutB ax bx x1 x2) = true then (w2 ax ay bx by_ x1 y1 x2 y2).1 else (w1 ax bx x1 x2).1) (if (q_crosses_c_0 ax bx x1 x2 ay by_ y1 y2) = true then (w3 ax ay az bx by_ bz x1 y1 z1 x2 y2 z2).2 else if (!!cutB ax bx x1 x2) = true then (w2 ax ay bx by_ x1 y1 x2 y2).2 else (w1 ax bx x1 x2).2) (1:Int) (1:Int) else false
theorem crosses_c (ax ay az bx by_ bz x1 y1 z1 x2 y2 z2 : Int) (hax : bd6 ax) (hay : bd6 ay) (haz : bd6 az) (hbx : bd6 bx) (hby : bd6 by_) (hbz : bd6 bz) (hx1 : bd6 x1) (hy1 : bd6 y1) (hz1 : bd6 z1) (hx2 : bd6 x2) (hy2 : bd6 y2) (hz2 : bd6 z2) : FnC prog 129 [dN ax ay az, dN bx by_ bz, d6 x1 y1 z1 x2 y2 z2] (dB (crs ax ay az bx by_ bz x1 y1 z1 x2 y2 z2)) := by
  refine FnC_owed hmix (A129_crosses_c ax ay az bx by_ bz x1 y1 z1 x2 y2 z2) (V := .need [FnW prog 157 [WA.box [(dI (-1:Int)), (dI (1:Int))] [(dI (w1 ax bx x1 x2).1), (dI (w1 ax bx x1 x2).2)], WA.box [(dI (2:Int)), (dI (1:Int))] [(dI (w1 ax bx x1 x2).3), (dI (w1 ax bx x1 x2).4)], WA.arg ((dI ax)), WA.arg ((dI bx)), WA.arg ((dI x1)), WA.arg ((dI x2))] ((dB (cutB ax bx x1 x2))), ri ((!!cutB ax bx x1 x2) = true), ri ((!!cutB ax bx x1 x2) = true), ri ((!!cutB ax bx x1 x2) = true), ri ((!!cutB ax bx x1 x2) = true), ri ((!!cutB ax bx x1 x2) = true), ri ((!!cutB ax bx x1 x2) = true), ri ((!!cutB ax bx x1 x2) = true), ri ((!!cutB ax bx x1 x2) = true), (!!cutB ax bx x1 x2) = true → FnW prog 157 [WA.box [(dI (w1 ax bx x1 x2).1), (dI (w1 ax bx x1 x2).2)] [(dI (w2 ax ay bx by_ x1 y1 x2 y2).1), (dI (w2 ax ay bx by_ x1 y1 x2 y2).2)], WA.box [(dI (w1 ax bx x1 x2).3), (dI (w1 ax bx x1 x2).4)] [(dI (w2 ax ay bx by_ x1 y1 x2 y2).3), (dI (w2 ax ay bx by_ x1 y1 x2 y2).4)], WA.arg ((dI ay)), WA.arg ((dI by_)), WA.arg ((dI y1)), WA.arg ((dI y2))] ((dB (cutB ay by_ y1 y2))), ri ((!!cutB ax bx x1 x2) = true), (!cutB ax bx x1 x2) = false → (!!cutB ax bx x1 x2) = true, ri ((q_crosses_c_0 ax bx x1 x2 ay by_ y1 y2) = true), ri ((q_crosses_c_0 ax bx x1 x2 ay by_ y1 y2) = true), ri ((q_crosses_c_0 ax bx x1 x2 ay by_ y1 y2) = true), ri ((q_crosses_c_0 ax bx x1 x2 ay by_ y1 y2) = true), ri ((q_crosses_c_0 ax bx x1 x2 ay by_ y1 y2) = true), ri ((q_crosses_c_0 ax bx x1 x2 ay by_ y1 y2) = true), ri ((q_crosses_c_0 ax bx x1 x2 ay by_ y1 y2) = true), ri ((q_crosses_c_0 ax bx x1 x2 ay by_ y1 y2) = true), (q_crosses_c_0 ax bx x1 x2 ay by_ y1 y2) = true → FnW prog 157 [WA.box [(dI (if (!!cutB ax bx x1 x2) = true then (w2 ax ay bx by_ x1 y1 x2 y2).1 else (w1 ax bx x1 x2).1)), (dI (if (!!cutB ax bx x1 x2) = true then (w2 ax ay bx by_ x1 y1 x2 y2).2 else (w1 ax bx x1 x2).2))] [(dI (w3 ax ay az bx by_ bz x1 y1 z1 x2 y2 z2).1), (dI (w3 ax ay az bx by_ bz x1 y1 z1 x2 y2 z2).2)], WA.box [(dI (if (!!cutB ax bx x1 x2) = true then (w2 ax ay bx by_ x1 y1 x2 y2).3 else (w1 ax bx x1 x2).3)), (dI (if (!!cutB ax bx x1 x2) = true then (w2 ax ay bx by_ x1 y1 x2 y2).4 else (w1 ax bx x1 x2).4))] [(dI (w3 ax ay az bx by_ bz x1 y1 z1 x2 y2 z2).3), (dI (w3 ax ay az bx by_ bz x1 y1 z1 x2 y2 z2).4)], WA.arg ((dI az)), WA.arg ((dI bz)), WA.arg ((dI z1)), WA.arg ((dI z2))] ((dB (cutB az bz z1 z2))), ri ((q_crosses_c_0 ax bx x1 x2 ay by_ y1 y2) = true), (if (!cutB ax bx x1 x2) = true then true else !cutB ay by_ y1 y2) = false → (q_crosses_c_0 ax bx x1 x2 ay by_ y1 y2) = true] (.ite (if (if (!cutB ax bx x1 x2) = true then true else !cutB ay by_ y1 y2) = true then true else !cutB az bz z1 z2) (.done [false = crs ax ay az bx by_ bz x1 y1 z1 x2 y2 z2]) (.need [FnC prog 158 [.val (.agg (Array.mk [.int .i64 (if (q_crosses_c_0 ax bx x1 x2 ay by_ y1 y2) = true then (w3 ax ay az bx by_ bz x1 y1 z1 x2 y2 z2).1 else if (!!cutB ax bx x1 x2) = true then (w2 ax ay bx by_ x1 y1 x2 y2).1 else (w1 ax bx x1 x2).1), .int .i64 (if (q_crosses_c_0 ax bx x1 x2 ay by_ y1 y2) = true then (w3 ax ay az bx by_ bz x1 y1 z1 x2 y2 z2).2 else if (!!cutB ax bx x1 x2) = true then (w2 ax ay bx by_ x1 y1 x2 y2).2 else (w1 ax bx x1 x2).2)])), .val (.agg (Array.mk [.int .i64 (if (q_crosses_c_0 ax bx x1 x2 ay by_ y1 y2) = true then (w3 ax ay az bx by_ bz x1 y1 z1 x2 y2 z2).3 else if (!!cutB ax bx x1 x2) = true then (w2 ax ay bx by_ x1 y1 x2 y2).3 else (w1
     ax bx x1 x2).3), .int .i64 (if (q_crosses_c_0 ax bx x1 x2 ay by_ y1 y2) = true then (w3 ax ay az bx by_ bz x1 y1 z1 x2 y2 z2).4 else if (!!cutB ax bx x1 x2) = true then (w2 ax ay bx by_ x1 y1 x2 y2).4 else (w1 ax bx x1 x2).4)]))] ((dB (lesR (if (q_crosses_c_0 ax bx x1 x2 ay by_ y1 y2) = true then (w3 ax ay az bx by_ bz x1 y1 z1 x2 y2 z2).1 else if (!!cutB ax bx x1 x2) = true then (w2 ax ay bx by_ x1 y1 x2 y2).1 else (w1 ax bx x1 x2).1) (if (q_crosses_c_0 ax bx x1 x2 ay by_ y1 y2) = true then (w3 ax ay az bx by_ bz x1 y1 z1 x2 y2 z2).2 else if (!!cutB ax bx x1 x2) = true then (w2 ax ay bx by_ x1 y1 x2 y2).2 else (w1 ax bx x1 x2).2) (if (q_crosses_c_0 ax bx x1 x2 ay by_ y1 y2) = true then (w3 ax ay az bx by_ bz x1 y1 z1 x2 y2 z2).3 else if (!!cutB ax bx x1 x2) = true then (w2 ax ay bx by_ x1 y1 x2 y2).3 else (w1 ax bx x1 x2).3) (if (q_crosses_c_0 ax bx x1 x2 ay by_ y1 y2) = true then (w3 ax ay az bx by_ bz x1 y1 z1 x2 y2 z2).4 else if (!!cutB ax bx x1 x2) = true then (w2 ax ay bx by_ x1 y1 x2 y2).4 else (w1 ax bx x1 x2).4)))), ri (lesR (if (q_crosses_c_0 ax bx x1 x2 ay by_ y1 y2) = true then (w3 ax ay az bx by_ bz x1 y1 z1 x2 y2 z2).1 else if (!!cutB ax bx x1 x2) = true then (w2 ax ay bx by_ x1 y1 x2 y2).1 else (w1 ax bx x1 x2).1) (if (q_crosses_c_0 ax bx x1 x2 ay by_ y1 y2) = true then (w3 ax ay az bx by_ bz x1 y1 z1 x2 y2 z2).2 else if (!!cutB ax bx x1 x2) = true then (w2 ax ay bx by_ x1 y1 x2 y2).2 else (w1 ax bx x1 x2).2) (if (q_crosses_c_0 ax bx x1 x2 ay by_ y1 y2) = true then (w3 ax ay az bx by_ bz x1 y1 z1 x2 y2 z2).3 else if (!!cutB ax bx x1 x2) = true then (w2 ax ay bx by_ x1 y1 x2 y2).3 else (w1 ax bx x1 x2).3) (if (q_crosses_c_0 ax bx x1 x2 ay by_ y1 y2) = true then (w3 ax ay az bx by_ bz x1 y1 z1 x2 y2 z2).4 else if (!!cutB ax bx x1 x2) = true then (w2 ax ay bx by_ x1 y1 x2 y2).4 else (w1 ax bx x1 x2).4) = true), ri (lesR (if (q_crosses_c_0 ax bx x1 x2 ay by_ y1 y2) = true then (w3 ax ay az bx by_ bz x1 y1 z1 x2 y2 z2).1 else if (!!cutB ax bx x1 x2) = true then (w2 ax ay bx by_ x1 y1 x2 y2).1 else (w1 ax bx x1 x2).1) (if (q_crosses_c_0 ax bx x1 x2 ay by_ y1 y2) = true then (w3 ax ay az bx by_ bz x1 y1 z1 x2 y2 z2).2 else if (!!cutB ax bx x1 x2) = true then (w2 ax ay bx by_ x1 y1 x2 y2).2 else (w1 ax bx x1 x2).2) (if (q_crosses_c_0 ax bx x1 x2 ay by_ y1 y2) = true then (w3 ax ay az bx by_ bz x1 y1 z1 x2 y2 z2).3 else if (!!cutB ax bx x1 x2) = true then (w2 ax ay bx by_ x1 y1 x2 y2).3 else (w1 ax bx x1 x2).3) (if (q_crosses_c_0 ax bx x1 x2 ay by_ y1 y2) = true then (w3 ax ay az bx by_ bz x1 y1 z1 x2 y2 z2).4 else if (!!cutB ax bx x1 x2) = true then (w2 ax ay bx by_ x1 y1 x2 y2).4 else (w1 ax bx x1 x2).4) = true), lesR (if (q_crosses_c_0 ax bx x1 x2 ay by_ y1 y2) = true then (w3 ax ay az bx by_ bz x1 y1 z1 x2 y2 z2).1 else if (!!cutB ax bx x1 x2) = true then (w2 ax ay bx by_ x1 y1 x2 y2).1 else (w1 ax bx x1 x2).1) (if (q_crosses_c_0 ax bx x1 x2 ay by_ y1 y2) = true then (w3 ax ay az bx by_ bz x1 y1 z1 x2 y2 z2).2 else if (!!cutB ax bx x1 x2) = true then (w2 ax ay bx by_ x1 y1 x2 y2).2 else (w1 ax bx x1 x2).2) (if (q_crosses_c_0 ax bx x1 x2 ay by_ y1 y2) = true then (w3 ax ay az bx by_ bz x1 y1 z1 x2 y2 z2).3 else if (!!cutB ax bx x1 x2) = true then (w2 ax ay bx by_ x1 y1 x2 y2).3 else (w1 ax bx x1 x2).3) (if (q_crosses_c_0 ax bx x1 x2 ay by_ y1 y2) = true then (w3 ax ay az bx by_ bz x1 y1 z1 x2 y2 z2).4 else if (!!cutB ax bx x1 x2) = true then (w2 ax ay bx by_ x1 y1 x2 y2).4 else (w1 ax bx x1 x2).4) = true → FnC prog 158 [.val (.agg (Array.mk [.int .i64 (if (q_crosses_c_0 ax bx x1 x2 ay by_ y1 y2) = true then (w3 ax ay az bx by_ bz x1 y1 z1 x2 y2 z2).1 else if (!!cutB ax bx x1 x2) = true then (w2 ax ay bx by_ x1 y1 x2 y2).1 else (w1 ax bx x1 x2).1), .int .i64 (if (q_crosses_c_0 ax bx x1 x2 ay by_ y1 y2) = true then (w3 ax ay az bx by_ bz x1 y1 z1 x2 y2 z2).2 else if (!!cutB ax bx x1 x2) = true then (w2 ax ay bx by_ x1 y1 x2 y2).2 else (w1 ax bx x1 x2).2)])), .val (.agg (Array.mk [.int .i64 (1:Int), .int .i64 (1:Int)]))] ((dB (lesR (if (q_crosses_c_0 ax bx x1 x2 ay by_ y1 y2) = true then (w3 ax ay az bx by_ bz x1 y1 z1 x2 y2 z2).1 else if (!!cutB ax bx x1 x2) = true then (w2 ax ay bx by_ x1 y1 x2 y2).1 else (w1 ax bx x1 x2).1) (if (q_crosses_c_0 ax bx x1 x2 ay by_ y1 y2) = true then (w3 ax ay az bx by_ bz x1 y1 z1 x2 y2 z2).2 else if (!!cutB ax bx x1 x2) = true then (w2 ax ay bx by_ x1
     y1 x2 y2).2 else (w1 ax bx x1 x2).2) (1:Int) (1:Int)))), ri (lesR (if (q_crosses_c_0 ax bx x1 x2 ay by_ y1 y2) = true then (w3 ax ay az bx by_ bz x1 y1 z1 x2 y2 z2).1 else if (!!cutB ax bx x1 x2) = true then (w2 ax ay bx by_ x1 y1 x2 y2).1 else (w1 ax bx x1 x2).1) (if (q_crosses_c_0 ax bx x1 x2 ay by_ y1 y2) = true then (w3 ax ay az bx by_ bz x1 y1 z1 x2 y2 z2).2 else if (!!cutB ax bx x1 x2) = true then (w2 ax ay bx by_ x1 y1 x2 y2).2 else (w1 ax bx x1 x2).2) (if (q_crosses_c_0 ax bx x1 x2 ay by_ y1 y2) = true then (w3 ax ay az bx by_ bz x1 y1 z1 x2 y2 z2).3 else if (!!cutB ax bx x1 x2) = true then (w2 ax ay bx by_ x1 y1 x2 y2).3 else (w1 ax bx x1 x2).3) (if (q_crosses_c_0 ax bx x1 x2 ay by_ y1 y2) = true then (w3 ax ay az bx by_ bz x1 y1 z1 x2 y2 z2).4 else if (!!cutB ax bx x1 x2) = true then (w2 ax ay bx by_ x1 y1 x2 y2).4 else (w1 ax bx x1 x2).4) = true), ri ((q_crosses_c_1 ax bx x1 x2 ay by_ y1 y2 az bz z1 z2) = true), ri ((q_crosses_c_1 ax bx x1 x2 ay by_ y1 y2 az bz z1 z2) = true), (q_crosses_c_1 ax bx x1 x2 ay by_ y1 y2 az bz z1 z2) = true → FnC prog
     (158:Nat) [.val (.agg (Array.mk [.int .i64 (0:Int), .int .i64 (1:Int)])), .val (.agg (Array.mk [.int .i64 (if (q_crosses_c_0 ax bx x1 x2 ay by_ y1 y2) = true then (w3 ax ay az bx by_ bz x1 y1 z1 x2 y2 z2).3 else if (!!cutB ax bx x1 x2) = true then (w2 ax ay bx by_ x1 y1 x2 y2).3 else (w1 ax bx x1 x2).3), .int .i64 (if (q_crosses_c_0 ax bx x1 x2 ay by_ y1 y2) = true then (w3 ax ay az bx by_ bz x1 y1 z1 x2 y2 z2).4 else if (!!cutB ax bx x1 x2) = true then (w2 ax ay bx by_ x1 y1 x2 y2).4 else (w1 ax bx x1 x2).4)]))] ((dB (lesR (0:Int) (1:Int) (if (q_crosses_c_0 ax bx x1 x2 ay by_ y1 y2) = true then (w3 ax ay az bx by_ bz x1 y1 z1 x2 y2 z2).3 else if (!!cutB ax bx x1 x2) = true then (w2 ax ay bx by_ x1 y1 x2 y2).3 else (w1 ax bx x1 x2).3) (if (q_crosses_c_0 ax bx x1 x2 ay by_ y1 y2) = true then (w3 ax ay az bx by_ bz x1 y1 z1 x2 y2 z2).4 else if (!!cutB ax bx x1 x2) = true then (w2 ax ay bx by_ x1 y1 x2 y2).4 else (w1 ax bx x1 x2).4)))), ri ((q_crosses_c_1 ax bx x1 x2 ay by_ y1 y2 az bz z1 z2) = true)] (.done [(if (q_crosses_c_1 ax bx x1 x2 ay by_ y1 y2 az bz z1 z2) = true then lesR (0:Int) (1:Int) (if (q_crosses_c_0 ax bx x1 x2 ay by_ y1 y2) = true then (w3 ax ay az bx by_ bz x1 y1 z1 x2 y2 z2).3 else if (!!cutB ax bx x1 x2) = true then (w2 ax ay bx by_ x1 y1 x2 y2).3 else (w1 ax bx x1 x2).3) (if (q_crosses_c_0 ax bx x1 x2 ay by_ y1 y2) = true then (w3 ax ay az bx by_ bz x1 y1 z1 x2 y2 z2).4 else if (!!cutB ax bx x1 x2) = true then (w2 ax ay bx by_ x1 y1 x2 y2).4 else (w1 ax bx x1 x2).4) else false) = crs ax ay az bx by_ bz x1 y1 z1 x2 y2 z2])))) (by kernel_rfl) ?_
  simp only [q_crosses_c_0, q_crosses_c_1, VT.holds, AllT, Sq]
  have o0 : (⟨-1, 1, 2, 1⟩ : Way).ok := ⟨⟨by decide, by decide⟩, ⟨by decide, by decide⟩, ⟨by decide, by decide⟩, ⟨by decide, by decide⟩⟩
  have o1 : (w1 ax bx x1 x2).ok := wst_ok o0 hax hbx hx1 hx2
  have o2 : (w2 ax ay bx by_ x1 y1 x2 y2).ok := wst_ok o1 hay hby hy1 hy2
  have o3 : (w3 ax ay az bx by_ bz x1 y1 z1 x2 y2 z2).ok := wst_ok o2 haz hbz hz1 hz2
  have c1 := cut_c (-1) 1 2 1 ax bx x1 x2 o0.1 o0.2.1 o0.2.2.1 o0.2.2.2 hax hbx hx1 hx2
  have c2 := cut_c _ _ _ _ ay by_ y1 y2 o1.1 o1.2.1 o1.2.2.1 o1.2.2.2 hay hby hy1 hy2
  have c3 := cut_c _ _ _ _ az bz z1 z2 o2.1 o2.2.1 o2.2.2.1 o2.2.2.2 haz hbz hz1 hz2
  refine ⟨⟨c1, fun h => c2, fun h => ?_⟩, fun h => ?_, fun h => ?_⟩
  · have h1 : cutB ax bx x1 x2 = true := by simpa using h.1
    simp only [h1, if_true]
    exact c3
  · unfold crs
    rcases h with (h | h) | h <;> simp [h]
  · obtain ⟨h12, h3⟩ := h
    have h1 : cutB ax bx x1 x2 = true := by
      cases e : cutB ax bx x1 x2 with
      | true => rfl
      | false => exact absurd (.inl e) h12
    have h2 : cutB ay by_ y1 y2 = true := by
      cases e : cutB ay by_ y1 y2 with
      | true => rfl
      | false => exact absurd (.inr e) h12
    simp only [h1, h2, Bool.true_eq_false, not_false_eq_true, true_and, and_self, if_true]
    have one : bd7 1 := ⟨by decide, by decide⟩
    have zero : bd7 0 := ⟨by decide, by decide⟩
    refine ⟨⟨less_c _ _ _ _ o3.1 o3.2.1 o3.2.2.1 o3.2.2.2, fun _ => less_c _ _ _ _ o3.1 o3.2.1 one one, fun _ => less_c _ _ _ _ zero one o3.2.2.1 o3.2.2.2⟩, ?_⟩
    unfold crs crE
    rw [h1, h2, h3]
    generalize w3 ax ay az bx by_ bz x1 y1 z1 x2 y2 z2 = w
    cases lesR w.f1 w.f2 w.t1 w.t2 <;> cases lesR w.f1 w.f2 1 1 <;> cases lesR 0 1 w.t1 w.t2 <;> simp
noncomputable def A79_checkBox_c (x1 y1 z1 x2 y2 z2 : Int) : Ann := { orc := [(1, [(7, .res fun q => dB (inC (fI 0 (arg q 0)) && (inC (fI 1 (arg q 0)) && inC (fI 2 (arg q 0))))), (17, .res fun q => dB (inC (fI 0 (arg q 0)) && (inC (fI 1 (arg q 0)) && inC (fI 2 (arg q 0)))))])], loops := [], cuts := [] }
noncomputable abbrev q_checkBox_c_0 (x1 : Int) (y1 : Int) (z1 : Int) : Bool := !!(inC x1 && (inC y1 && inC z1))
noncomputable abbrev q_checkBox_c_1 (x1 : Int) (x2 : Int) (y1 : Int) (y2 : Int) : Bool := !if decide (x1 ≥ x2) = true then true else decide (y1 ≥ y2)
theorem checkBox_c (x1 y1 z1 x2 y2 z2 : Int)  : FnC prog 79 [d6 x1 y1 z1 x2 y2 z2] (dI (bxE x1 y1 z1 x2 y2 z2)) := by
  refine FnC_owed hmix (A79_checkBox_c x1 y1 z1 x2 y2 z2) (V := .need [FnC prog 125 [.val (.agg (Array.mk [.int .i64 x1, .int .i64 y1, .int .i64 z1]))] ((dB (inC x1 && (inC y1 && inC z1)))), ri ((q_checkBox_c_0 x1 y1 z1) = true), ri ((q_checkBox_c_0 x1 y1 z1) = true), ri ((q_checkBox_c_0 x1 y1 z1) = true), ri ((q_checkBox_c_0 x1 y1 z1) = true), ri ((q_checkBox_c_0 x1 y1 z1) = true), ri ((q_checkBox_c_0 x1 y1 z1) = true), ri ((q_checkBox_c_0 x1 y1 z1) = true), (q_checkBox_c_0 x1 y1 z1) = true → FnC prog 125 [.val (.agg (Array.mk [.int .i64 x2, .int .i64 y2, .int .i64 z2]))] ((dB (inC x2 && (inC y2 && inC z2)))), ri ((q_checkBox_c_0 x1 y1 z1) = true), (!(inC x1 && (inC y1 && inC z1))) = false → (q_checkBox_c_0 x1 y1 z1) = true] (.ite (if (!(inC x1 && (inC y1 && inC z1))) = true then true else !(inC x2 && (inC y2 && inC z2))) (.done [(2:Int) = bxE x1 y1 z1 x2 y2 z2]) (.need [ri ((!decide (x1 ≥ x2)) = true), ri ((!decide (x1 ≥ x2)) = true), ri ((!decide (x1 ≥ x2)) = true), ri ((!decide (x1 ≥ x2)) = true), decide (x1 ≥ x2) = false → (!decide (x1 ≥ x2)) = true, ri ((q_checkBox_c_1 x1 x2 y1 y2) = true), ri ((q_checkBox_c_1 x1 x2 y1 y2) = true), ri ((q_checkBox_c_1 x1 x2 y1 y2) = true), ri ((q_checkBox_c_1 x1 x2 y1 y2) = true), (if decide (x1 ≥ x2) = true then true else decide (y1 ≥ y2)) = false → (q_checkBox_c_1 x1 x2 y1 y2) = true] (.ite (if (if decide (x1 ≥ x2) = true then true else decide (y1 ≥ y2)) = true then true else decide (z1 ≥ z2)) (.done [(3:Int) = bxE x1 y1 z1 x2 y2 z2]) (.done [(0:Int) = bxE x1 y1 z1 x2 y2 z2]))))) (by kernel_rfl) ?_
  simp only [q_checkBox_c_0, q_checkBox_c_1, VT.holds, AllT, Sq]
  refine ⟨⟨inSpace_c _ _ _, fun _ => inSpace_c _ _ _⟩, fun h => ?_, fun ⟨h0, h3, h4, h5⟩ => ?_⟩
  · rw [bxE, if_pos]
    cases e1 : inC x1 <;> cases e2 : inC y1 <;> cases e3 : inC z1 <;> cases e4 : inC x2 <;> cases e5 : inC y2 <;> cases e6 : inC z2 <;> simp_all
  · have hn : ¬ ((inC x1 && (inC y1 && inC z1)) = false ∨ (inC x2 && (inC y2 && inC z2)) = false) := by
      cases e1 : inC x1 <;> cases e2 : inC y1 <;> cases e3 : inC z1 <;> simp_all
    refine ⟨fun h => ?_, fun h => ?_⟩
    · rw [bxE, if_neg hn, if_pos (by omega)]
    · rw [bxE, if_neg hn, if_neg (by omega)]
end Go.Abs
