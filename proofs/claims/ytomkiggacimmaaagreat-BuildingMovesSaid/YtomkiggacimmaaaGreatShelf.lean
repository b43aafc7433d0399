/-
  DERIVED: THE SHELF's CONTRACTS AT THIS DUMP, IN PLAIN WORDS (tools/lay-plain.mjs out of 'YtomkiggacimmaaaGreatShelf.lean', which tools/lay-shelf.mjs wrote): THE SAME DECLARATIONS UNDER THE SAME NAMES: 'import', 'namespace', 'open', 'def', 'theorem' AND NOTHING ELSE: no command of the shelf's: FOR A HAND-IN. Each laying: the table of numbers ('.._ren') and one theorem, a field a fact of the dump's own or the kernel's comparison; each contract: ONE APPLICATION.
-/
import Derived.Shelf.Sort.Plain
import Derived.Shelf.Slices.CompactI
import Derived.Ground.Names2Prog
import Derived.Ground.NamesProg
import Derived.Test.YtomkiggacimmaaaGreatProg
namespace Go.Proofs
open Go.Shelf
def Tryz.sortI_ren : Go.Shelf.Ren := ⟨fun | 189 => 83 | 125 => 86 | 257 => 85 | 128 => 96 | 129 => 97 | 294 => 87 | 295 => 88 | 296 => 89 | 297 => 90 | 298 => 91 | 299 => 92 | 216 => 93 | 300 => 94 | 301 => 95 | 328 => 98 | 329 => 99 | 330 => 100 | 331 => 101 | 332 => 102 | 215 => 103 | 343 => 104 | n => n, fun | 28 => 43 | 3 => 3 | 46 => 116 | 0 => 0 | 51 => 125 | 53 => 127 | 4 => 4 | 183 => 119 | 182 => 118 | 131 => 104 | 5 => 5 | 9 => 9 | 218 => 128 | 222 => 132 | 228 => 134 | 229 => 135 | n => n, fun | n => n⟩
theorem Tryz.sortI : Go.Proofs.Lays.n189 Tryz.prog Tryz.sortI_ren := {
  mixed := by kernel_rfl
  f125 := Tryz.func86.trans (congrArg some (by kernel_rfl))
  f128 := Tryz.func96.trans (congrArg some (by kernel_rfl))
  f129 := Tryz.func97.trans (congrArg some (by kernel_rfl))
  f189 := Tryz.func83.trans (congrArg some (by kernel_rfl))
  f215 := Tryz.func103.trans (congrArg some (by kernel_rfl))
  f216 := Tryz.func93.trans (congrArg some (by kernel_rfl))
  f257 := Tryz.func85.trans (congrArg some (by kernel_rfl))
  f294 := Tryz.func87.trans (congrArg some (by kernel_rfl))
  f295 := Tryz.func88.trans (congrArg some (by kernel_rfl))
  f296 := Tryz.func89.trans (congrArg some (by kernel_rfl))
  f297 := Tryz.func90.trans (congrArg some (by kernel_rfl))
  f298 := Tryz.func91.trans (congrArg some (by kernel_rfl))
  f299 := Tryz.func92.trans (congrArg some (by kernel_rfl))
  f300 := Tryz.func94.trans (congrArg some (by kernel_rfl))
  f301 := Tryz.func95.trans (congrArg some (by kernel_rfl))
  f328 := Tryz.func98.trans (congrArg some (by kernel_rfl))
  f329 := Tryz.func99.trans (congrArg some (by kernel_rfl))
  f330 := Tryz.func100.trans (congrArg some (by kernel_rfl))
  f331 := Tryz.func101.trans (congrArg some (by kernel_rfl))
  f332 := Tryz.func102.trans (congrArg some (by kernel_rfl))
  f343 := Tryz.func104.trans (congrArg some (by kernel_rfl))
  t0 := Tryz.underlying0
  a0 := Tryz.isAgg0
  z0 := Tryz.sizeOf0
  v0 := Tryz.zeroValue0
  t3 := Tryz.underlying3
  a3 := Tryz.isAgg3
  z3 := Tryz.sizeOf3
  v3 := Tryz.zeroValue3
  t4 := Tryz.underlying4
  a4 := Tryz.isAgg4
  z4 := Tryz.sizeOf4
  v4 := Tryz.zeroValue4
  t5 := Tryz.underlying5
  a5 := Tryz.isAgg5
  z5 := Tryz.sizeOf5
  v5 := Tryz.zeroValue5
  t9 := Tryz.underlying9
  a9 := Tryz.isAgg9
  z9 := Tryz.sizeOf9
  v9 := Tryz.zeroValue9
  t28 := Tryz.underlying43
  a28 := Tryz.isAgg43
  z28 := Tryz.sizeOf43
  v28 := Tryz.zeroValue43
  t46 := Tryz.underlying116
  a46 := Tryz.isAgg116
  z46 := Tryz.sizeOf116
  v46 := Tryz.zeroValue116
  t51 := Tryz.underlying125
  a51 := Tryz.isAgg125
  z51 := Tryz.sizeOf125
  v51 := Tryz.zeroValue125
  t53 := Tryz.underlying127
  a53 := Tryz.isAgg127
  z53 := Tryz.sizeOf127
  v53 := Tryz.zeroValue127
  t131 := Tryz.underlying104
  a131 := Tryz.isAgg104
  z131 := Tryz.sizeOf104
  v131 := Tryz.zeroValue104
  t182 := Tryz.underlying118
  a182 := Tryz.isAgg118
  z182 := Tryz.sizeOf118
  v182 := Tryz.zeroValue118
  t183 := Tryz.underlying119
  a183 := Tryz.isAgg119
  z183 := Tryz.sizeOf119
  v183 := Tryz.zeroValue119
  t218 := Tryz.underlying128
  a218 := Tryz.isAgg128
  z218 := Tryz.sizeOf128
  v218 := Tryz.zeroValue128
  t222 := Tryz.underlying132
  a222 := Tryz.isAgg132
  z222 := Tryz.sizeOf132
  v222 := Tryz.zeroValue132
  t228 := Tryz.underlying134
  a228 := Tryz.isAgg134
  z228 := Tryz.sizeOf134
  v228 := Tryz.zeroValue134
  t229 := Tryz.underlying135
  a229 := Tryz.isAgg135
  z229 := Tryz.sizeOf135
  v229 := Tryz.zeroValue135 }
def Tryz.compI_ren : Go.Shelf.Ren := ⟨fun | 20 => 84 | n => n, fun | 22 => 43 | 3 => 3 | 4 => 4 | 0 => 0 | n => n, fun | n => n⟩
theorem Tryz.compI : Go.Proofs.Lays2.n20 Tryz.prog Tryz.compI_ren := {
  mixed := by kernel_rfl
  f20 := Tryz.func84.trans (congrArg some (by kernel_rfl))
  t0 := Tryz.underlying0
  a0 := Tryz.isAgg0
  z0 := Tryz.sizeOf0
  v0 := Tryz.zeroValue0
  t3 := Tryz.underlying3
  a3 := Tryz.isAgg3
  z3 := Tryz.sizeOf3
  v3 := Tryz.zeroValue3
  t4 := Tryz.underlying4
  a4 := Tryz.isAgg4
  z4 := Tryz.sizeOf4
  v4 := Tryz.zeroValue4
  t22 := Tryz.underlying43
  a22 := Tryz.isAgg43
  z22 := Tryz.sizeOf43
  v22 := Tryz.zeroValue43
  i3 := by kernel_rfl }
end Go.Proofs
