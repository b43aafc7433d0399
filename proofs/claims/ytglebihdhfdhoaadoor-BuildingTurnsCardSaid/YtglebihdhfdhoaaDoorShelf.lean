/-
  DERIVED: THE SHELF's CONTRACTS AT THIS DUMP, IN PLAIN WORDS (tools/lay-plain.mjs out of 'YtglebihdhfdhoaaDoorShelf.lean', which tools/lay-shelf.mjs wrote): THE SAME DECLARATIONS UNDER THE SAME NAMES: 'import', 'namespace', 'open', 'def', 'theorem' AND NOTHING ELSE: no command of the shelf's: FOR A HAND-IN. Each laying: the table of numbers ('.._ren') and one theorem, a field a fact of the dump's own or the kernel's comparison; each contract: ONE APPLICATION.
-/
import Derived.Shelf.Sort.Plain
import Derived.Shelf.Slices.CompactI
import Derived.Ground.Names2Prog
import Derived.Ground.NamesProg
import Derived.Test.YtglebihdhfdhoaaDoorProg
namespace Go.Proofs
open Go.Shelf
def Tryd.sortI_ren : Go.Shelf.Ren := ⟨fun | 189 => 94 | 125 => 97 | 257 => 96 | 128 => 107 | 129 => 108 | 294 => 98 | 295 => 99 | 296 => 100 | 297 => 101 | 298 => 102 | 299 => 103 | 216 => 104 | 300 => 105 | 301 => 106 | 328 => 109 | 329 => 110 | 330 => 111 | 331 => 112 | 332 => 113 | 215 => 114 | 343 => 115 | n => n, fun | 28 => 72 | 3 => 3 | 46 => 139 | 0 => 0 | 51 => 148 | 53 => 150 | 4 => 4 | 183 => 142 | 182 => 141 | 131 => 113 | 5 => 5 | 9 => 9 | 218 => 151 | 222 => 155 | 228 => 157 | 229 => 94 | n => n, fun | n => n⟩
theorem Tryd.sortI : Go.Proofs.Lays.n189 Tryd.prog Tryd.sortI_ren := {
  mixed := by kernel_rfl
  f125 := Tryd.func97.trans (congrArg some (by kernel_rfl))
  f128 := Tryd.func107.trans (congrArg some (by kernel_rfl))
  f129 := Tryd.func108.trans (congrArg some (by kernel_rfl))
  f189 := Tryd.func94.trans (congrArg some (by kernel_rfl))
  f215 := Tryd.func114.trans (congrArg some (by kernel_rfl))
  f216 := Tryd.func104.trans (congrArg some (by kernel_rfl))
  f257 := Tryd.func96.trans (congrArg some (by kernel_rfl))
  f294 := Tryd.func98.trans (congrArg some (by kernel_rfl))
  f295 := Tryd.func99.trans (congrArg some (by kernel_rfl))
  f296 := Tryd.func100.trans (congrArg some (by kernel_rfl))
  f297 := Tryd.func101.trans (congrArg some (by kernel_rfl))
  f298 := Tryd.func102.trans (congrArg some (by kernel_rfl))
  f299 := Tryd.func103.trans (congrArg some (by kernel_rfl))
  f300 := Tryd.func105.trans (congrArg some (by kernel_rfl))
  f301 := Tryd.func106.trans (congrArg some (by kernel_rfl))
  f328 := Tryd.func109.trans (congrArg some (by kernel_rfl))
  f329 := Tryd.func110.trans (congrArg some (by kernel_rfl))
  f330 := Tryd.func111.trans (congrArg some (by kernel_rfl))
  f331 := Tryd.func112.trans (congrArg some (by kernel_rfl))
  f332 := Tryd.func113.trans (congrArg some (by kernel_rfl))
  f343 := Tryd.func115.trans (congrArg some (by kernel_rfl))
  t0 := Tryd.underlying0
  a0 := Tryd.isAgg0
  z0 := Tryd.sizeOf0
  v0 := Tryd.zeroValue0
  t3 := Tryd.underlying3
  a3 := Tryd.isAgg3
  z3 := Tryd.sizeOf3
  v3 := Tryd.zeroValue3
  t4 := Tryd.underlying4
  a4 := Tryd.isAgg4
  z4 := Tryd.sizeOf4
  v4 := Tryd.zeroValue4
  t5 := Tryd.underlying5
  a5 := Tryd.isAgg5
  z5 := Tryd.sizeOf5
  v5 := Tryd.zeroValue5
  t9 := Tryd.underlying9
  a9 := Tryd.isAgg9
  z9 := Tryd.sizeOf9
  v9 := Tryd.zeroValue9
  t28 := Tryd.underlying72
  a28 := Tryd.isAgg72
  z28 := Tryd.sizeOf72
  v28 := Tryd.zeroValue72
  t46 := Tryd.underlying139
  a46 := Tryd.isAgg139
  z46 := Tryd.sizeOf139
  v46 := Tryd.zeroValue139
  t51 := Tryd.underlying148
  a51 := Tryd.isAgg148
  z51 := Tryd.sizeOf148
  v51 := Tryd.zeroValue148
  t53 := Tryd.underlying150
  a53 := Tryd.isAgg150
  z53 := Tryd.sizeOf150
  v53 := Tryd.zeroValue150
  t131 := Tryd.underlying113
  a131 := Tryd.isAgg113
  z131 := Tryd.sizeOf113
  v131 := Tryd.zeroValue113
  t182 := Tryd.underlying141
  a182 := Tryd.isAgg141
  z182 := Tryd.sizeOf141
  v182 := Tryd.zeroValue141
  t183 := Tryd.underlying142
  a183 := Tryd.isAgg142
  z183 := Tryd.sizeOf142
  v183 := Tryd.zeroValue142
  t218 := Tryd.underlying151
  a218 := Tryd.isAgg151
  z218 := Tryd.sizeOf151
  v218 := Tryd.zeroValue151
  t222 := Tryd.underlying155
  a222 := Tryd.isAgg155
  z222 := Tryd.sizeOf155
  v222 := Tryd.zeroValue155
  t228 := Tryd.underlying157
  a228 := Tryd.isAgg157
  z228 := Tryd.sizeOf157
  v228 := Tryd.zeroValue157
  t229 := Tryd.underlying94
  a229 := Tryd.isAgg94
  z229 := Tryd.sizeOf94
  v229 := Tryd.zeroValue94 }
def Tryd.compI_ren : Go.Shelf.Ren := ⟨fun | 20 => 95 | n => n, fun | 22 => 72 | 3 => 3 | 4 => 4 | 0 => 0 | n => n, fun | n => n⟩
theorem Tryd.compI : Go.Proofs.Lays2.n20 Tryd.prog Tryd.compI_ren := {
  mixed := by kernel_rfl
  f20 := Tryd.func95.trans (congrArg some (by kernel_rfl))
  t0 := Tryd.underlying0
  a0 := Tryd.isAgg0
  z0 := Tryd.sizeOf0
  v0 := Tryd.zeroValue0
  t3 := Tryd.underlying3
  a3 := Tryd.isAgg3
  z3 := Tryd.sizeOf3
  v3 := Tryd.zeroValue3
  t4 := Tryd.underlying4
  a4 := Tryd.isAgg4
  z4 := Tryd.sizeOf4
  v4 := Tryd.zeroValue4
  t22 := Tryd.underlying72
  a22 := Tryd.isAgg72
  z22 := Tryd.sizeOf72
  v22 := Tryd.zeroValue72
  i3 := by kernel_rfl }
end Go.Proofs
