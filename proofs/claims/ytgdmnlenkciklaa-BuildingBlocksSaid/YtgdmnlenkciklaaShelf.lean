/-
  DERIVED: THE SHELF's CONTRACTS AT THIS DUMP, IN PLAIN WORDS (tools/lay-plain.mjs out of 'YtgdmnlenkciklaaShelf.lean', which tools/lay-shelf.mjs wrote): THE SAME DECLARATIONS UNDER THE SAME NAMES: 'import', 'namespace', 'open', 'def', 'theorem' AND NOTHING ELSE: no command of the shelf's: FOR A HAND-IN. Each laying: the table of numbers ('.._ren') and one theorem, a field a fact of the dump's own or the kernel's comparison; each contract: ONE APPLICATION.
-/
import Derived.Test.YtgdmnlenkciklaaProg
import Derived.Shelf.Sort.Plain
import Derived.Shelf.Slices.CompactI
import Derived.Ground.Names2Prog
import Derived.Ground.NamesProg
namespace Go.Proofs
open Go.Shelf
def Try.sortI_ren : Go.Shelf.Ren := ⟨fun | 189 => 102 | 125 => 105 | 257 => 104 | 128 => 115 | 129 => 116 | 294 => 106 | 295 => 107 | 296 => 108 | 297 => 109 | 298 => 110 | 299 => 111 | 216 => 112 | 300 => 113 | 301 => 114 | 328 => 117 | 329 => 118 | 330 => 119 | 331 => 120 | 332 => 121 | 215 => 122 | 343 => 123 | n => n, fun | 28 => 39 | 3 => 3 | 46 => 141 | 0 => 0 | 51 => 150 | 53 => 152 | 4 => 4 | 183 => 144 | 182 => 143 | 131 => 126 | 5 => 5 | 9 => 9 | 218 => 153 | 222 => 157 | 228 => 159 | 229 => 160 | n => n, fun | n => n⟩
theorem Try.sortI : Go.Proofs.Lays.n189 Try.prog Try.sortI_ren := {
  mixed := by kernel_rfl
  f125 := Try.func105.trans (congrArg some (by kernel_rfl))
  f128 := Try.func115.trans (congrArg some (by kernel_rfl))
  f129 := Try.func116.trans (congrArg some (by kernel_rfl))
  f189 := Try.func102.trans (congrArg some (by kernel_rfl))
  f215 := Try.func122.trans (congrArg some (by kernel_rfl))
  f216 := Try.func112.trans (congrArg some (by kernel_rfl))
  f257 := Try.func104.trans (congrArg some (by kernel_rfl))
  f294 := Try.func106.trans (congrArg some (by kernel_rfl))
  f295 := Try.func107.trans (congrArg some (by kernel_rfl))
  f296 := Try.func108.trans (congrArg some (by kernel_rfl))
  f297 := Try.func109.trans (congrArg some (by kernel_rfl))
  f298 := Try.func110.trans (congrArg some (by kernel_rfl))
  f299 := Try.func111.trans (congrArg some (by kernel_rfl))
  f300 := Try.func113.trans (congrArg some (by kernel_rfl))
  f301 := Try.func114.trans (congrArg some (by kernel_rfl))
  f328 := Try.func117.trans (congrArg some (by kernel_rfl))
  f329 := Try.func118.trans (congrArg some (by kernel_rfl))
  f330 := Try.func119.trans (congrArg some (by kernel_rfl))
  f331 := Try.func120.trans (congrArg some (by kernel_rfl))
  f332 := Try.func121.trans (congrArg some (by kernel_rfl))
  f343 := Try.func123.trans (congrArg some (by kernel_rfl))
  t0 := Try.underlying0
  a0 := Try.isAgg0
  z0 := Try.sizeOf0
  v0 := Try.zeroValue0
  t3 := Try.underlying3
  a3 := Try.isAgg3
  z3 := Try.sizeOf3
  v3 := Try.zeroValue3
  t4 := Try.underlying4
  a4 := Try.isAgg4
  z4 := Try.sizeOf4
  v4 := Try.zeroValue4
  t5 := Try.underlying5
  a5 := Try.isAgg5
  z5 := Try.sizeOf5
  v5 := Try.zeroValue5
  t9 := Try.underlying9
  a9 := Try.isAgg9
  z9 := Try.sizeOf9
  v9 := Try.zeroValue9
  t28 := Try.underlying39
  a28 := Try.isAgg39
  z28 := Try.sizeOf39
  v28 := Try.zeroValue39
  t46 := Try.underlying141
  a46 := Try.isAgg141
  z46 := Try.sizeOf141
  v46 := Try.zeroValue141
  t51 := Try.underlying150
  a51 := Try.isAgg150
  z51 := Try.sizeOf150
  v51 := Try.zeroValue150
  t53 := Try.underlying152
  a53 := Try.isAgg152
  z53 := Try.sizeOf152
  v53 := Try.zeroValue152
  t131 := Try.underlying126
  a131 := Try.isAgg126
  z131 := Try.sizeOf126
  v131 := Try.zeroValue126
  t182 := Try.underlying143
  a182 := Try.isAgg143
  z182 := Try.sizeOf143
  v182 := Try.zeroValue143
  t183 := Try.underlying144
  a183 := Try.isAgg144
  z183 := Try.sizeOf144
  v183 := Try.zeroValue144
  t218 := Try.underlying153
  a218 := Try.isAgg153
  z218 := Try.sizeOf153
  v218 := Try.zeroValue153
  t222 := Try.underlying157
  a222 := Try.isAgg157
  z222 := Try.sizeOf157
  v222 := Try.zeroValue157
  t228 := Try.underlying159
  a228 := Try.isAgg159
  z228 := Try.sizeOf159
  v228 := Try.zeroValue159
  t229 := Try.underlying160
  a229 := Try.isAgg160
  z229 := Try.sizeOf160
  v229 := Try.zeroValue160 }
def Try.compI_ren : Go.Shelf.Ren := ⟨fun | 20 => 103 | n => n, fun | 22 => 39 | 3 => 3 | 4 => 4 | 0 => 0 | n => n, fun | n => n⟩
theorem Try.compI : Go.Proofs.Lays2.n20 Try.prog Try.compI_ren := {
  mixed := by kernel_rfl
  f20 := Try.func103.trans (congrArg some (by kernel_rfl))
  t0 := Try.underlying0
  a0 := Try.isAgg0
  z0 := Try.sizeOf0
  v0 := Try.zeroValue0
  t3 := Try.underlying3
  a3 := Try.isAgg3
  z3 := Try.sizeOf3
  v3 := Try.zeroValue3
  t4 := Try.underlying4
  a4 := Try.isAgg4
  z4 := Try.sizeOf4
  v4 := Try.zeroValue4
  t22 := Try.underlying39
  a22 := Try.isAgg39
  z22 := Try.sizeOf39
  v22 := Try.zeroValue39
  i3 := by kernel_rfl }
end Go.Proofs
