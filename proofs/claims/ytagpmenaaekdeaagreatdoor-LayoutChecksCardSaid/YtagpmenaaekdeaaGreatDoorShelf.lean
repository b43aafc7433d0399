/-
  DERIVED: THE SHELF's CONTRACTS AT THIS DUMP, IN PLAIN WORDS (tools/lay-plain.mjs out of 'YtagpmenaaekdeaaGreatDoorShelf.lean', which tools/lay-shelf.mjs wrote): THE SAME DECLARATIONS UNDER THE SAME NAMES: 'import', 'namespace', 'open', 'def', 'theorem' AND NOTHING ELSE: no command of the shelf's: FOR A HAND-IN. Each laying: the table of numbers ('.._ren') and one theorem, a field a fact of the dump's own or the kernel's comparison; each contract: ONE APPLICATION.
-/
import Derived.Shelf.Sort.Plain
import Derived.Shelf.Slices.CompactI
import Derived.Ground.Names2Prog
import Derived.Ground.NamesProg
import Derived.Test.YtagpmenaaekdeaaGreatDoorProg
namespace Go.Proofs
open Go.Shelf
def Tryz.sortI_ren : Go.Shelf.Ren := ⟨fun | 189 => 174 | 125 => 177 | 257 => 176 | 128 => 187 | 129 => 188 | 294 => 178 | 295 => 179 | 296 => 180 | 297 => 181 | 298 => 182 | 299 => 183 | 216 => 184 | 300 => 185 | 301 => 186 | 328 => 189 | 329 => 190 | 330 => 191 | 331 => 192 | 332 => 193 | 215 => 194 | 343 => 195 | n => n, fun | 28 => 27 | 3 => 3 | 46 => 223 | 0 => 0 | 51 => 231 | 53 => 233 | 4 => 4 | 183 => 226 | 182 => 225 | 131 => 201 | 5 => 5 | 9 => 9 | 218 => 234 | 222 => 238 | 228 => 240 | 229 => 102 | n => n, fun | n => n⟩
theorem Tryz.sortI : Go.Proofs.Lays.n189 Tryz.prog Tryz.sortI_ren := {
  mixed := by kernel_rfl
  f125 := Tryz.func177.trans (congrArg some (by kernel_rfl))
  f128 := Tryz.func187.trans (congrArg some (by kernel_rfl))
  f129 := Tryz.func188.trans (congrArg some (by kernel_rfl))
  f189 := Tryz.func174.trans (congrArg some (by kernel_rfl))
  f215 := Tryz.func194.trans (congrArg some (by kernel_rfl))
  f216 := Tryz.func184.trans (congrArg some (by kernel_rfl))
  f257 := Tryz.func176.trans (congrArg some (by kernel_rfl))
  f294 := Tryz.func178.trans (congrArg some (by kernel_rfl))
  f295 := Tryz.func179.trans (congrArg some (by kernel_rfl))
  f296 := Tryz.func180.trans (congrArg some (by kernel_rfl))
  f297 := Tryz.func181.trans (congrArg some (by kernel_rfl))
  f298 := Tryz.func182.trans (congrArg some (by kernel_rfl))
  f299 := Tryz.func183.trans (congrArg some (by kernel_rfl))
  f300 := Tryz.func185.trans (congrArg some (by kernel_rfl))
  f301 := Tryz.func186.trans (congrArg some (by kernel_rfl))
  f328 := Tryz.func189.trans (congrArg some (by kernel_rfl))
  f329 := Tryz.func190.trans (congrArg some (by kernel_rfl))
  f330 := Tryz.func191.trans (congrArg some (by kernel_rfl))
  f331 := Tryz.func192.trans (congrArg some (by kernel_rfl))
  f332 := Tryz.func193.trans (congrArg some (by kernel_rfl))
  f343 := Tryz.func195.trans (congrArg some (by kernel_rfl))
  t0 := Tryz.underlying0
  a0 := Tryz.isAgg0
  z0 := Tryz.sizeOf0
  v0 := Tryz.zeroValue0
  t3 := Tryz.underlying3
  a3 := Tryz.isAgg3
  z3 := Tryz.sizeOf3
  v3 := Tryz.zeroValue3
  t4 := Tryz.underlying4
  a4 := Tryz.isAgg4
  z4 := Tryz.sizeOf4
  v4 := Tryz.zeroValue4
  t5 := Tryz.underlying5
  a5 := Tryz.isAgg5
  z5 := Tryz.sizeOf5
  v5 := Tryz.zeroValue5
  t9 := Tryz.underlying9
  a9 := Tryz.isAgg9
  z9 := Tryz.sizeOf9
  v9 := Tryz.zeroValue9
  t28 := Tryz.underlying27
  a28 := Tryz.isAgg27
  z28 := Tryz.sizeOf27
  v28 := Tryz.zeroValue27
  t46 := Tryz.underlying223
  a46 := Tryz.isAgg223
  z46 := Tryz.sizeOf223
  v46 := Tryz.zeroValue223
  t51 := Tryz.underlying231
  a51 := Tryz.isAgg231
  z51 := Tryz.sizeOf231
  v51 := Tryz.zeroValue231
  t53 := Tryz.underlying233
  a53 := Tryz.isAgg233
  z53 := Tryz.sizeOf233
  v53 := Tryz.zeroValue233
  t131 := Tryz.underlying201
  a131 := Tryz.isAgg201
  z131 := Tryz.sizeOf201
  v131 := Tryz.zeroValue201
  t182 := Tryz.underlying225
  a182 := Tryz.isAgg225
  z182 := Tryz.sizeOf225
  v182 := Tryz.zeroValue225
  t183 := Tryz.underlying226
  a183 := Tryz.isAgg226
  z183 := Tryz.sizeOf226
  v183 := Tryz.zeroValue226
  t218 := Tryz.underlying234
  a218 := Tryz.isAgg234
  z218 := Tryz.sizeOf234
  v218 := Tryz.zeroValue234
  t222 := Tryz.underlying238
  a222 := Tryz.isAgg238
  z222 := Tryz.sizeOf238
  v222 := Tryz.zeroValue238
  t228 := Tryz.underlying240
  a228 := Tryz.isAgg240
  z228 := Tryz.sizeOf240
  v228 := Tryz.zeroValue240
  t229 := Tryz.underlying102
  a229 := Tryz.isAgg102
  z229 := Tryz.sizeOf102
  v229 := Tryz.zeroValue102 }
def Tryz.compI_ren : Go.Shelf.Ren := ⟨fun | 20 => 175 | n => n, fun | 22 => 27 | 3 => 3 | 4 => 4 | 0 => 0 | n => n, fun | n => n⟩
theorem Tryz.compI : Go.Proofs.Lays2.n20 Tryz.prog Tryz.compI_ren := {
  mixed := by kernel_rfl
  f20 := Tryz.func175.trans (congrArg some (by kernel_rfl))
  t0 := Tryz.underlying0
  a0 := Tryz.isAgg0
  z0 := Tryz.sizeOf0
  v0 := Tryz.zeroValue0
  t3 := Tryz.underlying3
  a3 := Tryz.isAgg3
  z3 := Tryz.sizeOf3
  v3 := Tryz.zeroValue3
  t4 := Tryz.underlying4
  a4 := Tryz.isAgg4
  z4 := Tryz.sizeOf4
  v4 := Tryz.zeroValue4
  t22 := Tryz.underlying27
  a22 := Tryz.isAgg27
  z22 := Tryz.sizeOf27
  v22 := Tryz.zeroValue27
  i3 := by kernel_rfl }
end Go.Proofs
