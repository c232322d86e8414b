/-
  DERIVED: THE SHELF's CONTRACTS AT THIS DUMP, IN PLAIN WORDS (tools/lay-plain.mjs out of 'YtmjieefhjmiagaaGreatDoorGLayQ.lean', which tools/lay-shelf.mjs wrote): THE SAME DECLARATIONS UNDER THE SAME NAMES: 'import', 'namespace', 'open', 'def', 'theorem' AND NOTHING ELSE: no command of the shelf's: FOR A HAND-IN. Each laying: the table of numbers ('.._ren') and one theorem, a field a fact of the dump's own or the kernel's comparison; each contract: ONE APPLICATION.
-/
import Derived.Shelf.Lays
import Derived.Ground.NamesProg
import Derived.Test.YtmjieefhjmiagaaGreatDoorProg
namespace Go.Proofs
open Go.Shelf
def Tryz.sortI_ren : Go.Shelf.Ren := ⟨fun | 189 => 136 | 125 => 91 | 257 => 160 | 128 => 119 | 129 => 120 | 294 => 167 | 295 => 168 | 296 => 169 | 297 => 170 | 298 => 171 | 299 => 172 | 216 => 173 | 300 => 174 | 301 => 175 | 328 => 181 | 329 => 142 | 330 => 143 | 331 => 182 | 332 => 183 | 215 => 92 | 343 => 186 | n => n, fun | 28 => 22 | 3 => 3 | 46 => 175 | 0 => 0 | 51 => 196 | 53 => 198 | 4 => 4 | 183 => 190 | 182 => 189 | 131 => 137 | 5 => 5 | 9 => 9 | 218 => 217 | 222 => 221 | 228 => 234 | 229 => 235 | n => n, fun | n => n⟩
theorem Tryz.sortI : Go.Proofs.Lays.n189 Tryz.prog Tryz.sortI_ren := {
  mixed := by kernel_rfl
  f125 := Tryz.func91.trans (congrArg some (by kernel_rfl))
  f128 := Tryz.func119.trans (congrArg some (by kernel_rfl))
  f129 := Tryz.func120.trans (congrArg some (by kernel_rfl))
  f189 := Tryz.func136.trans (congrArg some (by kernel_rfl))
  f215 := Tryz.func92.trans (congrArg some (by kernel_rfl))
  f216 := Tryz.func173.trans (congrArg some (by kernel_rfl))
  f257 := Tryz.func160.trans (congrArg some (by kernel_rfl))
  f294 := Tryz.func167.trans (congrArg some (by kernel_rfl))
  f295 := Tryz.func168.trans (congrArg some (by kernel_rfl))
  f296 := Tryz.func169.trans (congrArg some (by kernel_rfl))
  f297 := Tryz.func170.trans (congrArg some (by kernel_rfl))
  f298 := Tryz.func171.trans (congrArg some (by kernel_rfl))
  f299 := Tryz.func172.trans (congrArg some (by kernel_rfl))
  f300 := Tryz.func174.trans (congrArg some (by kernel_rfl))
  f301 := Tryz.func175.trans (congrArg some (by kernel_rfl))
  f328 := Tryz.func181.trans (congrArg some (by kernel_rfl))
  f329 := Tryz.func142.trans (congrArg some (by kernel_rfl))
  f330 := Tryz.func143.trans (congrArg some (by kernel_rfl))
  f331 := Tryz.func182.trans (congrArg some (by kernel_rfl))
  f332 := Tryz.func183.trans (congrArg some (by kernel_rfl))
  f343 := Tryz.func186.trans (congrArg some (by kernel_rfl))
  t0 := Tryz.underlying0
  a0 := Tryz.isAgg0
  z0 := Tryz.sizeOf0
  v0 := Tryz.zeroValue0
  t3 := Tryz.underlying3
  a3 := Tryz.isAgg3
  z3 := Tryz.sizeOf3
  v3 := Tryz.zeroValue3
  t4 := Tryz.underlying4
  a4 := Tryz.isAgg4
  z4 := Tryz.sizeOf4
  v4 := Tryz.zeroValue4
  t5 := Tryz.underlying5
  a5 := Tryz.isAgg5
  z5 := Tryz.sizeOf5
  v5 := Tryz.zeroValue5
  t9 := Tryz.underlying9
  a9 := Tryz.isAgg9
  z9 := Tryz.sizeOf9
  v9 := Tryz.zeroValue9
  t28 := Tryz.underlying22
  a28 := Tryz.isAgg22
  z28 := Tryz.sizeOf22
  v28 := Tryz.zeroValue22
  t46 := Tryz.underlying175
  a46 := Tryz.isAgg175
  z46 := Tryz.sizeOf175
  v46 := Tryz.zeroValue175
  t51 := Tryz.underlying196
  a51 := Tryz.isAgg196
  z51 := Tryz.sizeOf196
  v51 := Tryz.zeroValue196
  t53 := Tryz.underlying198
  a53 := Tryz.isAgg198
  z53 := Tryz.sizeOf198
  v53 := Tryz.zeroValue198
  t131 := Tryz.underlying137
  a131 := Tryz.isAgg137
  z131 := Tryz.sizeOf137
  v131 := Tryz.zeroValue137
  t182 := Tryz.underlying189
  a182 := Tryz.isAgg189
  z182 := Tryz.sizeOf189
  v182 := Tryz.zeroValue189
  t183 := Tryz.underlying190
  a183 := Tryz.isAgg190
  z183 := Tryz.sizeOf190
  v183 := Tryz.zeroValue190
  t218 := Tryz.underlying217
  a218 := Tryz.isAgg217
  z218 := Tryz.sizeOf217
  v218 := Tryz.zeroValue217
  t222 := Tryz.underlying221
  a222 := Tryz.isAgg221
  z222 := Tryz.sizeOf221
  v222 := Tryz.zeroValue221
  t228 := Tryz.underlying234
  a228 := Tryz.isAgg234
  z228 := Tryz.sizeOf234
  v228 := Tryz.zeroValue234
  t229 := Tryz.underlying235
  a229 := Tryz.isAgg235
  z229 := Tryz.sizeOf235
  v229 := Tryz.zeroValue235 }
end Go.Proofs
