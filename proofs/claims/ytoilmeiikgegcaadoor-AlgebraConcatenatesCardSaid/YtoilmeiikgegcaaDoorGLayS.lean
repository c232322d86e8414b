/-
  DERIVED: THE SHELF's CONTRACTS AT THIS DUMP, IN PLAIN WORDS (tools/lay-plain.mjs out of 'YtoilmeiikgegcaaDoorGLayQ.lean', which tools/lay-shelf.mjs wrote): THE SAME DECLARATIONS UNDER THE SAME NAMES: 'import', 'namespace', 'open', 'def', 'theorem' AND NOTHING ELSE: no command of the shelf's: FOR A HAND-IN. Each laying: the table of numbers ('.._ren') and one theorem, a field a fact of the dump's own or the kernel's comparison; each contract: ONE APPLICATION.
-/
import Derived.Shelf.Lays
import Derived.Ground.NamesProg
import Derived.Test.YtoilmeiikgegcaaDoorProg
namespace Go.Proofs
open Go.Shelf
def Tryd.sortI_ren : Go.Shelf.Ren := ⟨fun | 189 => 70 | 125 => 79 | 257 => 85 | 128 => 97 | 129 => 98 | 294 => 100 | 295 => 101 | 296 => 102 | 297 => 103 | 298 => 104 | 299 => 105 | 216 => 106 | 300 => 107 | 301 => 108 | 328 => 119 | 329 => 111 | 330 => 112 | 331 => 120 | 332 => 121 | 215 => 80 | 343 => 125 | n => n, fun | 28 => 26 | 3 => 3 | 46 => 92 | 0 => 0 | 51 => 111 | 53 => 113 | 4 => 4 | 183 => 105 | 182 => 104 | 131 => 55 | 5 => 5 | 9 => 9 | 218 => 121 | 222 => 125 | 228 => 131 | 229 => 132 | n => n, fun | n => n⟩
theorem Tryd.sortI : Go.Proofs.Lays.n189 Tryd.prog Tryd.sortI_ren := {
  mixed := by kernel_rfl
  f125 := Tryd.func79.trans (congrArg some (by kernel_rfl))
  f128 := Tryd.func97.trans (congrArg some (by kernel_rfl))
  f129 := Tryd.func98.trans (congrArg some (by kernel_rfl))
  f189 := Tryd.func70.trans (congrArg some (by kernel_rfl))
  f215 := Tryd.func80.trans (congrArg some (by kernel_rfl))
  f216 := Tryd.func106.trans (congrArg some (by kernel_rfl))
  f257 := Tryd.func85.trans (congrArg some (by kernel_rfl))
  f294 := Tryd.func100.trans (congrArg some (by kernel_rfl))
  f295 := Tryd.func101.trans (congrArg some (by kernel_rfl))
  f296 := Tryd.func102.trans (congrArg some (by kernel_rfl))
  f297 := Tryd.func103.trans (congrArg some (by kernel_rfl))
  f298 := Tryd.func104.trans (congrArg some (by kernel_rfl))
  f299 := Tryd.func105.trans (congrArg some (by kernel_rfl))
  f300 := Tryd.func107.trans (congrArg some (by kernel_rfl))
  f301 := Tryd.func108.trans (congrArg some (by kernel_rfl))
  f328 := Tryd.func119.trans (congrArg some (by kernel_rfl))
  f329 := Tryd.func111.trans (congrArg some (by kernel_rfl))
  f330 := Tryd.func112.trans (congrArg some (by kernel_rfl))
  f331 := Tryd.func120.trans (congrArg some (by kernel_rfl))
  f332 := Tryd.func121.trans (congrArg some (by kernel_rfl))
  f343 := Tryd.func125.trans (congrArg some (by kernel_rfl))
  t0 := Tryd.underlying0
  a0 := Tryd.isAgg0
  z0 := Tryd.sizeOf0
  v0 := Tryd.zeroValue0
  t3 := Tryd.underlying3
  a3 := Tryd.isAgg3
  z3 := Tryd.sizeOf3
  v3 := Tryd.zeroValue3
  t4 := Tryd.underlying4
  a4 := Tryd.isAgg4
  z4 := Tryd.sizeOf4
  v4 := Tryd.zeroValue4
  t5 := Tryd.underlying5
  a5 := Tryd.isAgg5
  z5 := Tryd.sizeOf5
  v5 := Tryd.zeroValue5
  t9 := Tryd.underlying9
  a9 := Tryd.isAgg9
  z9 := Tryd.sizeOf9
  v9 := Tryd.zeroValue9
  t28 := Tryd.underlying26
  a28 := Tryd.isAgg26
  z28 := Tryd.sizeOf26
  v28 := Tryd.zeroValue26
  t46 := Tryd.underlying92
  a46 := Tryd.isAgg92
  z46 := Tryd.sizeOf92
  v46 := Tryd.zeroValue92
  t51 := Tryd.underlying111
  a51 := Tryd.isAgg111
  z51 := Tryd.sizeOf111
  v51 := Tryd.zeroValue111
  t53 := Tryd.underlying113
  a53 := Tryd.isAgg113
  z53 := Tryd.sizeOf113
  v53 := Tryd.zeroValue113
  t131 := Tryd.underlying55
  a131 := Tryd.isAgg55
  z131 := Tryd.sizeOf55
  v131 := Tryd.zeroValue55
  t182 := Tryd.underlying104
  a182 := Tryd.isAgg104
  z182 := Tryd.sizeOf104
  v182 := Tryd.zeroValue104
  t183 := Tryd.underlying105
  a183 := Tryd.isAgg105
  z183 := Tryd.sizeOf105
  v183 := Tryd.zeroValue105
  t218 := Tryd.underlying121
  a218 := Tryd.isAgg121
  z218 := Tryd.sizeOf121
  v218 := Tryd.zeroValue121
  t222 := Tryd.underlying125
  a222 := Tryd.isAgg125
  z222 := Tryd.sizeOf125
  v222 := Tryd.zeroValue125
  t228 := Tryd.underlying131
  a228 := Tryd.isAgg131
  z228 := Tryd.sizeOf131
  v228 := Tryd.zeroValue131
  t229 := Tryd.underlying132
  a229 := Tryd.isAgg132
  z229 := Tryd.sizeOf132
  v229 := Tryd.zeroValue132 }
end Go.Proofs
