/-
  DERIVED: THE SHELF's CONTRACTS AT THIS DUMP, IN PLAIN WORDS (tools/lay-plain.mjs out of 'YtmjieefhjmiagaaDoorGLayQ.lean', which tools/lay-shelf.mjs wrote): THE SAME DECLARATIONS UNDER THE SAME NAMES: 'import', 'namespace', 'open', 'def', 'theorem' AND NOTHING ELSE: no command of the shelf's: FOR A HAND-IN. Each laying: the table of numbers ('.._ren') and one theorem, a field a fact of the dump's own or the kernel's comparison; each contract: ONE APPLICATION.
-/
import Derived.Shelf.Lays
import Derived.Ground.NamesProg
import Derived.Test.YtmjieefhjmiagaaDoorProg
namespace Go.Proofs
open Go.Shelf
def Tryd.sortI_ren : Go.Shelf.Ren := ⟨fun | 189 => 108 | 125 => 60 | 257 => 121 | 128 => 91 | 129 => 92 | 294 => 124 | 295 => 125 | 296 => 126 | 297 => 127 | 298 => 128 | 299 => 129 | 216 => 130 | 300 => 131 | 301 => 132 | 328 => 133 | 329 => 112 | 330 => 113 | 331 => 134 | 332 => 135 | 215 => 61 | 343 => 136 | n => n, fun | 28 => 22 | 3 => 3 | 46 => 103 | 0 => 0 | 51 => 139 | 53 => 141 | 4 => 4 | 183 => 133 | 182 => 132 | 131 => 113 | 5 => 5 | 9 => 9 | 218 => 161 | 222 => 165 | 228 => 172 | 229 => 173 | n => n, fun | n => n⟩
theorem Tryd.sortI : Go.Proofs.Lays.n189 Tryd.prog Tryd.sortI_ren := {
  mixed := by kernel_rfl
  f125 := Tryd.func60.trans (congrArg some (by kernel_rfl))
  f128 := Tryd.func91.trans (congrArg some (by kernel_rfl))
  f129 := Tryd.func92.trans (congrArg some (by kernel_rfl))
  f189 := Tryd.func108.trans (congrArg some (by kernel_rfl))
  f215 := Tryd.func61.trans (congrArg some (by kernel_rfl))
  f216 := Tryd.func130.trans (congrArg some (by kernel_rfl))
  f257 := Tryd.func121.trans (congrArg some (by kernel_rfl))
  f294 := Tryd.func124.trans (congrArg some (by kernel_rfl))
  f295 := Tryd.func125.trans (congrArg some (by kernel_rfl))
  f296 := Tryd.func126.trans (congrArg some (by kernel_rfl))
  f297 := Tryd.func127.trans (congrArg some (by kernel_rfl))
  f298 := Tryd.func128.trans (congrArg some (by kernel_rfl))
  f299 := Tryd.func129.trans (congrArg some (by kernel_rfl))
  f300 := Tryd.func131.trans (congrArg some (by kernel_rfl))
  f301 := Tryd.func132.trans (congrArg some (by kernel_rfl))
  f328 := Tryd.func133.trans (congrArg some (by kernel_rfl))
  f329 := Tryd.func112.trans (congrArg some (by kernel_rfl))
  f330 := Tryd.func113.trans (congrArg some (by kernel_rfl))
  f331 := Tryd.func134.trans (congrArg some (by kernel_rfl))
  f332 := Tryd.func135.trans (congrArg some (by kernel_rfl))
  f343 := Tryd.func136.trans (congrArg some (by kernel_rfl))
  t0 := Tryd.underlying0
  a0 := Tryd.isAgg0
  z0 := Tryd.sizeOf0
  v0 := Tryd.zeroValue0
  t3 := Tryd.underlying3
  a3 := Tryd.isAgg3
  z3 := Tryd.sizeOf3
  v3 := Tryd.zeroValue3
  t4 := Tryd.underlying4
  a4 := Tryd.isAgg4
  z4 := Tryd.sizeOf4
  v4 := Tryd.zeroValue4
  t5 := Tryd.underlying5
  a5 := Tryd.isAgg5
  z5 := Tryd.sizeOf5
  v5 := Tryd.zeroValue5
  t9 := Tryd.underlying9
  a9 := Tryd.isAgg9
  z9 := Tryd.sizeOf9
  v9 := Tryd.zeroValue9
  t28 := Tryd.underlying22
  a28 := Tryd.isAgg22
  z28 := Tryd.sizeOf22
  v28 := Tryd.zeroValue22
  t46 := Tryd.underlying103
  a46 := Tryd.isAgg103
  z46 := Tryd.sizeOf103
  v46 := Tryd.zeroValue103
  t51 := Tryd.underlying139
  a51 := Tryd.isAgg139
  z51 := Tryd.sizeOf139
  v51 := Tryd.zeroValue139
  t53 := Tryd.underlying141
  a53 := Tryd.isAgg141
  z53 := Tryd.sizeOf141
  v53 := Tryd.zeroValue141
  t131 := Tryd.underlying113
  a131 := Tryd.isAgg113
  z131 := Tryd.sizeOf113
  v131 := Tryd.zeroValue113
  t182 := Tryd.underlying132
  a182 := Tryd.isAgg132
  z182 := Tryd.sizeOf132
  v182 := Tryd.zeroValue132
  t183 := Tryd.underlying133
  a183 := Tryd.isAgg133
  z183 := Tryd.sizeOf133
  v183 := Tryd.zeroValue133
  t218 := Tryd.underlying161
  a218 := Tryd.isAgg161
  z218 := Tryd.sizeOf161
  v218 := Tryd.zeroValue161
  t222 := Tryd.underlying165
  a222 := Tryd.isAgg165
  z222 := Tryd.sizeOf165
  v222 := Tryd.zeroValue165
  t228 := Tryd.underlying172
  a228 := Tryd.isAgg172
  z228 := Tryd.sizeOf172
  v228 := Tryd.zeroValue172
  t229 := Tryd.underlying173
  a229 := Tryd.isAgg173
  z229 := Tryd.sizeOf173
  v229 := Tryd.zeroValue173 }
end Go.Proofs
