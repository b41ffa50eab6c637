/-
  DERIVED: THE SHELF's CONTRACTS AT THIS DUMP, IN PLAIN WORDS (tools/lay-plain.mjs out of 'ShC.lean', which tools/lay-shelf.mjs wrote): THE SAME DECLARATIONS UNDER THE SAME NAMES: 'import', 'namespace', 'open', 'def', 'theorem' AND NOTHING ELSE: no command of the shelf's: FOR A HAND-IN. Each laying: the table of numbers ('.._ren') and one theorem, a field a fact of the dump's own or the kernel's comparison; each contract: ONE APPLICATION.
-/
import Derived.Test.YtcpmmldgimhppaaTy
import Derived.Shelf.Sort.Plain
import Derived.Ground.Names2Prog
set_option linter.unusedVariables false
set_option linter.unusedSimpArgs false
namespace Go.Proofs
open Go.Shelf
def Try.sortInt_ren : Go.Shelf.Ren := ⟨fun | 189 => 65 | 125 => 81 | 257 => 80 | 128 => 102 | 129 => 103 | 294 => 93 | 295 => 94 | 296 => 95 | 297 => 96 | 298 => 97 | 299 => 98 | 216 => 99 | 300 => 100 | 301 => 101 | 328 => 105 | 329 => 106 | 330 => 107 | 331 => 108 | 332 => 109 | 215 => 110 | 343 => 111 | n => n, fun | 28 => 23 | 3 => 3 | 46 => 89 | 0 => 0 | 51 => 123 | 53 => 106 | 4 => 4 | 183 => 115 | 182 => 114 | 131 => 120 | 5 => 5 | 9 => 9 | 218 => 125 | 222 => 129 | 228 => 131 | 229 => 132 | n => n, fun | n => n⟩
theorem Try.sortInt : Go.Proofs.Lays.n189 Try.prog Try.sortInt_ren := {
  mixed := by kernel_rfl
  f125 := Try.func81.trans (congrArg some (by kernel_rfl))
  f128 := Try.func102.trans (congrArg some (by kernel_rfl))
  f129 := Try.func103.trans (congrArg some (by kernel_rfl))
  f189 := Try.func65.trans (congrArg some (by kernel_rfl))
  f215 := Try.func110.trans (congrArg some (by kernel_rfl))
  f216 := Try.func99.trans (congrArg some (by kernel_rfl))
  f257 := Try.func80.trans (congrArg some (by kernel_rfl))
  f294 := Try.func93.trans (congrArg some (by kernel_rfl))
  f295 := Try.func94.trans (congrArg some (by kernel_rfl))
  f296 := Try.func95.trans (congrArg some (by kernel_rfl))
  f297 := Try.func96.trans (congrArg some (by kernel_rfl))
  f298 := Try.func97.trans (congrArg some (by kernel_rfl))
  f299 := Try.func98.trans (congrArg some (by kernel_rfl))
  f300 := Try.func100.trans (congrArg some (by kernel_rfl))
  f301 := Try.func101.trans (congrArg some (by kernel_rfl))
  f328 := Try.func105.trans (congrArg some (by kernel_rfl))
  f329 := Try.func106.trans (congrArg some (by kernel_rfl))
  f330 := Try.func107.trans (congrArg some (by kernel_rfl))
  f331 := Try.func108.trans (congrArg some (by kernel_rfl))
  f332 := Try.func109.trans (congrArg some (by kernel_rfl))
  f343 := Try.func111.trans (congrArg some (by kernel_rfl))
  t0 := Try.underlying0
  a0 := Try.isAgg0
  z0 := Try.sizeOf0
  v0 := Try.zeroValue0
  t3 := Try.underlying3
  a3 := Try.isAgg3
  z3 := Try.sizeOf3
  v3 := Try.zeroValue3
  t4 := Try.underlying4
  a4 := Try.isAgg4
  z4 := Try.sizeOf4
  v4 := Try.zeroValue4
  t5 := Try.underlying5
  a5 := Try.isAgg5
  z5 := Try.sizeOf5
  v5 := Try.zeroValue5
  t9 := Try.underlying9
  a9 := Try.isAgg9
  z9 := Try.sizeOf9
  v9 := Try.zeroValue9
  t28 := Try.underlying23
  a28 := Try.isAgg23
  z28 := Try.sizeOf23
  v28 := Try.zeroValue23
  t46 := Try.underlying89
  a46 := Try.isAgg89
  z46 := Try.sizeOf89
  v46 := Try.zeroValue89
  t51 := Try.underlying123
  a51 := Try.isAgg123
  z51 := Try.sizeOf123
  v51 := Try.zeroValue123
  t53 := Try.underlying106
  a53 := Try.isAgg106
  z53 := Try.sizeOf106
  v53 := Try.zeroValue106
  t131 := Try.underlying120
  a131 := Try.isAgg120
  z131 := Try.sizeOf120
  v131 := Try.zeroValue120
  t182 := Try.underlying114
  a182 := Try.isAgg114
  z182 := Try.sizeOf114
  v182 := Try.zeroValue114
  t183 := Try.underlying115
  a183 := Try.isAgg115
  z183 := Try.sizeOf115
  v183 := Try.zeroValue115
  t218 := Try.underlying125
  a218 := Try.isAgg125
  z218 := Try.sizeOf125
  v218 := Try.zeroValue125
  t222 := Try.underlying129
  a222 := Try.isAgg129
  z222 := Try.sizeOf129
  v222 := Try.zeroValue129
  t228 := Try.underlying131
  a228 := Try.isAgg131
  z228 := Try.sizeOf131
  v228 := Try.zeroValue131
  t229 := Try.underlying132
  a229 := Try.isAgg132
  z229 := Try.sizeOf132
  v229 := Try.zeroValue132 }
end Go.Proofs
