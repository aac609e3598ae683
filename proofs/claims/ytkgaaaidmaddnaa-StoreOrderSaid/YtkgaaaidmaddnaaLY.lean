/-
  DERIVED: THE SHELF's CONTRACTS AT THIS DUMP, IN PLAIN WORDS (tools/lay-plain.mjs out of 'ScrShelf.lean', which tools/lay-shelf.mjs wrote): THE SAME DECLARATIONS UNDER THE SAME NAMES: 'import', 'namespace', 'open', 'def', 'theorem' AND NOTHING ELSE: no command of the shelf's: FOR A HAND-IN. Each laying: the table of numbers ('.._ren') and one theorem, a field a fact of the dump's own or the kernel's comparison; each contract: ONE APPLICATION.
-/
import Derived.Shelf.Sort.Plain
import Derived.Test.YtkgaaaidmaddnaaProg
namespace Go.Proofs
open Go.Shelf
def Try.ly189_ren : Go.Shelf.Ren := ⟨fun | 189 => 44 | 125 => 74 | 257 => 73 | 128 => 107 | 129 => 108 | 294 => 98 | 295 => 99 | 296 => 100 | 297 => 101 | 298 => 102 | 299 => 103 | 216 => 104 | 300 => 105 | 301 => 106 | 328 => 114 | 329 => 115 | 330 => 116 | 331 => 117 | 332 => 118 | 215 => 96 | 343 => 121 | n => n, fun | 28 => 65 | 3 => 3 | 46 => 90 | 0 => 0 | 51 => 114 | 53 => 116 | 4 => 4 | 183 => 106 | 182 => 105 | 131 => 111 | 5 => 5 | 9 => 9 | 218 => 120 | 222 => 124 | 228 => 127 | 229 => 128 | n => n, fun | n => n⟩
theorem Try.ly189 : Go.Proofs.Lays.n189 Try.prog Try.ly189_ren := {
  mixed := by kernel_rfl
  f125 := Try.func74.trans (congrArg some (by kernel_rfl))
  f128 := Try.func107.trans (congrArg some (by kernel_rfl))
  f129 := Try.func108.trans (congrArg some (by kernel_rfl))
  f189 := Try.func44.trans (congrArg some (by kernel_rfl))
  f215 := Try.func96.trans (congrArg some (by kernel_rfl))
  f216 := Try.func104.trans (congrArg some (by kernel_rfl))
  f257 := Try.func73.trans (congrArg some (by kernel_rfl))
  f294 := Try.func98.trans (congrArg some (by kernel_rfl))
  f295 := Try.func99.trans (congrArg some (by kernel_rfl))
  f296 := Try.func100.trans (congrArg some (by kernel_rfl))
  f297 := Try.func101.trans (congrArg some (by kernel_rfl))
  f298 := Try.func102.trans (congrArg some (by kernel_rfl))
  f299 := Try.func103.trans (congrArg some (by kernel_rfl))
  f300 := Try.func105.trans (congrArg some (by kernel_rfl))
  f301 := Try.func106.trans (congrArg some (by kernel_rfl))
  f328 := Try.func114.trans (congrArg some (by kernel_rfl))
  f329 := Try.func115.trans (congrArg some (by kernel_rfl))
  f330 := Try.func116.trans (congrArg some (by kernel_rfl))
  f331 := Try.func117.trans (congrArg some (by kernel_rfl))
  f332 := Try.func118.trans (congrArg some (by kernel_rfl))
  f343 := Try.func121.trans (congrArg some (by kernel_rfl))
  t0 := Try.underlying0
  a0 := Try.isAgg0
  z0 := Try.sizeOf0
  v0 := Try.zeroValue0
  t3 := Try.underlying3
  a3 := Try.isAgg3
  z3 := Try.sizeOf3
  v3 := Try.zeroValue3
  t4 := Try.underlying4
  a4 := Try.isAgg4
  z4 := Try.sizeOf4
  v4 := Try.zeroValue4
  t5 := Try.underlying5
  a5 := Try.isAgg5
  z5 := Try.sizeOf5
  v5 := Try.zeroValue5
  t9 := Try.underlying9
  a9 := Try.isAgg9
  z9 := Try.sizeOf9
  v9 := Try.zeroValue9
  t28 := Try.underlying65
  a28 := Try.isAgg65
  z28 := Try.sizeOf65
  v28 := Try.zeroValue65
  t46 := Try.underlying90
  a46 := Try.isAgg90
  z46 := Try.sizeOf90
  v46 := Try.zeroValue90
  t51 := Try.underlying114
  a51 := Try.isAgg114
  z51 := Try.sizeOf114
  v51 := Try.zeroValue114
  t53 := Try.underlying116
  a53 := Try.isAgg116
  z53 := Try.sizeOf116
  v53 := Try.zeroValue116
  t131 := Try.underlying111
  a131 := Try.isAgg111
  z131 := Try.sizeOf111
  v131 := Try.zeroValue111
  t182 := Try.underlying105
  a182 := Try.isAgg105
  z182 := Try.sizeOf105
  v182 := Try.zeroValue105
  t183 := Try.underlying106
  a183 := Try.isAgg106
  z183 := Try.sizeOf106
  v183 := Try.zeroValue106
  t218 := Try.underlying120
  a218 := Try.isAgg120
  z218 := Try.sizeOf120
  v218 := Try.zeroValue120
  t222 := Try.underlying124
  a222 := Try.isAgg124
  z222 := Try.sizeOf124
  v222 := Try.zeroValue124
  t228 := Try.underlying127
  a228 := Try.isAgg127
  z228 := Try.sizeOf127
  v228 := Try.zeroValue127
  t229 := Try.underlying128
  a229 := Try.isAgg128
  z229 := Try.sizeOf128
  v229 := Try.zeroValue128 }
end Go.Proofs
