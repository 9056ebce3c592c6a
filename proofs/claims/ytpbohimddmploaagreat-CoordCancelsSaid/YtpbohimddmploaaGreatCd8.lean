import Derived.Ground.SlsfProg
import Derived.Shelf.SlSortCmp.WholeK
import Derived.Test.YtpbohimddmploaaGreatProg
set_option linter.unusedSimpArgs false
set_option linter.unusedVariables false
set_option maxRecDepth 100000
set_option maxHeartbeats 64000000
/-
  DERIVED: THE SHELF's CONTRACTS AT THIS DUMP, IN PLAIN WORDS (tools/lay-plain.mjs out of 'TryzShelf2.lean', which tools/lay-shelf.mjs wrote): THE SAME DECLARATIONS UNDER THE SAME NAMES: 'import', 'namespace', 'open', 'def', 'theorem' AND NOTHING ELSE: no command of the shelf's: FOR A HAND-IN. Each laying: the table of numbers ('.._ren') and one theorem, a field a fact of the dump's own or the kernel's comparison; each contract: ONE APPLICATION.
-/
namespace Go.Proofs
open Go.Shelf
def Tryz.sortEnt_ren : Go.Shelf.Ren := ⟨fun | 6 => 224 | 15 => 137 | 14 => 238 | 28 => 181 | 29 => 182 | 20 => 246 | 21 => 247 | 22 => 248 | 23 => 249 | 24 => 250 | 25 => 251 | 26 => 252 | 27 => 253 | 46 => 254 | 47 => 206 | 48 => 207 | 49 => 255 | 50 => 256 | 57 => 257 | n => n, fun | 22 => 48 | 24 => 120 | 25 => 304 | 3 => 3 | 39 => 207 | 0 => 0 | 53 => 214 | 55 => 256 | 4 => 4 | 46 => 248 | 45 => 247 | 50 => 252 | 5 => 5 | 9 => 9 | 66 => 282 | 70 => 286 | 76 => 310 | 77 => 311 | n => n, fun | n => n⟩
theorem Tryz.sortEnt : Go.Proofs.SlLaysF0.n6 Tryz.prog Tryz.sortEnt_ren := {
  mixed := by kernel_rfl
  f6 := ⟨Tryz.f224.name, by decide, Tryz.func224.trans (congrArg some (by kernel_rfl))⟩
  f14 := ⟨Tryz.f238.name, by decide, Tryz.func238.trans (congrArg some (by kernel_rfl))⟩
  f15 := Tryz.func137.trans (congrArg some (by kernel_rfl))
  f20 := ⟨Tryz.f246.name, by decide, Tryz.func246.trans (congrArg some (by kernel_rfl))⟩
  f21 := ⟨Tryz.f247.name, by decide, Tryz.func247.trans (congrArg some (by kernel_rfl))⟩
  f22 := ⟨Tryz.f248.name, by decide, Tryz.func248.trans (congrArg some (by kernel_rfl))⟩
  f23 := ⟨Tryz.f249.name, by decide, Tryz.func249.trans (congrArg some (by kernel_rfl))⟩
  f24 := ⟨Tryz.f250.name, by decide, Tryz.func250.trans (congrArg some (by kernel_rfl))⟩
  f25 := ⟨Tryz.f251.name, by decide, Tryz.func251.trans (congrArg some (by kernel_rfl))⟩
  f26 := ⟨Tryz.f252.name, by decide, Tryz.func252.trans (congrArg some (by kernel_rfl))⟩
  f27 := ⟨Tryz.f253.name, by decide, Tryz.func253.trans (congrArg some (by kernel_rfl))⟩
  f28 := Tryz.func181.trans (congrArg some (by kernel_rfl))
  f29 := Tryz.func182.trans (congrArg some (by kernel_rfl))
  f46 := ⟨Tryz.f254.name, by decide, Tryz.func254.trans (congrArg some (by kernel_rfl))⟩
  f47 := Tryz.func206.trans (congrArg some (by kernel_rfl))
  f48 := Tryz.func207.trans (congrArg some (by kernel_rfl))
  f49 := ⟨Tryz.f255.name, by decide, Tryz.func255.trans (congrArg some (by kernel_rfl))⟩
  f50 := ⟨Tryz.f256.name, by decide, Tryz.func256.trans (congrArg some (by kernel_rfl))⟩
  f57 := ⟨Tryz.f257.name, by decide, Tryz.func257.trans (congrArg some (by kernel_rfl))⟩
  t0 := Tryz.underlying0
  a0 := Tryz.isAgg0
  z0 := Tryz.sizeOf0
  v0 := Tryz.zeroValue0
  t3 := Tryz.underlying3
  a3 := Tryz.isAgg3
  z3 := Tryz.sizeOf3
  v3 := Tryz.zeroValue3
  t4 := Tryz.underlying4
  a4 := Tryz.isAgg4
  z4 := Tryz.sizeOf4
  v4 := Tryz.zeroValue4
  t5 := Tryz.underlying5
  a5 := Tryz.isAgg5
  z5 := Tryz.sizeOf5
  v5 := Tryz.zeroValue5
  t9 := Tryz.underlying9
  a9 := Tryz.isAgg9
  z9 := Tryz.sizeOf9
  v9 := Tryz.zeroValue9
  t22 := Tryz.underlying48
  a22 := Tryz.isAgg48
  z22 := Tryz.sizeOf48
  v22 := Tryz.zeroValue48
  t25 := Tryz.underlying304
  a25 := Tryz.isAgg304
  z25 := Tryz.sizeOf304
  v25 := Tryz.zeroValue304
  t39 := Tryz.underlying207
  a39 := Tryz.isAgg207
  z39 := Tryz.sizeOf207
  v39 := Tryz.zeroValue207
  t45 := Tryz.underlying247
  a45 := Tryz.isAgg247
  z45 := Tryz.sizeOf247
  v45 := Tryz.zeroValue247
  t46 := Tryz.underlying248
  a46 := Tryz.isAgg248
  z46 := Tryz.sizeOf248
  v46 := Tryz.zeroValue248
  t50 := Tryz.underlying252
  a50 := Tryz.isAgg252
  z50 := Tryz.sizeOf252
  v50 := Tryz.zeroValue252
  t53 := Tryz.underlying214
  a53 := Tryz.isAgg214
  z53 := Tryz.sizeOf214
  v53 := Tryz.zeroValue214
  t55 := Tryz.underlying256
  a55 := Tryz.isAgg256
  z55 := Tryz.sizeOf256
  v55 := Tryz.zeroValue256
  t66 := Tryz.underlying282
  a66 := Tryz.isAgg282
  z66 := Tryz.sizeOf282
  v66 := Tryz.zeroValue282
  t70 := Tryz.underlying286
  a70 := Tryz.isAgg286
  z70 := Tryz.sizeOf286
  v70 := Tryz.zeroValue286
  t76 := Tryz.underlying310
  a76 := Tryz.isAgg310
  z76 := Tryz.sizeOf310
  v76 := Tryz.zeroValue310
  t77 := Tryz.underlying311
  a77 := Tryz.isAgg311
  z77 := Tryz.sizeOf311
  v77 := Tryz.zeroValue311 }
end Go.Proofs
