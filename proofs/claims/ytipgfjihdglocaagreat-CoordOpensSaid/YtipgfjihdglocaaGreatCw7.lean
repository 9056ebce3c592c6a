import Derived.Ground.SlsfProg
import Derived.Shelf.SlSortCmp.WholeK
import Derived.Test.YtipgfjihdglocaaGreatProg
set_option linter.unusedSimpArgs false
set_option linter.unusedVariables false
set_option maxRecDepth 100000
set_option maxHeartbeats 64000000
/-
  DERIVED: THE SHELF's CONTRACTS AT THIS DUMP,IN PLAIN WORDS (tools/lay-plain.mjs out of 'TryzShelf2.lean',which tools/lay-shelf.mjs wrote): THE SAME DECLARATIONS UNDER THE SAME NAMES: 'import','namespace','open','def','theorem' AND NOTHING ELSE: no command of the shelf's: FOR A HAND-IN. Each laying: the table of numbers ('.._ren') and one theorem,a field a fact of the dump's own or the kernel's comparison;each contract: ONE APPLICATION.
-/
namespace Go.Proofs
open Go.Shelf
def Tryz.sortEnt_ren:Go.Shelf.Ren:=⟨fun|6=>222|15=>135|14=>236|28=>179|29=>180|20=>244|21=>245|22=>246|23=>247|24=>248|25=>249|26=>250|27=>251|46=>252|47=>204|48=>205|49=>253|50=>254|57=>255|n=>n,fun|22=>44|24=>115|25=>301|3=>3|39=>204|0=>0|53=>211|55=>253|4=>4|46=>245|45=>244|50=>249|5=>5|9=>9|66=>279|70=>283|76=>307|77=>308|n=>n,fun|n=>n⟩
theorem Tryz.sortEnt:Go.Proofs.SlLaysF0.n6 Tryz.prog Tryz.sortEnt_ren:={
  mixed:=by kernel_rfl
  f6:=⟨Tryz.f222.name,by decide,Tryz.func222.trans (congrArg some (by kernel_rfl))⟩
  f14:=⟨Tryz.f236.name,by decide,Tryz.func236.trans (congrArg some (by kernel_rfl))⟩
  f15:=Tryz.func135.trans (congrArg some (by kernel_rfl))
  f20:=⟨Tryz.f244.name,by decide,Tryz.func244.trans (congrArg some (by kernel_rfl))⟩
  f21:=⟨Tryz.f245.name,by decide,Tryz.func245.trans (congrArg some (by kernel_rfl))⟩
  f22:=⟨Tryz.f246.name,by decide,Tryz.func246.trans (congrArg some (by kernel_rfl))⟩
  f23:=⟨Tryz.f247.name,by decide,Tryz.func247.trans (congrArg some (by kernel_rfl))⟩
  f24:=⟨Tryz.f248.name,by decide,Tryz.func248.trans (congrArg some (by kernel_rfl))⟩
  f25:=⟨Tryz.f249.name,by decide,Tryz.func249.trans (congrArg some (by kernel_rfl))⟩
  f26:=⟨Tryz.f250.name,by decide,Tryz.func250.trans (congrArg some (by kernel_rfl))⟩
  f27:=⟨Tryz.f251.name,by decide,Tryz.func251.trans (congrArg some (by kernel_rfl))⟩
  f28:=Tryz.func179.trans (congrArg some (by kernel_rfl))
  f29:=Tryz.func180.trans (congrArg some (by kernel_rfl))
  f46:=⟨Tryz.f252.name,by decide,Tryz.func252.trans (congrArg some (by kernel_rfl))⟩
  f47:=Tryz.func204.trans (congrArg some (by kernel_rfl))
  f48:=Tryz.func205.trans (congrArg some (by kernel_rfl))
  f49:=⟨Tryz.f253.name,by decide,Tryz.func253.trans (congrArg some (by kernel_rfl))⟩
  f50:=⟨Tryz.f254.name,by decide,Tryz.func254.trans (congrArg some (by kernel_rfl))⟩
  f57:=⟨Tryz.f255.name,by decide,Tryz.func255.trans (congrArg some (by kernel_rfl))⟩
  t0:=Tryz.underlying0
  a0:=Tryz.isAgg0
  z0:=Tryz.sizeOf0
  v0:=Tryz.zeroValue0
  t3:=Tryz.underlying3
  a3:=Tryz.isAgg3
  z3:=Tryz.sizeOf3
  v3:=Tryz.zeroValue3
  t4:=Tryz.underlying4
  a4:=Tryz.isAgg4
  z4:=Tryz.sizeOf4
  v4:=Tryz.zeroValue4
  t5:=Tryz.underlying5
  a5:=Tryz.isAgg5
  z5:=Tryz.sizeOf5
  v5:=Tryz.zeroValue5
  t9:=Tryz.underlying9
  a9:=Tryz.isAgg9
  z9:=Tryz.sizeOf9
  v9:=Tryz.zeroValue9
  t22:=Tryz.underlying44
  a22:=Tryz.isAgg44
  z22:=Tryz.sizeOf44
  v22:=Tryz.zeroValue44
  t25:=Tryz.underlying301
  a25:=Tryz.isAgg301
  z25:=Tryz.sizeOf301
  v25:=Tryz.zeroValue301
  t39:=Tryz.underlying204
  a39:=Tryz.isAgg204
  z39:=Tryz.sizeOf204
  v39:=Tryz.zeroValue204
  t45:=Tryz.underlying244
  a45:=Tryz.isAgg244
  z45:=Tryz.sizeOf244
  v45:=Tryz.zeroValue244
  t46:=Tryz.underlying245
  a46:=Tryz.isAgg245
  z46:=Tryz.sizeOf245
  v46:=Tryz.zeroValue245
  t50:=Tryz.underlying249
  a50:=Tryz.isAgg249
  z50:=Tryz.sizeOf249
  v50:=Tryz.zeroValue249
  t53:=Tryz.underlying211
  a53:=Tryz.isAgg211
  z53:=Tryz.sizeOf211
  v53:=Tryz.zeroValue211
  t55:=Tryz.underlying253
  a55:=Tryz.isAgg253
  z55:=Tryz.sizeOf253
  v55:=Tryz.zeroValue253
  t66:=Tryz.underlying279
  a66:=Tryz.isAgg279
  z66:=Tryz.sizeOf279
  v66:=Tryz.zeroValue279
  t70:=Tryz.underlying283
  a70:=Tryz.isAgg283
  z70:=Tryz.sizeOf283
  v70:=Tryz.zeroValue283
  t76:=Tryz.underlying307
  a76:=Tryz.isAgg307
  z76:=Tryz.sizeOf307
  v76:=Tryz.zeroValue307
  t77:=Tryz.underlying308
  a77:=Tryz.isAgg308
  z77:=Tryz.sizeOf308
  v77:=Tryz.zeroValue308 }
end Go.Proofs
