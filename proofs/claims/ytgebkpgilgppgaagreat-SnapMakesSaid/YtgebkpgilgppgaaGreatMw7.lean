import Derived.Ground.SlsfProg
import Derived.Shelf.SlSortCmp.WholeK
import Derived.Test.YtgebkpgilgppgaaGreatProg
set_option linter.unusedSimpArgs false
set_option linter.unusedVariables false
set_option maxRecDepth 100000
set_option maxHeartbeats 64000000
/-
  DERIVED: THE SHELF's CONTRACTS AT THIS DUMP,IN PLAIN WORDS (tools/lay-plain.mjs out of 'TryzShelf2.lean',which tools/lay-shelf.mjs wrote): THE SAME DECLARATIONS UNDER THE SAME NAMES: 'import','namespace','open','def','theorem' AND NOTHING ELSE: no command of the shelf's: FOR A HAND-IN. Each laying: the table of numbers ('.._ren') and one theorem,a field a fact of the dump's own or the kernel's comparison;each contract: ONE APPLICATION.
-/
namespace Go.Proofs
open Go.Shelf
def Tryz.sortEnt_ren:Go.Shelf.Ren:=⟨fun|6=>114|15=>124|14=>142|28=>153|29=>154|20=>165|21=>166|22=>167|23=>168|24=>169|25=>170|26=>171|27=>172|46=>186|47=>179|48=>180|49=>187|50=>188|57=>195|n=>n,fun|22=>23|24=>57|25=>188|3=>3|39=>194|0=>0|53=>229|55=>231|4=>4|46=>222|45=>221|50=>226|5=>5|9=>9|66=>252|70=>256|76=>266|77=>267|n=>n,fun|n=>n⟩
theorem Tryz.sortEnt:Go.Proofs.SlLaysF0.n6 Tryz.prog Tryz.sortEnt_ren:={
  mixed:=by kernel_rfl
  f6:=⟨Tryz.f114.name,by decide,Tryz.func114.trans (congrArg some (by kernel_rfl))⟩
  f14:=⟨Tryz.f142.name,by decide,Tryz.func142.trans (congrArg some (by kernel_rfl))⟩
  f15:=Tryz.func124.trans (congrArg some (by kernel_rfl))
  f20:=⟨Tryz.f165.name,by decide,Tryz.func165.trans (congrArg some (by kernel_rfl))⟩
  f21:=⟨Tryz.f166.name,by decide,Tryz.func166.trans (congrArg some (by kernel_rfl))⟩
  f22:=⟨Tryz.f167.name,by decide,Tryz.func167.trans (congrArg some (by kernel_rfl))⟩
  f23:=⟨Tryz.f168.name,by decide,Tryz.func168.trans (congrArg some (by kernel_rfl))⟩
  f24:=⟨Tryz.f169.name,by decide,Tryz.func169.trans (congrArg some (by kernel_rfl))⟩
  f25:=⟨Tryz.f170.name,by decide,Tryz.func170.trans (congrArg some (by kernel_rfl))⟩
  f26:=⟨Tryz.f171.name,by decide,Tryz.func171.trans (congrArg some (by kernel_rfl))⟩
  f27:=⟨Tryz.f172.name,by decide,Tryz.func172.trans (congrArg some (by kernel_rfl))⟩
  f28:=Tryz.func153.trans (congrArg some (by kernel_rfl))
  f29:=Tryz.func154.trans (congrArg some (by kernel_rfl))
  f46:=⟨Tryz.f186.name,by decide,Tryz.func186.trans (congrArg some (by kernel_rfl))⟩
  f47:=Tryz.func179.trans (congrArg some (by kernel_rfl))
  f48:=Tryz.func180.trans (congrArg some (by kernel_rfl))
  f49:=⟨Tryz.f187.name,by decide,Tryz.func187.trans (congrArg some (by kernel_rfl))⟩
  f50:=⟨Tryz.f188.name,by decide,Tryz.func188.trans (congrArg some (by kernel_rfl))⟩
  f57:=⟨Tryz.f195.name,by decide,Tryz.func195.trans (congrArg some (by kernel_rfl))⟩
  t0:=Tryz.underlying0
  a0:=Tryz.isAgg0
  z0:=Tryz.sizeOf0
  v0:=Tryz.zeroValue0
  t3:=Tryz.underlying3
  a3:=Tryz.isAgg3
  z3:=Tryz.sizeOf3
  v3:=Tryz.zeroValue3
  t4:=Tryz.underlying4
  a4:=Tryz.isAgg4
  z4:=Tryz.sizeOf4
  v4:=Tryz.zeroValue4
  t5:=Tryz.underlying5
  a5:=Tryz.isAgg5
  z5:=Tryz.sizeOf5
  v5:=Tryz.zeroValue5
  t9:=Tryz.underlying9
  a9:=Tryz.isAgg9
  z9:=Tryz.sizeOf9
  v9:=Tryz.zeroValue9
  t22:=Tryz.underlying23
  a22:=Tryz.isAgg23
  z22:=Tryz.sizeOf23
  v22:=Tryz.zeroValue23
  t25:=Tryz.underlying188
  a25:=Tryz.isAgg188
  z25:=Tryz.sizeOf188
  v25:=Tryz.zeroValue188
  t39:=Tryz.underlying194
  a39:=Tryz.isAgg194
  z39:=Tryz.sizeOf194
  v39:=Tryz.zeroValue194
  t45:=Tryz.underlying221
  a45:=Tryz.isAgg221
  z45:=Tryz.sizeOf221
  v45:=Tryz.zeroValue221
  t46:=Tryz.underlying222
  a46:=Tryz.isAgg222
  z46:=Tryz.sizeOf222
  v46:=Tryz.zeroValue222
  t50:=Tryz.underlying226
  a50:=Tryz.isAgg226
  z50:=Tryz.sizeOf226
  v50:=Tryz.zeroValue226
  t53:=Tryz.underlying229
  a53:=Tryz.isAgg229
  z53:=Tryz.sizeOf229
  v53:=Tryz.zeroValue229
  t55:=Tryz.underlying231
  a55:=Tryz.isAgg231
  z55:=Tryz.sizeOf231
  v55:=Tryz.zeroValue231
  t66:=Tryz.underlying252
  a66:=Tryz.isAgg252
  z66:=Tryz.sizeOf252
  v66:=Tryz.zeroValue252
  t70:=Tryz.underlying256
  a70:=Tryz.isAgg256
  z70:=Tryz.sizeOf256
  v70:=Tryz.zeroValue256
  t76:=Tryz.underlying266
  a76:=Tryz.isAgg266
  z76:=Tryz.sizeOf266
  v76:=Tryz.zeroValue266
  t77:=Tryz.underlying267
  a77:=Tryz.isAgg267
  z77:=Tryz.sizeOf267
  v77:=Tryz.zeroValue267 }
end Go.Proofs
