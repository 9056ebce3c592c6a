import Derived.Ground.SlsfProg
import Derived.Shelf.SlSortCmp.InsertionK
import Derived.Shelf.Small.Bits
import Derived.Shelf.Small.Wraps
import Derived.Shelf.Strconv.Itoa0
import Derived.Shelf.Sort.Plain
import Derived.Shelf.Bits.Mul64
import Derived.Shelf.Slices.Turned
import Derived.Shelf.Slices.Equal
import Derived.Ground.Names2Prog
import Derived.Shelf.Slices.Clone
import Derived.Shelf.Slices.CompactI
import Derived.Shelf.Slices.SearchI
import Derived.Shelf.Slices.Cells
import Derived.Shelf.Slices.In.SortNone
import Derived.Shelf.Slices.Empties2
import Derived.Ground.SlgnProg
import Derived.Shelf.SlicesE.Clone
import Derived.Test.YtgebkpgilgppgaaGreatProg
set_option linter.unusedSimpArgs false
set_option linter.unusedVariables false
set_option maxRecDepth 100000
set_option maxHeartbeats 64000000
/-
  DERIVED: THE SHELF's CONTRACTS AT THIS DUMP,IN PLAIN WORDS (tools/lay-plain.mjs out of 'TryzShelf.lean',which tools/lay-shelf.mjs wrote): THE SAME DECLARATIONS UNDER THE SAME NAMES: 'import','namespace','open','def','theorem' AND NOTHING ELSE: no command of the shelf's: FOR A HAND-IN. Each laying: the table of numbers ('.._ren') and one theorem,a field a fact of the dump's own or the kernel's comparison;each contract: ONE APPLICATION.
-/
namespace Go.Proofs
open Go.Shelf
def Tryz.lays125_ren:Go.Shelf.Ren:=⟨fun|125=>124|128=>153|129=>154|n=>n,fun|46=>194|3=>3|51=>229|53=>231|4=>4|5=>5|9=>9|n=>n,fun|n=>n⟩
theorem Tryz.lays125:Go.Proofs.Lays.n125 Tryz.prog Tryz.lays125_ren:={
  mixed:=by kernel_rfl
  f125:=Tryz.func124.trans (congrArg some (by kernel_rfl))
  f128:=Tryz.func153.trans (congrArg some (by kernel_rfl))
  f129:=Tryz.func154.trans (congrArg some (by kernel_rfl))
  t3:=Tryz.underlying3
  a3:=Tryz.isAgg3
  z3:=Tryz.sizeOf3
  v3:=Tryz.zeroValue3
  t4:=Tryz.underlying4
  a4:=Tryz.isAgg4
  z4:=Tryz.sizeOf4
  v4:=Tryz.zeroValue4
  t5:=Tryz.underlying5
  a5:=Tryz.isAgg5
  z5:=Tryz.sizeOf5
  v5:=Tryz.zeroValue5
  t9:=Tryz.underlying9
  a9:=Tryz.isAgg9
  z9:=Tryz.sizeOf9
  v9:=Tryz.zeroValue9
  t46:=Tryz.underlying194
  a46:=Tryz.isAgg194
  z46:=Tryz.sizeOf194
  v46:=Tryz.zeroValue194
  t51:=Tryz.underlying229
  a51:=Tryz.isAgg229
  z51:=Tryz.sizeOf229
  v51:=Tryz.zeroValue229
  t53:=Tryz.underlying231
  a53:=Tryz.isAgg231
  z53:=Tryz.sizeOf231
  v53:=Tryz.zeroValue231 }
/-- bits.Len: "Len returns the minimum number of bits required to represent x; the result is 0 for x == 0.": IT RETURNS 'Lib.bitLen x'; the world is as it was. (A uint has 64 bits in the model.) ITS CALLEE bits.Len64 IS MET BY ITS OWN CONTRACT OFF THE SHELF (lay that first). (LAID: no walk: one application.) -/
theorem Tryz.bits_Len(x:Int)(w:World)(h0:0≤x)(h1:x≤18446744073709551615):
    Calls Tryz.prog 124 #[.int .u64 x] w fun e w'=>e = .returned (.int .i64 (Lib.bitLen x.toNat))∧w'=w:=Any.bits_Len Tryz.lays125 x w h0 h1
def Tryz.lays189_ren:Go.Shelf.Ren:=⟨fun|189=>95|125=>124|257=>123|128=>153|129=>154|294=>144|295=>145|296=>146|297=>147|298=>148|299=>149|216=>150|300=>151|301=>152|328=>178|329=>179|330=>180|331=>181|332=>182|215=>183|343=>194|n=>n,fun|28=>40|3=>3|46=>194|0=>0|51=>229|53=>231|4=>4|183=>222|182=>221|131=>226|5=>5|9=>9|218=>252|222=>256|228=>266|229=>267|n=>n,fun|n=>n⟩
theorem Tryz.lays189:Go.Proofs.Lays.n189 Tryz.prog Tryz.lays189_ren:={
  mixed:=by kernel_rfl
  f125:=Tryz.func124.trans (congrArg some (by kernel_rfl))
  f128:=Tryz.func153.trans (congrArg some (by kernel_rfl))
  f129:=Tryz.func154.trans (congrArg some (by kernel_rfl))
  f189:=Tryz.func95.trans (congrArg some (by kernel_rfl))
  f215:=Tryz.func183.trans (congrArg some (by kernel_rfl))
  f216:=Tryz.func150.trans (congrArg some (by kernel_rfl))
  f257:=Tryz.func123.trans (congrArg some (by kernel_rfl))
  f294:=Tryz.func144.trans (congrArg some (by kernel_rfl))
  f295:=Tryz.func145.trans (congrArg some (by kernel_rfl))
  f296:=Tryz.func146.trans (congrArg some (by kernel_rfl))
  f297:=Tryz.func147.trans (congrArg some (by kernel_rfl))
  f298:=Tryz.func148.trans (congrArg some (by kernel_rfl))
  f299:=Tryz.func149.trans (congrArg some (by kernel_rfl))
  f300:=Tryz.func151.trans (congrArg some (by kernel_rfl))
  f301:=Tryz.func152.trans (congrArg some (by kernel_rfl))
  f328:=Tryz.func178.trans (congrArg some (by kernel_rfl))
  f329:=Tryz.func179.trans (congrArg some (by kernel_rfl))
  f330:=Tryz.func180.trans (congrArg some (by kernel_rfl))
  f331:=Tryz.func181.trans (congrArg some (by kernel_rfl))
  f332:=Tryz.func182.trans (congrArg some (by kernel_rfl))
  f343:=Tryz.func194.trans (congrArg some (by kernel_rfl))
  t0:=Tryz.underlying0
  a0:=Tryz.isAgg0
  z0:=Tryz.sizeOf0
  v0:=Tryz.zeroValue0
  t3:=Tryz.underlying3
  a3:=Tryz.isAgg3
  z3:=Tryz.sizeOf3
  v3:=Tryz.zeroValue3
  t4:=Tryz.underlying4
  a4:=Tryz.isAgg4
  z4:=Tryz.sizeOf4
  v4:=Tryz.zeroValue4
  t5:=Tryz.underlying5
  a5:=Tryz.isAgg5
  z5:=Tryz.sizeOf5
  v5:=Tryz.zeroValue5
  t9:=Tryz.underlying9
  a9:=Tryz.isAgg9
  z9:=Tryz.sizeOf9
  v9:=Tryz.zeroValue9
  t28:=Tryz.underlying40
  a28:=Tryz.isAgg40
  z28:=Tryz.sizeOf40
  v28:=Tryz.zeroValue40
  t46:=Tryz.underlying194
  a46:=Tryz.isAgg194
  z46:=Tryz.sizeOf194
  v46:=Tryz.zeroValue194
  t51:=Tryz.underlying229
  a51:=Tryz.isAgg229
  z51:=Tryz.sizeOf229
  v51:=Tryz.zeroValue229
  t53:=Tryz.underlying231
  a53:=Tryz.isAgg231
  z53:=Tryz.sizeOf231
  v53:=Tryz.zeroValue231
  t131:=Tryz.underlying226
  a131:=Tryz.isAgg226
  z131:=Tryz.sizeOf226
  v131:=Tryz.zeroValue226
  t182:=Tryz.underlying221
  a182:=Tryz.isAgg221
  z182:=Tryz.sizeOf221
  v182:=Tryz.zeroValue221
  t183:=Tryz.underlying222
  a183:=Tryz.isAgg222
  z183:=Tryz.sizeOf222
  v183:=Tryz.zeroValue222
  t218:=Tryz.underlying252
  a218:=Tryz.isAgg252
  z218:=Tryz.sizeOf252
  v218:=Tryz.zeroValue252
  t222:=Tryz.underlying256
  a222:=Tryz.isAgg256
  z222:=Tryz.sizeOf256
  v222:=Tryz.zeroValue256
  t228:=Tryz.underlying266
  a228:=Tryz.isAgg266
  z228:=Tryz.sizeOf266
  v228:=Tryz.zeroValue266
  t229:=Tryz.underlying267
  a229:=Tryz.isAgg267
  z229:=Tryz.sizeOf267
  v229:=Tryz.zeroValue267 }
open Go.Sort Go.RowKit in
theorem Tryz.slices_Sort_int(blk off cap:Nat)(zs:List Int)(w:World)(hH:Holds (Value.int .i64) w blk off zs.toArray)(hblk:blk<w.heap.size)(hsz:zs.length<4611686018427387904):
    Calls Tryz.prog 95 #[.slice (some ⟨blk,off,none⟩) zs.length cap] w fun e w' =>
      e = .returned (.tuple #[])∧∃n os,w'=grow (putRow (Value.int .i64) (Sort.ahead w n) blk off (zs.mergeSort fun x y=>decide (x≤y)).toArray) os:=Any.slices_Sort_int Tryz.lays189 blk off cap zs w hH hblk hsz
def Tryz.lays212_ren:Go.Shelf.Ren:=⟨fun|212=>192|263=>198|264=>199|n=>n,fun|46=>194|51=>229|146=>273|53=>231|148=>275|n=>n,fun|n=>n⟩
theorem Tryz.lays212:Go.Proofs.Lays.n212 Tryz.prog Tryz.lays212_ren:={
  mixed:=by kernel_rfl
  f212:=Tryz.func192.trans (congrArg some (by kernel_rfl))
  f263:=Tryz.func198.trans (congrArg some (by kernel_rfl))
  f264:=Tryz.func199.trans (congrArg some (by kernel_rfl))
  t46:=Tryz.underlying194
  a46:=Tryz.isAgg194
  z46:=Tryz.sizeOf194
  v46:=Tryz.zeroValue194
  t51:=Tryz.underlying229
  a51:=Tryz.isAgg229
  z51:=Tryz.sizeOf229
  v51:=Tryz.zeroValue229
  t53:=Tryz.underlying231
  a53:=Tryz.isAgg231
  z53:=Tryz.sizeOf231
  v53:=Tryz.zeroValue231
  t146:=Tryz.underlying273
  a146:=Tryz.isAgg273
  z146:=Tryz.sizeOf273
  v146:=Tryz.zeroValue273
  t148:=Tryz.underlying275
  a148:=Tryz.isAgg275
  z148:=Tryz.sizeOf275
  v148:=Tryz.zeroValue275 }
open Go.RowKit Go.Lib in
/-- math/bits.Mul: "Mul returns the full-width product of x and y": on a machine of 64 bits: Mul64's. (LAID: no walk: one application.) -/
theorem Tryz.bits_Mul(x y:Nat)(hx:x<18446744073709551616)(hy:y<18446744073709551616)(w:World):
    Calls Tryz.prog 192 #[.int .u64 x,.int .u64 y] w fun e w'=>e = .returned (.tuple #[.int .u64 ((x*y / 18446744073709551616:Nat):Int),.int .u64 ((x*y%18446744073709551616:Nat):Int)])∧w'=w:=Any.bits_Mul Tryz.lays212 x y hx hy w
def Tryz.lays107_ren:Go.Shelf.Ren:=⟨fun|107=>59|108=>97|n=>n,fun|28=>40|3=>3|4=>4|0=>0|n=>n,fun|n=>n⟩
theorem Tryz.lays107:Go.Proofs.Lays.n107 Tryz.prog Tryz.lays107_ren:={
  mixed:=by kernel_rfl
  f107:=Tryz.func59.trans (congrArg some (by kernel_rfl))
  f108:=Tryz.func97.trans (congrArg some (by kernel_rfl))
  t0:=Tryz.underlying0
  a0:=Tryz.isAgg0
  z0:=Tryz.sizeOf0
  v0:=Tryz.zeroValue0
  t3:=Tryz.underlying3
  a3:=Tryz.isAgg3
  z3:=Tryz.sizeOf3
  v3:=Tryz.zeroValue3
  t4:=Tryz.underlying4
  a4:=Tryz.isAgg4
  z4:=Tryz.sizeOf4
  v4:=Tryz.zeroValue4
  t28:=Tryz.underlying40
  a28:=Tryz.isAgg40
  z28:=Tryz.sizeOf40
  v28:=Tryz.zeroValue40 }
open Go.Lib in
/-- slices.Contains at []int: "Contains reports whether v is present in s.": IT RETURNS 'elements.contains v'; the world is as it was. ITS CALLEE slices.Index IS MET BY ITS OWN CONTRACT OFF THE SHELF (lay that first): no loop is walked here. (LAID: no walk: one application.) -/
theorem Tryz.slices_Contains_int(b off n c:Nat)(zs:List Int)(x:Int)(w:World)(hz:n≤zs.length)(hbig:n≤9223372036854775807)(hc:∀j,j<zs.length→w.cell? ⟨b,off+j,none⟩=some (.int .i64 (zs.getD j 0))):
    Calls Tryz.prog 59 #[.slice (some ⟨b,off,none⟩) n c,.int .i64 x] w fun e w'=>e = .returned (.bool ((zs.take n).contains x))∧w'=w:=Any.slices_Contains_int Tryz.lays107 b off n c zs x w hz hbig hc
open Go.Lib in
/-- The same at a slice of length 0, a nil one too. (LAID: no walk: one application.) -/
theorem Tryz.slices_Contains_int_empty(a:Option Addr)(c:Nat)(x:Int)(w:World):
    Calls Tryz.prog 59 #[.slice a 0 c,.int .i64 x] w fun e w'=>e = .returned (.bool false)∧w'=w:=Any.slices_Contains_int_empty Tryz.lays107 a c x w
def Tryz.laysNm215_ren:Go.Shelf.Ren:=⟨fun|15=>81|n=>n,fun|22=>40|3=>3|4=>4|n=>n,fun|n=>n⟩
theorem Tryz.laysNm215:Go.Proofs.Lays2.n15 Tryz.prog Tryz.laysNm215_ren:={
  mixed:=by kernel_rfl
  f15:=Tryz.func81.trans (congrArg some (by kernel_rfl))
  t3:=Tryz.underlying3
  a3:=Tryz.isAgg3
  z3:=Tryz.sizeOf3
  v3:=Tryz.zeroValue3
  t4:=Tryz.underlying4
  a4:=Tryz.isAgg4
  z4:=Tryz.sizeOf4
  v4:=Tryz.zeroValue4
  t22:=Tryz.underlying40
  a22:=Tryz.isAgg40
  z22:=Tryz.sizeOf40
  v22:=Tryz.zeroValue40
  i3:=by kernel_rfl }
open Go.RowKit Go.Lib in
/-- slices.Clone at []int: "Clone returns a copy of the slice. The elements are copied using assignment, so this is a shallow clone. The result may have additional unused capacity. The result preserves the nilness of s.": OF A SLICE THAT IS NOT nil IT RETURNS A SLICE THAT IS NOT nil, OF THE SAME ELEMENTS, IN MEMORY OF THE CALL's OWN: in the how-to's words (6f): 'w'.ownsRow B e 1 v' n cells': v' begins at the head of a row among the blocks from B on (B: the heap's size at the call), not frozen, whose first cells are the elements · 'Below B w w'': below B all is as it was. The capacity is whatever the run-time gives. 'zs': what the cells behind the slice's address hold; 'zs.take n': its elements. (LAID: no walk: one application.) -/
theorem Tryz.slices_Clone_int(b off n c:Nat)(zs:List Int)(w:World)(hz:n≤zs.length)(hbig:n*8≤140737488355328)(hc:∀j,j<zs.length→w.cell? ⟨b,off+j,none⟩=some (.int .i64 (zs.getD j 0))):
    Calls Tryz.prog 81 #[.slice (some ⟨b,off,none⟩) n c] w fun e w'=>∃v',e = .returned v'∧w'.ownsRow w.heap.size 3 1 v' n ((zs.take n).map (Value.int .i64))∧v' ≠ .slice none 0 0∧Below w.heap.size w w':=Any.slices_Clone_int Tryz.laysNm215 b off n c zs w hz hbig hc
open Go.RowKit Go.Lib in
/-- The same at nil: nil comes back; the world is as it was. (LAID: no walk: one application.) -/
theorem Tryz.slices_Clone_int_nil(n c:Nat)(w:World):
    Calls Tryz.prog 81 #[.slice none n c] w fun e w'=>e = .returned (.slice none 0 0)∧w'=w:=Any.slices_Clone_int_nil Tryz.laysNm215 n c w
open Go.RowKit Go.Lib in
/-- The same at a slice of length 0 that is not nil, WHATEVER ITS ADDRESS (no cell is asked for): a slice that is not nil and owns nothing comes back. (LAID: no walk: one application.) -/
theorem Tryz.slices_Clone_int_zero(a:Addr)(c:Nat)(w:World):
    Calls Tryz.prog 81 #[.slice (some a) 0 c] w fun e w'=>∃v',e = .returned v'∧w'.ownsRow w.heap.size 3 1 v' 0 []∧v' ≠ .slice none 0 0∧Below w.heap.size w w':=Any.slices_Clone_int_zero Tryz.laysNm215 a c w
def Tryz.laysNm220_ren:Go.Shelf.Ren:=⟨fun|20=>96|n=>n,fun|22=>40|3=>3|4=>4|0=>0|n=>n,fun|n=>n⟩
theorem Tryz.laysNm220:Go.Proofs.Lays2.n20 Tryz.prog Tryz.laysNm220_ren:={
  mixed:=by kernel_rfl
  f20:=Tryz.func96.trans (congrArg some (by kernel_rfl))
  t0:=Tryz.underlying0
  a0:=Tryz.isAgg0
  z0:=Tryz.sizeOf0
  v0:=Tryz.zeroValue0
  t3:=Tryz.underlying3
  a3:=Tryz.isAgg3
  z3:=Tryz.sizeOf3
  v3:=Tryz.zeroValue3
  t4:=Tryz.underlying4
  a4:=Tryz.isAgg4
  z4:=Tryz.sizeOf4
  v4:=Tryz.zeroValue4
  t22:=Tryz.underlying40
  a22:=Tryz.isAgg40
  z22:=Tryz.sizeOf40
  v22:=Tryz.zeroValue40
  i3:=by kernel_rfl }
open Go.RowKit Go.Lib Go.Sort in
/-- slices.Compact at []int: "Compact replaces consecutive runs of equal elements with a single copy. This is like the uniq command found on Unix. Compact modifies the contents of the slice s and returns the modified slice, which may have a smaller length. Compact zeroes the elements between the new length and the original length. The result preserves the nilness of s.": IT RETURNS THE SLICE CUT TO 'Lib.compact zs'; ITS CELLS HOLD 'Lib.compact zs', THEN ZERO VALUES up to the old length; all else is as it was, but for the count of draws. IN THE WORDS OF slices.Sort's CONTRACT ('Holds', 'putRow'): so the everyday 'slices.Sort(xs); xs = slices.Compact(xs)' goes from the one contract to the other. It asks 'zs.length ≤ cap' (every slice's: the reslicing 's[:k]' looks at it). Length 0, nil: '.._empty'. (LAID: no walk: one application.) -/
theorem Tryz.slices_Compact_int(blk off cap:Nat)(zs:List Int)(w:World)(hH:Holds (Value.int .i64) w blk off zs.toArray)(hsz:zs.length≤9223372036854775807)(hcap:zs.length≤cap):
    Calls Tryz.prog 96 #[.slice (some ⟨blk,off,none⟩) zs.length cap] w fun e w'=>e = .returned (.slice (some ⟨blk,off,none⟩) (Lib.compact zs).length cap)∧∃q,w'=putRow (Value.int .i64) (Sort.ahead w q) blk off (Lib.compact zs++List.replicate (zs.length-(Lib.compact zs).length) 0).toArray:=Any.slices_Compact_int Tryz.laysNm220 blk off cap zs w hH hsz hcap
open Go.RowKit Go.Lib Go.Sort in
/-- The same at a slice of length 0, a nil one too: it comes back as it is. (LAID: no walk: one application.) -/
theorem Tryz.slices_Compact_int_empty(a:Option Addr)(cap:Nat)(w:World):
    Calls Tryz.prog 96 #[.slice a 0 cap] w fun e w'=>e = .returned (.slice a 0 cap)∧w'=w:=Any.slices_Compact_int_empty Tryz.laysNm220 a cap w
open Go.RowKit Go.Sort in
/-- .. and plain. (LAID: no walk: one application.) -/
theorem Tryz.slices_Sort_int_none(p:Option Addr)(cap:Nat)(w:World):
    Calls Tryz.prog 95 #[.slice p 0 cap] w fun e w'=>e = .returned (.tuple #[])∧w'=w:=Any.slices_Sort_int_none Tryz.lays189 p cap w
def Tryz.laysSlE041_f81_ren:Go.Shelf.Ren:=⟨fun|41=>81|n=>n,fun|22=>40|23=>3|4=>4|n=>n,fun|n=>n⟩
theorem Tryz.laysSlE041_f81:Go.Proofs.SlLaysE0.n41 Tryz.prog Tryz.laysSlE041_f81_ren:={
  mixed:=by kernel_rfl
  f41:=⟨Tryz.f81.name,by decide,Tryz.func81.trans (congrArg some (by kernel_rfl))⟩
  t4:=Tryz.underlying4
  a4:=Tryz.isAgg4
  z4:=Tryz.sizeOf4
  v4:=Tryz.zeroValue4
  t22:=Tryz.underlying40
  a22:=Tryz.isAgg40
  z22:=Tryz.sizeOf40
  v22:=Tryz.zeroValue40 }
open Go.RowKit Go.Lib in
/-- The same at nil: nil comes back; the world is as it was; nothing is asked of the element's type. (LAID AT THE INSTANCE 'slices.Clone[[]int,int]': no walk: one application.) -/
theorem Tryz.slices_Clone_nil(n c:Nat)(w:World):
    Calls Tryz.prog 81 #[.slice none n c] w fun e w'=>e = .returned (.slice none 0 0)∧w'=w:=AnyE.slices_Clone_nil Tryz.laysSlE041_f81 n c w
def Tryz.cloneInstr_ren:Go.Shelf.Ren:=⟨fun|41=>80|n=>n,fun|22=>61|23=>128|4=>4|n=>n,fun|n=>n⟩
theorem Tryz.cloneInstr:Go.Proofs.SlLaysE0.n41 Tryz.prog Tryz.cloneInstr_ren:={
  mixed:=by kernel_rfl
  f41:=⟨Tryz.f80.name,by decide,Tryz.func80.trans (congrArg some (by kernel_rfl))⟩
  t4:=Tryz.underlying4
  a4:=Tryz.isAgg4
  z4:=Tryz.sizeOf4
  v4:=Tryz.zeroValue4
  t22:=Tryz.underlying61
  a22:=Tryz.isAgg61
  z22:=Tryz.sizeOf61
  v22:=Tryz.zeroValue61 }
def Tryz.insNode_ren:Go.Shelf.Ren:=⟨fun|20=>125|n=>n,fun|24=>64|22=>22|3=>3|25=>135|4=>4|0=>0|n=>n,fun|n=>n⟩
theorem Tryz.insNode:Go.Proofs.SlLaysF0.n20 Tryz.prog Tryz.insNode_ren:={
  mixed:=by kernel_rfl
  f20:=⟨Tryz.f125.name,by decide,Tryz.func125.trans (congrArg some (by kernel_rfl))⟩
  t0:=Tryz.underlying0
  a0:=Tryz.isAgg0
  z0:=Tryz.sizeOf0
  v0:=Tryz.zeroValue0
  t3:=Tryz.underlying3
  a3:=Tryz.isAgg3
  z3:=Tryz.sizeOf3
  v3:=Tryz.zeroValue3
  t4:=Tryz.underlying4
  a4:=Tryz.isAgg4
  z4:=Tryz.sizeOf4
  v4:=Tryz.zeroValue4
  t22:=Tryz.underlying22
  a22:=Tryz.isAgg22
  z22:=Tryz.sizeOf22
  v22:=Tryz.zeroValue22
  t25:=Tryz.underlying135
  a25:=Tryz.isAgg135
  z25:=Tryz.sizeOf135
  v25:=Tryz.zeroValue135 }
end Go.Proofs
