import Derived.Ground.SlsfProg
import Derived.Shelf.SlSortCmp.InsertionK
import Derived.Shelf.Strings.Builder1
import Derived.Shelf.Strings.Builder2
import Derived.Shelf.Strings.OnBuilder
import Derived.Shelf.Small.Bits
import Derived.Shelf.Small.Wraps
import Derived.Shelf.Strconv.Itoa0
import Derived.Shelf.Sort.Plain
import Derived.Shelf.Bits.Mul64
import Derived.Shelf.Slices.Turned
import Derived.Shelf.Slices.Equal
import Derived.Ground.Names2Prog
import Derived.Shelf.Slices.Clone
import Derived.Shelf.Slices.CompactI
import Derived.Shelf.Slices.SearchI
import Derived.Shelf.Slices.Cells
import Derived.Shelf.Slices.In.SortNone
import Derived.Shelf.Slices.Empties2
import Derived.Ground.SlgnProg
import Derived.Shelf.SlicesE.Clone
import Derived.Test.YtipgfjihdglocaaGreatProg
set_option linter.unusedSimpArgs false
set_option linter.unusedVariables false
set_option maxRecDepth 100000
set_option maxHeartbeats 64000000
/-
  DERIVED: THE SHELF's CONTRACTS AT THIS DUMP,IN PLAIN WORDS (tools/lay-plain.mjs out of 'TryzShelf.lean',which tools/lay-shelf.mjs wrote): THE SAME DECLARATIONS UNDER THE SAME NAMES: 'import','namespace','open','def','theorem' AND NOTHING ELSE: no command of the shelf's: FOR A HAND-IN. Each laying: the table of numbers ('.._ren') and one theorem,a field a fact of the dump's own or the kernel's comparison;each contract: ONE APPLICATION.
-/
namespace Go.Proofs
open Go.Shelf
def Tryz.lays156_ren:Go.Shelf.Ren:=⟨fun|156=>181|165=>209|166=>210|169=>211|240=>228|241=>229|276=>240|277=>241|n=>n,fun|31=>84|9=>9|3=>3|4=>4|0=>0|20=>20|72=>287|76=>290|70=>285|37=>145|75=>289|127=>310|164=>321|5=>5|80=>151|n=>n,fun|n=>n⟩
theorem Tryz.lays156:Go.Proofs.Lays.n156 Tryz.prog Tryz.lays156_ren:={
  mixed:=by kernel_rfl
  f156:=Tryz.func181.trans (congrArg some (by kernel_rfl))
  f165:=Tryz.func209.trans (congrArg some (by kernel_rfl))
  f166:=Tryz.func210.trans (congrArg some (by kernel_rfl))
  f169:=Tryz.func211.trans (congrArg some (by kernel_rfl))
  f240:=Tryz.func228.trans (congrArg some (by kernel_rfl))
  f241:=Tryz.func229.trans (congrArg some (by kernel_rfl))
  f276:=Tryz.func240.trans (congrArg some (by kernel_rfl))
  f277:=Tryz.func241.trans (congrArg some (by kernel_rfl))
  t0:=Tryz.underlying0
  a0:=Tryz.isAgg0
  z0:=Tryz.sizeOf0
  v0:=Tryz.zeroValue0
  t3:=Tryz.underlying3
  a3:=Tryz.isAgg3
  z3:=Tryz.sizeOf3
  v3:=Tryz.zeroValue3
  t4:=Tryz.underlying4
  a4:=Tryz.isAgg4
  z4:=Tryz.sizeOf4
  v4:=Tryz.zeroValue4
  t9:=Tryz.underlying9
  a9:=Tryz.isAgg9
  z9:=Tryz.sizeOf9
  v9:=Tryz.zeroValue9
  t20:=Tryz.underlying20
  a20:=Tryz.isAgg20
  z20:=Tryz.sizeOf20
  v20:=Tryz.zeroValue20
  t31:=Tryz.underlying84
  a31:=Tryz.isAgg84
  z31:=Tryz.sizeOf84
  v31:=Tryz.zeroValue84
  t37:=Tryz.underlying145
  a37:=Tryz.isAgg145
  z37:=Tryz.sizeOf145
  v37:=Tryz.zeroValue145
  t70:=Tryz.underlying285
  a70:=Tryz.isAgg285
  z70:=Tryz.sizeOf285
  v70:=Tryz.zeroValue285
  t72:=Tryz.underlying287
  a72:=Tryz.isAgg287
  z72:=Tryz.sizeOf287
  v72:=Tryz.zeroValue287
  t75:=Tryz.underlying289
  a75:=Tryz.isAgg289
  z75:=Tryz.sizeOf289
  v75:=Tryz.zeroValue289
  t76:=Tryz.underlying290
  a76:=Tryz.isAgg290
  z76:=Tryz.sizeOf290
  v76:=Tryz.zeroValue290
  t127:=Tryz.underlying310
  a127:=Tryz.isAgg310
  z127:=Tryz.sizeOf310
  v127:=Tryz.zeroValue310
  t164:=Tryz.underlying321
  a164:=Tryz.isAgg321
  z164:=Tryz.sizeOf321
  v164:=Tryz.zeroValue321 }
theorem Tryz.Builder_Extra_156:Builder.Extra Tryz.prog Tryz.lays156_ren:={
  sizeBuilder:=by kernel_rfl
  liesBuilder:=by kernel_rfl
  t5:=Tryz.underlying5
  a5:=Tryz.isAgg5
  z5:=Tryz.sizeOf5
  v5:=Tryz.zeroValue5
  infoByte:=by kernel_rfl
  cellsByte:=by kernel_rfl
  sizeByte:=by kernel_rfl
  neB5:=by decide }
open Go.RowKit in
/-- No element: the empty string; the world is as it was. (Whatever the slice's address and capacity: a nil slice too.) (LAID: no walk: one application.) -/
theorem Tryz.strings_Join_none(a:Option Addr)(c:Nat)(sep:ByteArray)(w:World):
    Calls Tryz.prog 181 #[.slice a 0 c,.string sep] w fun e w'=>e = .returned (.string ⟨#[]⟩)∧w'=w:=Any.strings_Join_none Tryz.lays156 Tryz.Builder_Extra_156 a c sep w
open Go.RowKit in
/-- strings.Join: "Join concatenates the elements of its first argument to create a single string. The separator string sep is placed between elements in the resulting string.": HOWEVER MANY ELEMENTS. Below the heap's end the world is as it was. (LAID: no walk: one application.) -/
theorem Tryz.strings_Join(bk o c:Nat)(xs:List ByteArray)(sep:ByteArray)(w:World)(hcells:∀(j:Nat) x,xs[j]? = some x→w.cell? ⟨bk,o+j,none⟩=some (.string x))(hbk:bk<w.heap.size)(hN:xs.length≤140737488355328)(hcap:xs.length≤c)(hlen:(Lib.join (xs.map (·.data.toList)) sep.data.toList).length≤140737488355328):
    Calls Tryz.prog 181 #[.slice (some ⟨bk,o,none⟩) xs.length c,.string sep] w fun e w'=>e = .returned (.string ⟨(Lib.join (xs.map (·.data.toList)) sep.data.toList).toArray⟩)∧Below w.heap.size w w':=Any.strings_Join Tryz.lays156 Tryz.Builder_Extra_156 bk o c xs sep w hcells hbk hN hcap hlen
def Tryz.lays125_ren:Go.Shelf.Ren:=⟨fun|125=>135|128=>179|129=>180|n=>n,fun|46=>204|3=>3|51=>211|53=>253|4=>4|5=>5|9=>9|n=>n,fun|n=>n⟩
theorem Tryz.lays125:Go.Proofs.Lays.n125 Tryz.prog Tryz.lays125_ren:={
  mixed:=by kernel_rfl
  f125:=Tryz.func135.trans (congrArg some (by kernel_rfl))
  f128:=Tryz.func179.trans (congrArg some (by kernel_rfl))
  f129:=Tryz.func180.trans (congrArg some (by kernel_rfl))
  t3:=Tryz.underlying3
  a3:=Tryz.isAgg3
  z3:=Tryz.sizeOf3
  v3:=Tryz.zeroValue3
  t4:=Tryz.underlying4
  a4:=Tryz.isAgg4
  z4:=Tryz.sizeOf4
  v4:=Tryz.zeroValue4
  t5:=Tryz.underlying5
  a5:=Tryz.isAgg5
  z5:=Tryz.sizeOf5
  v5:=Tryz.zeroValue5
  t9:=Tryz.underlying9
  a9:=Tryz.isAgg9
  z9:=Tryz.sizeOf9
  v9:=Tryz.zeroValue9
  t46:=Tryz.underlying204
  a46:=Tryz.isAgg204
  z46:=Tryz.sizeOf204
  v46:=Tryz.zeroValue204
  t51:=Tryz.underlying211
  a51:=Tryz.isAgg211
  z51:=Tryz.sizeOf211
  v51:=Tryz.zeroValue211
  t53:=Tryz.underlying253
  a53:=Tryz.isAgg253
  z53:=Tryz.sizeOf253
  v53:=Tryz.zeroValue253 }
/-- bits.Len: "Len returns the minimum number of bits required to represent x; the result is 0 for x == 0.": IT RETURNS 'Lib.bitLen x'; the world is as it was. (A uint has 64 bits in the model.) ITS CALLEE bits.Len64 IS MET BY ITS OWN CONTRACT OFF THE SHELF (lay that first). (LAID: no walk: one application.) -/
theorem Tryz.bits_Len(x:Int)(w:World)(h0:0≤x)(h1:x≤18446744073709551615):
    Calls Tryz.prog 135 #[.int .u64 x] w fun e w'=>e = .returned (.int .i64 (Lib.bitLen x.toNat))∧w'=w:=Any.bits_Len Tryz.lays125 x w h0 h1
def Tryz.lays189_ren:Go.Shelf.Ren:=⟨fun|189=>81|125=>135|257=>134|128=>179|129=>180|294=>170|295=>171|296=>172|297=>173|298=>174|299=>175|216=>176|300=>177|301=>178|328=>203|329=>204|330=>205|331=>206|332=>207|215=>208|343=>227|n=>n,fun|28=>43|3=>3|46=>204|0=>0|51=>211|53=>253|4=>4|183=>245|182=>244|131=>249|5=>5|9=>9|218=>279|222=>283|228=>307|229=>308|n=>n,fun|n=>n⟩
theorem Tryz.lays189:Go.Proofs.Lays.n189 Tryz.prog Tryz.lays189_ren:={
  mixed:=by kernel_rfl
  f125:=Tryz.func135.trans (congrArg some (by kernel_rfl))
  f128:=Tryz.func179.trans (congrArg some (by kernel_rfl))
  f129:=Tryz.func180.trans (congrArg some (by kernel_rfl))
  f189:=Tryz.func81.trans (congrArg some (by kernel_rfl))
  f215:=Tryz.func208.trans (congrArg some (by kernel_rfl))
  f216:=Tryz.func176.trans (congrArg some (by kernel_rfl))
  f257:=Tryz.func134.trans (congrArg some (by kernel_rfl))
  f294:=Tryz.func170.trans (congrArg some (by kernel_rfl))
  f295:=Tryz.func171.trans (congrArg some (by kernel_rfl))
  f296:=Tryz.func172.trans (congrArg some (by kernel_rfl))
  f297:=Tryz.func173.trans (congrArg some (by kernel_rfl))
  f298:=Tryz.func174.trans (congrArg some (by kernel_rfl))
  f299:=Tryz.func175.trans (congrArg some (by kernel_rfl))
  f300:=Tryz.func177.trans (congrArg some (by kernel_rfl))
  f301:=Tryz.func178.trans (congrArg some (by kernel_rfl))
  f328:=Tryz.func203.trans (congrArg some (by kernel_rfl))
  f329:=Tryz.func204.trans (congrArg some (by kernel_rfl))
  f330:=Tryz.func205.trans (congrArg some (by kernel_rfl))
  f331:=Tryz.func206.trans (congrArg some (by kernel_rfl))
  f332:=Tryz.func207.trans (congrArg some (by kernel_rfl))
  f343:=Tryz.func227.trans (congrArg some (by kernel_rfl))
  t0:=Tryz.underlying0
  a0:=Tryz.isAgg0
  z0:=Tryz.sizeOf0
  v0:=Tryz.zeroValue0
  t3:=Tryz.underlying3
  a3:=Tryz.isAgg3
  z3:=Tryz.sizeOf3
  v3:=Tryz.zeroValue3
  t4:=Tryz.underlying4
  a4:=Tryz.isAgg4
  z4:=Tryz.sizeOf4
  v4:=Tryz.zeroValue4
  t5:=Tryz.underlying5
  a5:=Tryz.isAgg5
  z5:=Tryz.sizeOf5
  v5:=Tryz.zeroValue5
  t9:=Tryz.underlying9
  a9:=Tryz.isAgg9
  z9:=Tryz.sizeOf9
  v9:=Tryz.zeroValue9
  t28:=Tryz.underlying43
  a28:=Tryz.isAgg43
  z28:=Tryz.sizeOf43
  v28:=Tryz.zeroValue43
  t46:=Tryz.underlying204
  a46:=Tryz.isAgg204
  z46:=Tryz.sizeOf204
  v46:=Tryz.zeroValue204
  t51:=Tryz.underlying211
  a51:=Tryz.isAgg211
  z51:=Tryz.sizeOf211
  v51:=Tryz.zeroValue211
  t53:=Tryz.underlying253
  a53:=Tryz.isAgg253
  z53:=Tryz.sizeOf253
  v53:=Tryz.zeroValue253
  t131:=Tryz.underlying249
  a131:=Tryz.isAgg249
  z131:=Tryz.sizeOf249
  v131:=Tryz.zeroValue249
  t182:=Tryz.underlying244
  a182:=Tryz.isAgg244
  z182:=Tryz.sizeOf244
  v182:=Tryz.zeroValue244
  t183:=Tryz.underlying245
  a183:=Tryz.isAgg245
  z183:=Tryz.sizeOf245
  v183:=Tryz.zeroValue245
  t218:=Tryz.underlying279
  a218:=Tryz.isAgg279
  z218:=Tryz.sizeOf279
  v218:=Tryz.zeroValue279
  t222:=Tryz.underlying283
  a222:=Tryz.isAgg283
  z222:=Tryz.sizeOf283
  v222:=Tryz.zeroValue283
  t228:=Tryz.underlying307
  a228:=Tryz.isAgg307
  z228:=Tryz.sizeOf307
  v228:=Tryz.zeroValue307
  t229:=Tryz.underlying308
  a229:=Tryz.isAgg308
  z229:=Tryz.sizeOf308
  v229:=Tryz.zeroValue308 }
open Go.Sort Go.RowKit in
theorem Tryz.slices_Sort_int(blk off cap:Nat)(zs:List Int)(w:World)(hH:Holds (Value.int .i64) w blk off zs.toArray)(hblk:blk<w.heap.size)(hsz:zs.length<4611686018427387904):
    Calls Tryz.prog 81 #[.slice (some ⟨blk,off,none⟩) zs.length cap] w fun e w' =>
      e = .returned (.tuple #[])∧∃n os,w'=grow (putRow (Value.int .i64) (Sort.ahead w n) blk off (zs.mergeSort fun x y=>decide (x≤y)).toArray) os:=Any.slices_Sort_int Tryz.lays189 blk off cap zs w hH hblk hsz
def Tryz.lays212_ren:Go.Shelf.Ren:=⟨fun|212=>225|263=>238|264=>239|n=>n,fun|46=>204|51=>211|146=>317|53=>253|148=>319|n=>n,fun|n=>n⟩
theorem Tryz.lays212:Go.Proofs.Lays.n212 Tryz.prog Tryz.lays212_ren:={
  mixed:=by kernel_rfl
  f212:=Tryz.func225.trans (congrArg some (by kernel_rfl))
  f263:=Tryz.func238.trans (congrArg some (by kernel_rfl))
  f264:=Tryz.func239.trans (congrArg some (by kernel_rfl))
  t46:=Tryz.underlying204
  a46:=Tryz.isAgg204
  z46:=Tryz.sizeOf204
  v46:=Tryz.zeroValue204
  t51:=Tryz.underlying211
  a51:=Tryz.isAgg211
  z51:=Tryz.sizeOf211
  v51:=Tryz.zeroValue211
  t53:=Tryz.underlying253
  a53:=Tryz.isAgg253
  z53:=Tryz.sizeOf253
  v53:=Tryz.zeroValue253
  t146:=Tryz.underlying317
  a146:=Tryz.isAgg317
  z146:=Tryz.sizeOf317
  v146:=Tryz.zeroValue317
  t148:=Tryz.underlying319
  a148:=Tryz.isAgg319
  z148:=Tryz.sizeOf319
  v148:=Tryz.zeroValue319 }
open Go.RowKit Go.Lib in
/-- math/bits.Mul: "Mul returns the full-width product of x and y": on a machine of 64 bits: Mul64's. (LAID: no walk: one application.) -/
theorem Tryz.bits_Mul(x y:Nat)(hx:x<18446744073709551616)(hy:y<18446744073709551616)(w:World):
    Calls Tryz.prog 225 #[.int .u64 x,.int .u64 y] w fun e w'=>e = .returned (.tuple #[.int .u64 ((x*y / 18446744073709551616:Nat):Int),.int .u64 ((x*y%18446744073709551616:Nat):Int)])∧w'=w:=Any.bits_Mul Tryz.lays212 x y hx hy w
def Tryz.lays107_ren:Go.Shelf.Ren:=⟨fun|107=>31|108=>83|n=>n,fun|28=>43|3=>3|4=>4|0=>0|n=>n,fun|n=>n⟩
theorem Tryz.lays107:Go.Proofs.Lays.n107 Tryz.prog Tryz.lays107_ren:={
  mixed:=by kernel_rfl
  f107:=Tryz.func31.trans (congrArg some (by kernel_rfl))
  f108:=Tryz.func83.trans (congrArg some (by kernel_rfl))
  t0:=Tryz.underlying0
  a0:=Tryz.isAgg0
  z0:=Tryz.sizeOf0
  v0:=Tryz.zeroValue0
  t3:=Tryz.underlying3
  a3:=Tryz.isAgg3
  z3:=Tryz.sizeOf3
  v3:=Tryz.zeroValue3
  t4:=Tryz.underlying4
  a4:=Tryz.isAgg4
  z4:=Tryz.sizeOf4
  v4:=Tryz.zeroValue4
  t28:=Tryz.underlying43
  a28:=Tryz.isAgg43
  z28:=Tryz.sizeOf43
  v28:=Tryz.zeroValue43 }
open Go.Lib in
/-- slices.Contains at []int: "Contains reports whether v is present in s.": IT RETURNS 'elements.contains v'; the world is as it was. ITS CALLEE slices.Index IS MET BY ITS OWN CONTRACT OFF THE SHELF (lay that first): no loop is walked here. (LAID: no walk: one application.) -/
theorem Tryz.slices_Contains_int(b off n c:Nat)(zs:List Int)(x:Int)(w:World)(hz:n≤zs.length)(hbig:n≤9223372036854775807)(hc:∀j,j<zs.length→w.cell? ⟨b,off+j,none⟩=some (.int .i64 (zs.getD j 0))):
    Calls Tryz.prog 31 #[.slice (some ⟨b,off,none⟩) n c,.int .i64 x] w fun e w'=>e = .returned (.bool ((zs.take n).contains x))∧w'=w:=Any.slices_Contains_int Tryz.lays107 b off n c zs x w hz hbig hc
open Go.Lib in
/-- The same at a slice of length 0, a nil one too. (LAID: no walk: one application.) -/
theorem Tryz.slices_Contains_int_empty(a:Option Addr)(c:Nat)(x:Int)(w:World):
    Calls Tryz.prog 31 #[.slice a 0 c,.int .i64 x] w fun e w'=>e = .returned (.bool false)∧w'=w:=Any.slices_Contains_int_empty Tryz.lays107 a c x w
def Tryz.laysNm215_ren:Go.Shelf.Ren:=⟨fun|15=>80|n=>n,fun|22=>43|3=>3|4=>4|n=>n,fun|n=>n⟩
theorem Tryz.laysNm215:Go.Proofs.Lays2.n15 Tryz.prog Tryz.laysNm215_ren:={
  mixed:=by kernel_rfl
  f15:=Tryz.func80.trans (congrArg some (by kernel_rfl))
  t3:=Tryz.underlying3
  a3:=Tryz.isAgg3
  z3:=Tryz.sizeOf3
  v3:=Tryz.zeroValue3
  t4:=Tryz.underlying4
  a4:=Tryz.isAgg4
  z4:=Tryz.sizeOf4
  v4:=Tryz.zeroValue4
  t22:=Tryz.underlying43
  a22:=Tryz.isAgg43
  z22:=Tryz.sizeOf43
  v22:=Tryz.zeroValue43
  i3:=by kernel_rfl }
open Go.RowKit Go.Lib in
/-- slices.Clone at []int: "Clone returns a copy of the slice. The elements are copied using assignment, so this is a shallow clone. The result may have additional unused capacity. The result preserves the nilness of s.": OF A SLICE THAT IS NOT nil IT RETURNS A SLICE THAT IS NOT nil, OF THE SAME ELEMENTS, IN MEMORY OF THE CALL's OWN: in the how-to's words (6f): 'w'.ownsRow B e 1 v' n cells': v' begins at the head of a row among the blocks from B on (B: the heap's size at the call), not frozen, whose first cells are the elements · 'Below B w w'': below B all is as it was. The capacity is whatever the run-time gives. 'zs': what the cells behind the slice's address hold; 'zs.take n': its elements. (LAID: no walk: one application.) -/
theorem Tryz.slices_Clone_int(b off n c:Nat)(zs:List Int)(w:World)(hz:n≤zs.length)(hbig:n*8≤140737488355328)(hc:∀j,j<zs.length→w.cell? ⟨b,off+j,none⟩=some (.int .i64 (zs.getD j 0))):
    Calls Tryz.prog 80 #[.slice (some ⟨b,off,none⟩) n c] w fun e w'=>∃v',e = .returned v'∧w'.ownsRow w.heap.size 3 1 v' n ((zs.take n).map (Value.int .i64))∧v' ≠ .slice none 0 0∧Below w.heap.size w w':=Any.slices_Clone_int Tryz.laysNm215 b off n c zs w hz hbig hc
open Go.RowKit Go.Lib in
/-- The same at nil: nil comes back; the world is as it was. (LAID: no walk: one application.) -/
theorem Tryz.slices_Clone_int_nil(n c:Nat)(w:World):
    Calls Tryz.prog 80 #[.slice none n c] w fun e w'=>e = .returned (.slice none 0 0)∧w'=w:=Any.slices_Clone_int_nil Tryz.laysNm215 n c w
def Tryz.laysNm216_ren:Go.Shelf.Ren:=⟨fun|16=>96|n=>n,fun|24=>84|9=>9|4=>4|n=>n,fun|n=>n⟩
theorem Tryz.laysNm216:Go.Proofs.Lays2.n16 Tryz.prog Tryz.laysNm216_ren:={
  mixed:=by kernel_rfl
  f16:=Tryz.func96.trans (congrArg some (by kernel_rfl))
  t4:=Tryz.underlying4
  a4:=Tryz.isAgg4
  z4:=Tryz.sizeOf4
  v4:=Tryz.zeroValue4
  t9:=Tryz.underlying9
  a9:=Tryz.isAgg9
  z9:=Tryz.sizeOf9
  v9:=Tryz.zeroValue9
  t24:=Tryz.underlying84
  a24:=Tryz.isAgg84
  z24:=Tryz.sizeOf84
  v24:=Tryz.zeroValue84
  i9:=by kernel_rfl }
open Go.RowKit Go.Lib in
/-- slices.Clone at []string: "Clone returns a copy of the slice. The elements are copied using assignment, so this is a shallow clone. The result may have additional unused capacity. The result preserves the nilness of s.": OF A SLICE THAT IS NOT nil IT RETURNS A SLICE THAT IS NOT nil, OF THE SAME ELEMENTS, IN MEMORY OF THE CALL's OWN: in the how-to's words (6f): 'w'.ownsRow B e 1 v' n cells': v' begins at the head of a row among the blocks from B on (B: the heap's size at the call), not frozen, whose first cells are the elements · 'Below B w w'': below B all is as it was. The capacity is whatever the run-time gives. 'zs': what the cells behind the slice's address hold; 'zs.take n': its elements. (LAID: no walk: one application.) -/
theorem Tryz.slices_Clone_string(b off n c:Nat)(zs:List ByteArray)(w:World)(hz:n≤zs.length)(hbig:n*16≤140737488355328)(hc:∀j,j<zs.length→w.cell? ⟨b,off+j,none⟩=some (.string (zs.getD j ByteArray.empty))):
    Calls Tryz.prog 96 #[.slice (some ⟨b,off,none⟩) n c] w fun e w'=>∃v',e = .returned v'∧w'.ownsRow w.heap.size 9 1 v' n ((zs.take n).map (Value.string))∧v' ≠ .slice none 0 0∧Below w.heap.size w w':=Any.slices_Clone_string Tryz.laysNm216 b off n c zs w hz hbig hc
open Go.RowKit Go.Lib in
/-- The same at nil: nil comes back; the world is as it was. (LAID: no walk: one application.) -/
theorem Tryz.slices_Clone_string_nil(n c:Nat)(w:World):
    Calls Tryz.prog 96 #[.slice none n c] w fun e w'=>e = .returned (.slice none 0 0)∧w'=w:=Any.slices_Clone_string_nil Tryz.laysNm216 n c w
open Go.RowKit Go.Lib in
/-- The same at a slice of length 0 that is not nil, WHATEVER ITS ADDRESS (no cell is asked for): a slice that is not nil and owns nothing comes back. (LAID: no walk: one application.) -/
theorem Tryz.slices_Clone_int_zero(a:Addr)(c:Nat)(w:World):
    Calls Tryz.prog 80 #[.slice (some a) 0 c] w fun e w'=>∃v',e = .returned v'∧w'.ownsRow w.heap.size 3 1 v' 0 []∧v' ≠ .slice none 0 0∧Below w.heap.size w w':=Any.slices_Clone_int_zero Tryz.laysNm215 a c w
def Tryz.laysNm220_ren:Go.Shelf.Ren:=⟨fun|20=>82|n=>n,fun|22=>43|3=>3|4=>4|0=>0|n=>n,fun|n=>n⟩
theorem Tryz.laysNm220:Go.Proofs.Lays2.n20 Tryz.prog Tryz.laysNm220_ren:={
  mixed:=by kernel_rfl
  f20:=Tryz.func82.trans (congrArg some (by kernel_rfl))
  t0:=Tryz.underlying0
  a0:=Tryz.isAgg0
  z0:=Tryz.sizeOf0
  v0:=Tryz.zeroValue0
  t3:=Tryz.underlying3
  a3:=Tryz.isAgg3
  z3:=Tryz.sizeOf3
  v3:=Tryz.zeroValue3
  t4:=Tryz.underlying4
  a4:=Tryz.isAgg4
  z4:=Tryz.sizeOf4
  v4:=Tryz.zeroValue4
  t22:=Tryz.underlying43
  a22:=Tryz.isAgg43
  z22:=Tryz.sizeOf43
  v22:=Tryz.zeroValue43
  i3:=by kernel_rfl }
open Go.RowKit Go.Lib Go.Sort in
/-- slices.Compact at []int: "Compact replaces consecutive runs of equal elements with a single copy. This is like the uniq command found on Unix. Compact modifies the contents of the slice s and returns the modified slice, which may have a smaller length. Compact zeroes the elements between the new length and the original length. The result preserves the nilness of s.": IT RETURNS THE SLICE CUT TO 'Lib.compact zs'; ITS CELLS HOLD 'Lib.compact zs', THEN ZERO VALUES up to the old length; all else is as it was, but for the count of draws. IN THE WORDS OF slices.Sort's CONTRACT ('Holds', 'putRow'): so the everyday 'slices.Sort(xs); xs = slices.Compact(xs)' goes from the one contract to the other. It asks 'zs.length ≤ cap' (every slice's: the reslicing 's[:k]' looks at it). Length 0, nil: '.._empty'. (LAID: no walk: one application.) -/
theorem Tryz.slices_Compact_int(blk off cap:Nat)(zs:List Int)(w:World)(hH:Holds (Value.int .i64) w blk off zs.toArray)(hsz:zs.length≤9223372036854775807)(hcap:zs.length≤cap):
    Calls Tryz.prog 82 #[.slice (some ⟨blk,off,none⟩) zs.length cap] w fun e w'=>e = .returned (.slice (some ⟨blk,off,none⟩) (Lib.compact zs).length cap)∧∃q,w'=putRow (Value.int .i64) (Sort.ahead w q) blk off (Lib.compact zs++List.replicate (zs.length-(Lib.compact zs).length) 0).toArray:=Any.slices_Compact_int Tryz.laysNm220 blk off cap zs w hH hsz hcap
open Go.RowKit Go.Lib Go.Sort in
/-- The same at a slice of length 0, a nil one too: it comes back as it is. (LAID: no walk: one application.) -/
theorem Tryz.slices_Compact_int_empty(a:Option Addr)(cap:Nat)(w:World):
    Calls Tryz.prog 82 #[.slice a 0 cap] w fun e w'=>e = .returned (.slice a 0 cap)∧w'=w:=Any.slices_Compact_int_empty Tryz.laysNm220 a cap w
open Go.RowKit Go.Sort in
/-- .. and plain. (LAID: no walk: one application.) -/
theorem Tryz.slices_Sort_int_none(p:Option Addr)(cap:Nat)(w:World):
    Calls Tryz.prog 81 #[.slice p 0 cap] w fun e w'=>e = .returned (.tuple #[])∧w'=w:=Any.slices_Sort_int_none Tryz.lays189 p cap w
def Tryz.cloneInstr_ren:Go.Shelf.Ren:=⟨fun|41=>153|n=>n,fun|22=>49|23=>187|4=>4|n=>n,fun|n=>n⟩
theorem Tryz.cloneInstr:Go.Proofs.SlLaysE0.n41 Tryz.prog Tryz.cloneInstr_ren:={
  mixed:=by kernel_rfl
  f41:=⟨Tryz.f153.name,by decide,Tryz.func153.trans (congrArg some (by kernel_rfl))⟩
  t4:=Tryz.underlying4
  a4:=Tryz.isAgg4
  z4:=Tryz.sizeOf4
  v4:=Tryz.zeroValue4
  t22:=Tryz.underlying49
  a22:=Tryz.isAgg49
  z22:=Tryz.sizeOf49
  v22:=Tryz.zeroValue49 }
def Tryz.insNode_ren:Go.Shelf.Ren:=⟨fun|20=>196|n=>n,fun|24=>52|22=>22|3=>3|25=>184|4=>4|0=>0|n=>n,fun|n=>n⟩
theorem Tryz.insNode:Go.Proofs.SlLaysF0.n20 Tryz.prog Tryz.insNode_ren:={
  mixed:=by kernel_rfl
  f20:=⟨Tryz.f196.name,by decide,Tryz.func196.trans (congrArg some (by kernel_rfl))⟩
  t0:=Tryz.underlying0
  a0:=Tryz.isAgg0
  z0:=Tryz.sizeOf0
  v0:=Tryz.zeroValue0
  t3:=Tryz.underlying3
  a3:=Tryz.isAgg3
  z3:=Tryz.sizeOf3
  v3:=Tryz.zeroValue3
  t4:=Tryz.underlying4
  a4:=Tryz.isAgg4
  z4:=Tryz.sizeOf4
  v4:=Tryz.zeroValue4
  t22:=Tryz.underlying22
  a22:=Tryz.isAgg22
  z22:=Tryz.sizeOf22
  v22:=Tryz.zeroValue22
  t25:=Tryz.underlying184
  a25:=Tryz.isAgg184
  z25:=Tryz.sizeOf184
  v25:=Tryz.zeroValue184 }
end Go.Proofs
