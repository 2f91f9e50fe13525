/- The library's contracts at this program, in plain words. -/
import Derived.Shelf.Small.Bits
import Derived.Shelf.Small.Wraps
import Derived.Shelf.Strconv.Itoa0
import Derived.Shelf.Sort.Plain
import Derived.Shelf.Unicode.Props
import Derived.Shelf.Bits.Mul64
import Derived.Shelf.Unicode.Is16White
import Derived.Shelf.Unicode.IsSpaceAny
import Derived.Shelf.Unicode.Is16Any
import Derived.Shelf.Unicode.Is32Any
import Derived.Shelf.Unicode.ExclAny
import Derived.Shelf.Unicode.PredsAny
import Derived.Shelf.Unicode.PredsPay
import Derived.Shelf.Slices.Turned
import Derived.Shelf.Slices.Reverse
import Derived.Shelf.Slices.Equal
import Derived.Ground.Names2Prog
import Derived.Shelf.Slices.Clone
import Derived.Shelf.Slices.SearchI
import Derived.Shelf.Slices.Cells
import Derived.Shelf.Slices.In.SortNone
import Derived.Shelf.Slices.Empties2
import Derived.Test.YtjlclkcmfokobaaGreatDoorProg
namespace Go.Proofs
open Go.Shelf
def Tryz.lays189_ren:Go.Shelf.Ren:=⟨fun|189=>69|125=>107|257=>106|128=>141|129=>142|294=>132|295=>133|296=>134|297=>135|298=>136|299=>137|216=>138|300=>139|301=>140|328=>172|329=>173|330=>174|331=>175|332=>176|215=>177|343=>199|n=>n,fun|28=>23|3=>3|46=>157|0=>0|51=>193|53=>195|4=>4|183=>187|182=>186|131=>54|5=>5|9=>9|218=>219|222=>223|228=>247|229=>142|n=>n,fun|n=>n⟩
theorem Tryz.lays189:Go.Proofs.Lays.n189 Tryz.prog Tryz.lays189_ren:={
  mixed:=by kernel_rfl
  f125:=Tryz.func107.trans (congrArg some (by kernel_rfl))
  f128:=Tryz.func141.trans (congrArg some (by kernel_rfl))
  f129:=Tryz.func142.trans (congrArg some (by kernel_rfl))
  f189:=Tryz.func69.trans (congrArg some (by kernel_rfl))
  f215:=Tryz.func177.trans (congrArg some (by kernel_rfl))
  f216:=Tryz.func138.trans (congrArg some (by kernel_rfl))
  f257:=Tryz.func106.trans (congrArg some (by kernel_rfl))
  f294:=Tryz.func132.trans (congrArg some (by kernel_rfl))
  f295:=Tryz.func133.trans (congrArg some (by kernel_rfl))
  f296:=Tryz.func134.trans (congrArg some (by kernel_rfl))
  f297:=Tryz.func135.trans (congrArg some (by kernel_rfl))
  f298:=Tryz.func136.trans (congrArg some (by kernel_rfl))
  f299:=Tryz.func137.trans (congrArg some (by kernel_rfl))
  f300:=Tryz.func139.trans (congrArg some (by kernel_rfl))
  f301:=Tryz.func140.trans (congrArg some (by kernel_rfl))
  f328:=Tryz.func172.trans (congrArg some (by kernel_rfl))
  f329:=Tryz.func173.trans (congrArg some (by kernel_rfl))
  f330:=Tryz.func174.trans (congrArg some (by kernel_rfl))
  f331:=Tryz.func175.trans (congrArg some (by kernel_rfl))
  f332:=Tryz.func176.trans (congrArg some (by kernel_rfl))
  f343:=Tryz.func199.trans (congrArg some (by kernel_rfl))
  t0:=Tryz.underlying0
  a0:=Tryz.isAgg0
  z0:=Tryz.sizeOf0
  v0:=Tryz.zeroValue0
  t3:=Tryz.underlying3
  a3:=Tryz.isAgg3
  z3:=Tryz.sizeOf3
  v3:=Tryz.zeroValue3
  t4:=Tryz.underlying4
  a4:=Tryz.isAgg4
  z4:=Tryz.sizeOf4
  v4:=Tryz.zeroValue4
  t5:=Tryz.underlying5
  a5:=Tryz.isAgg5
  z5:=Tryz.sizeOf5
  v5:=Tryz.zeroValue5
  t9:=Tryz.underlying9
  a9:=Tryz.isAgg9
  z9:=Tryz.sizeOf9
  v9:=Tryz.zeroValue9
  t28:=Tryz.underlying23
  a28:=Tryz.isAgg23
  z28:=Tryz.sizeOf23
  v28:=Tryz.zeroValue23
  t46:=Tryz.underlying157
  a46:=Tryz.isAgg157
  z46:=Tryz.sizeOf157
  v46:=Tryz.zeroValue157
  t51:=Tryz.underlying193
  a51:=Tryz.isAgg193
  z51:=Tryz.sizeOf193
  v51:=Tryz.zeroValue193
  t53:=Tryz.underlying195
  a53:=Tryz.isAgg195
  z53:=Tryz.sizeOf195
  v53:=Tryz.zeroValue195
  t131:=Tryz.underlying54
  a131:=Tryz.isAgg54
  z131:=Tryz.sizeOf54
  v131:=Tryz.zeroValue54
  t182:=Tryz.underlying186
  a182:=Tryz.isAgg186
  z182:=Tryz.sizeOf186
  v182:=Tryz.zeroValue186
  t183:=Tryz.underlying187
  a183:=Tryz.isAgg187
  z183:=Tryz.sizeOf187
  v183:=Tryz.zeroValue187
  t218:=Tryz.underlying219
  a218:=Tryz.isAgg219
  z218:=Tryz.sizeOf219
  v218:=Tryz.zeroValue219
  t222:=Tryz.underlying223
  a222:=Tryz.isAgg223
  z222:=Tryz.sizeOf223
  v222:=Tryz.zeroValue223
  t228:=Tryz.underlying247
  a228:=Tryz.isAgg247
  z228:=Tryz.sizeOf247
  v228:=Tryz.zeroValue247
  t229:=Tryz.underlying142
  a229:=Tryz.isAgg142
  z229:=Tryz.sizeOf142
  v229:=Tryz.zeroValue142 }
open Go.Sort Go.RowKit in
theorem Tryz.slices_Sort_int(blk off cap:Nat)(zs:List Int)(w:World)(hH:Holds (Value.int .i64) w blk off zs.toArray)(hblk:blk<w.heap.size)(hsz:zs.length<4611686018427387904) :
    Calls Tryz.prog 69 #[.slice (some ⟨blk,off,none⟩) zs.length cap] w fun e w'=>
      e=.returned (.tuple #[])∧∃n os,w'=grow (putRow (Value.int .i64) (Sort.ahead w n) blk off (zs.mergeSort fun x y=>decide (x≤y)).toArray) os:=Any.slices_Sort_int Tryz.lays189 blk off cap zs w hH hblk hsz
def Tryz.lays200_ren:Go.Shelf.Ren:=⟨fun|200=>155|261=>186|311=>201|312=>202|n=>n,fun|21=>21|4=>4|51=>193|5=>5|119=>233|0=>0|141=>235|196=>253|193=>250|3=>3|198=>255|49=>69|194=>251|201=>258|226=>266|46=>157|227=>267|n=>n,fun|7=>0|8=>1|n=>n⟩
theorem Tryz.lays200:Go.Proofs.Lays.n200 Tryz.prog Tryz.lays200_ren:={
  mixed:=by kernel_rfl
  f200:=Tryz.func155.trans (congrArg some (by kernel_rfl))
  f261:=Tryz.func186.trans (congrArg some (by kernel_rfl))
  f311:=Tryz.func201.trans (congrArg some (by kernel_rfl))
  f312:=Tryz.func202.trans (congrArg some (by kernel_rfl))
  t0:=Tryz.underlying0
  a0:=Tryz.isAgg0
  z0:=Tryz.sizeOf0
  v0:=Tryz.zeroValue0
  t3:=Tryz.underlying3
  a3:=Tryz.isAgg3
  z3:=Tryz.sizeOf3
  v3:=Tryz.zeroValue3
  t4:=Tryz.underlying4
  a4:=Tryz.isAgg4
  z4:=Tryz.sizeOf4
  v4:=Tryz.zeroValue4
  t5:=Tryz.underlying5
  a5:=Tryz.isAgg5
  z5:=Tryz.sizeOf5
  v5:=Tryz.zeroValue5
  t21:=Tryz.underlying21
  a21:=Tryz.isAgg21
  z21:=Tryz.sizeOf21
  v21:=Tryz.zeroValue21
  t46:=Tryz.underlying157
  a46:=Tryz.isAgg157
  z46:=Tryz.sizeOf157
  v46:=Tryz.zeroValue157
  t49:=Tryz.underlying69
  a49:=Tryz.isAgg69
  z49:=Tryz.sizeOf69
  v49:=Tryz.zeroValue69
  t51:=Tryz.underlying193
  a51:=Tryz.isAgg193
  z51:=Tryz.sizeOf193
  v51:=Tryz.zeroValue193
  t119:=Tryz.underlying233
  a119:=Tryz.isAgg233
  z119:=Tryz.sizeOf233
  t141:=Tryz.underlying235
  a141:=Tryz.isAgg235
  z141:=Tryz.sizeOf235
  v141:=Tryz.zeroValue235
  t193:=Tryz.underlying250
  a193:=Tryz.isAgg250
  z193:=Tryz.sizeOf250
  v193:=Tryz.zeroValue250
  t194:=Tryz.underlying251
  a194:=Tryz.isAgg251
  z194:=Tryz.sizeOf251
  v194:=Tryz.zeroValue251
  t196:=Tryz.underlying253
  a196:=Tryz.isAgg253
  z196:=Tryz.sizeOf253
  v196:=Tryz.zeroValue253
  t198:=Tryz.underlying255
  a198:=Tryz.isAgg255
  z198:=Tryz.sizeOf255
  v198:=Tryz.zeroValue255
  t201:=Tryz.underlying258
  a201:=Tryz.isAgg258
  z201:=Tryz.sizeOf258
  v201:=Tryz.zeroValue258
  t226:=Tryz.underlying266
  a226:=Tryz.isAgg266
  z226:=Tryz.sizeOf266
  v226:=Tryz.zeroValue266
  t227:=Tryz.underlying267
  a227:=Tryz.isAgg267
  z227:=Tryz.sizeOf267
  v227:=Tryz.zeroValue267
  g7:=by kernel_rfl
  g8:=by kernel_rfl }
def Tryz.lays212_ren:Go.Shelf.Ren:=⟨fun|212=>124|263=>156|264=>157|n=>n,fun|46=>157|51=>193|146=>207|53=>195|148=>209|n=>n,fun|n=>n⟩
theorem Tryz.lays212:Go.Proofs.Lays.n212 Tryz.prog Tryz.lays212_ren:={
  mixed:=by kernel_rfl
  f212:=Tryz.func124.trans (congrArg some (by kernel_rfl))
  f263:=Tryz.func156.trans (congrArg some (by kernel_rfl))
  f264:=Tryz.func157.trans (congrArg some (by kernel_rfl))
  t46:=Tryz.underlying157
  a46:=Tryz.isAgg157
  z46:=Tryz.sizeOf157
  v46:=Tryz.zeroValue157
  t51:=Tryz.underlying193
  a51:=Tryz.isAgg193
  z51:=Tryz.sizeOf193
  v51:=Tryz.zeroValue193
  t53:=Tryz.underlying195
  a53:=Tryz.isAgg195
  z53:=Tryz.sizeOf195
  v53:=Tryz.zeroValue195
  t146:=Tryz.underlying207
  a146:=Tryz.isAgg207
  z146:=Tryz.sizeOf207
  v146:=Tryz.zeroValue207
  t148:=Tryz.underlying209
  a148:=Tryz.isAgg209
  z148:=Tryz.sizeOf209
  v148:=Tryz.zeroValue209 }
open Go.RowKit Go.Lib in
theorem Tryz.bits_Mul(x y:Nat)(hx:x<18446744073709551616)(hy:y<18446744073709551616)(w:World) :
    Calls Tryz.prog 124 #[.int .u64 x,.int .u64 y] w fun e w'=>e=.returned (.tuple #[.int .u64 ((x*y / 18446744073709551616:Nat):Int),.int .u64 ((x*y%18446744073709551616:Nat):Int)])∧w'=w:=Any.bits_Mul Tryz.lays212 x y hx hy w
def Tryz.lays261_ren:Go.Shelf.Ren:=⟨fun|261=>186|311=>201|312=>202|n=>n,fun|141=>235|21=>21|4=>4|0=>0|196=>253|193=>250|3=>3|51=>193|198=>255|49=>69|194=>251|201=>258|226=>266|46=>157|227=>267|n=>n,fun|n=>n⟩
theorem Tryz.lays261:Go.Proofs.Lays.n261 Tryz.prog Tryz.lays261_ren:={
  mixed:=by kernel_rfl
  f261:=Tryz.func186.trans (congrArg some (by kernel_rfl))
  f311:=Tryz.func201.trans (congrArg some (by kernel_rfl))
  f312:=Tryz.func202.trans (congrArg some (by kernel_rfl))
  t0:=Tryz.underlying0
  a0:=Tryz.isAgg0
  z0:=Tryz.sizeOf0
  v0:=Tryz.zeroValue0
  t3:=Tryz.underlying3
  a3:=Tryz.isAgg3
  z3:=Tryz.sizeOf3
  v3:=Tryz.zeroValue3
  t4:=Tryz.underlying4
  a4:=Tryz.isAgg4
  z4:=Tryz.sizeOf4
  v4:=Tryz.zeroValue4
  t21:=Tryz.underlying21
  a21:=Tryz.isAgg21
  z21:=Tryz.sizeOf21
  v21:=Tryz.zeroValue21
  t46:=Tryz.underlying157
  a46:=Tryz.isAgg157
  z46:=Tryz.sizeOf157
  v46:=Tryz.zeroValue157
  t49:=Tryz.underlying69
  a49:=Tryz.isAgg69
  z49:=Tryz.sizeOf69
  v49:=Tryz.zeroValue69
  t51:=Tryz.underlying193
  a51:=Tryz.isAgg193
  z51:=Tryz.sizeOf193
  v51:=Tryz.zeroValue193
  t141:=Tryz.underlying235
  a141:=Tryz.isAgg235
  z141:=Tryz.sizeOf235
  v141:=Tryz.zeroValue235
  t193:=Tryz.underlying250
  a193:=Tryz.isAgg250
  z193:=Tryz.sizeOf250
  v193:=Tryz.zeroValue250
  t194:=Tryz.underlying251
  a194:=Tryz.isAgg251
  z194:=Tryz.sizeOf251
  v194:=Tryz.zeroValue251
  t196:=Tryz.underlying253
  a196:=Tryz.isAgg253
  z196:=Tryz.sizeOf253
  v196:=Tryz.zeroValue253
  t198:=Tryz.underlying255
  a198:=Tryz.isAgg255
  z198:=Tryz.sizeOf255
  v198:=Tryz.zeroValue255
  t201:=Tryz.underlying258
  a201:=Tryz.isAgg258
  z201:=Tryz.sizeOf258
  v201:=Tryz.zeroValue258
  t226:=Tryz.underlying266
  a226:=Tryz.isAgg266
  z226:=Tryz.sizeOf266
  v226:=Tryz.zeroValue266
  t227:=Tryz.underlying267
  a227:=Tryz.isAgg267
  z227:=Tryz.sizeOf267
  v227:=Tryz.zeroValue267 }
open Go.RowKit Go.Lib in
theorem Tryz.unicode_IsLetter_all(r:Int)(w:World)(hlo:-2147483648≤r)(hhi:r≤2147483647)(htab:Lib.TabIs Tryz.prog w "unicode.properties" .u8 Lib.propertiesTab) (hV:RVar 1 letterT w) :
    Calls Tryz.prog 155 #[.int .i32 r] w fun e w'=>e=.returned (.bool (isLetterU r))∧Below w.heap.size w w':=Any.unicode_IsLetter_all Tryz.lays200 (by kernel_rfl) r w hlo hhi htab hV
def Tryz.lays107_ren:Go.Shelf.Ren:=⟨fun|107=>125|108=>158|n=>n,fun|28=>23|3=>3|4=>4|0=>0|n=>n,fun|n=>n⟩
theorem Tryz.lays107:Go.Proofs.Lays.n107 Tryz.prog Tryz.lays107_ren:={
  mixed:=by kernel_rfl
  f107:=Tryz.func125.trans (congrArg some (by kernel_rfl))
  f108:=Tryz.func158.trans (congrArg some (by kernel_rfl))
  t0:=Tryz.underlying0
  a0:=Tryz.isAgg0
  z0:=Tryz.sizeOf0
  v0:=Tryz.zeroValue0
  t3:=Tryz.underlying3
  a3:=Tryz.isAgg3
  z3:=Tryz.sizeOf3
  v3:=Tryz.zeroValue3
  t4:=Tryz.underlying4
  a4:=Tryz.isAgg4
  z4:=Tryz.sizeOf4
  v4:=Tryz.zeroValue4
  t28:=Tryz.underlying23
  a28:=Tryz.isAgg23
  z28:=Tryz.sizeOf23
  v28:=Tryz.zeroValue23 }
open Go.Lib in
theorem Tryz.slices_Contains_int(b off n c:Nat)(zs:List Int)(x:Int)(w:World)(hz:n≤zs.length)(hbig:n≤9223372036854775807)(hc:∀j,j<zs.length→w.cell? ⟨b,off+j,none⟩=some (.int .i64 (zs.getD j 0))) :
    Calls Tryz.prog 125 #[.slice (some ⟨b,off,none⟩) n c,.int .i64 x] w fun e w'=>e=.returned (.bool ((zs.take n).contains x))∧w'=w:=Any.slices_Contains_int Tryz.lays107 b off n c zs x w hz hbig hc
open Go.Lib in
theorem Tryz.slices_Contains_int_empty(a:Option Addr)(c:Nat)(x:Int)(w:World) :
    Calls Tryz.prog 125 #[.slice a 0 c,.int .i64 x] w fun e w'=>e=.returned (.bool false)∧w'=w:=Any.slices_Contains_int_empty Tryz.lays107 a c x w
def Tryz.lays112_ren:Go.Shelf.Ren:=⟨fun|112=>126|n=>n,fun|28=>23|3=>3|4=>4|0=>0|n=>n,fun|n=>n⟩
theorem Tryz.lays112:Go.Proofs.Lays.n112 Tryz.prog Tryz.lays112_ren:={
  mixed:=by kernel_rfl
  f112:=Tryz.func126.trans (congrArg some (by kernel_rfl))
  t0:=Tryz.underlying0
  a0:=Tryz.isAgg0
  z0:=Tryz.sizeOf0
  v0:=Tryz.zeroValue0
  t3:=Tryz.underlying3
  a3:=Tryz.isAgg3
  z3:=Tryz.sizeOf3
  v3:=Tryz.zeroValue3
  t4:=Tryz.underlying4
  a4:=Tryz.isAgg4
  z4:=Tryz.sizeOf4
  v4:=Tryz.zeroValue4
  t28:=Tryz.underlying23
  a28:=Tryz.isAgg23
  z28:=Tryz.sizeOf23
  v28:=Tryz.zeroValue23 }
open Go.RowKit Go.Lib Go.Sort in
theorem Tryz.slices_Reverse_int(blk off cap:Nat)(zs:List Int)(w:World)(hH:Holds (Value.int .i64) w blk off zs.toArray)(hsz:zs.length≤9223372036854775807) :
    Calls Tryz.prog 126 #[.slice (some ⟨blk,off,none⟩) zs.length cap] w fun e w'=>e=.returned (.tuple #[])∧∃n,w'=putRow (Value.int .i64) (Sort.ahead w n) blk off zs.reverse.toArray:=Any.slices_Reverse_int Tryz.lays112 blk off cap zs w hH hsz
open Go.RowKit Go.Lib Go.Sort in
theorem Tryz.slices_Reverse_int_empty(a:Option Addr)(cap:Nat)(w:World) :
    Calls Tryz.prog 126 #[.slice a 0 cap] w fun e w'=>e=.returned (.tuple #[])∧w'=w:=Any.slices_Reverse_int_empty Tryz.lays112 a cap w
def Tryz.lays111_ren:Go.Shelf.Ren:=⟨fun|111=>183|n=>n,fun|28=>23|3=>3|4=>4|0=>0|n=>n,fun|n=>n⟩
theorem Tryz.lays111:Go.Proofs.Lays.n111 Tryz.prog Tryz.lays111_ren:={
  mixed:=by kernel_rfl
  f111:=Tryz.func183.trans (congrArg some (by kernel_rfl))
  t0:=Tryz.underlying0
  a0:=Tryz.isAgg0
  z0:=Tryz.sizeOf0
  v0:=Tryz.zeroValue0
  t3:=Tryz.underlying3
  a3:=Tryz.isAgg3
  z3:=Tryz.sizeOf3
  v3:=Tryz.zeroValue3
  t4:=Tryz.underlying4
  a4:=Tryz.isAgg4
  z4:=Tryz.sizeOf4
  v4:=Tryz.zeroValue4
  t28:=Tryz.underlying23
  a28:=Tryz.isAgg23
  z28:=Tryz.sizeOf23
  v28:=Tryz.zeroValue23 }
open Go.RowKit Go.Lib in
theorem Tryz.slices_Equal_int(b1 o1 n c b2 o2 m d:Nat)(xs ys:List Int)(w:World)(hx:n≤xs.length)(hy:m≤ys.length)(hbig:n≤9223372036854775807)(hbig2:m≤9223372036854775807)(hc1:∀j,j<xs.length→w.cell? ⟨b1,o1+j,none⟩=some (.int .i64 (xs.getD j 0)))(hc2:∀j,j<ys.length→w.cell? ⟨b2,o2+j,none⟩=some (.int .i64 (ys.getD j 0))) :
    Calls Tryz.prog 183 #[.slice (some ⟨b1,o1,none⟩) n c,.slice (some ⟨b2,o2,none⟩) m d] w fun e w'=>e=.returned (.bool (xs.take n==ys.take m))∧∃q,w'=w.drewN q:=Any.slices_Equal_int Tryz.lays111 b1 o1 n c b2 o2 m d xs ys w hx hy hbig hbig2 hc1 hc2
open Go.RowKit Go.Lib in
theorem Tryz.slices_Equal_int_empty(a1 a2:Option Addr)(c m d:Nat)(w:World)(hbig2:m≤9223372036854775807) :
    Calls Tryz.prog 183 #[.slice a1 0 c,.slice a2 m d] w fun e w'=>e=.returned (.bool (decide (m=0)))∧w'=w:=Any.slices_Equal_int_empty Tryz.lays111 a1 a2 c m d w hbig2
def Tryz.laysNm215_ren:Go.Shelf.Ren:=⟨fun|15=>79|n=>n,fun|22=>23|3=>3|4=>4|n=>n,fun|n=>n⟩
theorem Tryz.laysNm215:Go.Proofs.Lays2.n15 Tryz.prog Tryz.laysNm215_ren:={
  mixed:=by kernel_rfl
  f15:=Tryz.func79.trans (congrArg some (by kernel_rfl))
  t3:=Tryz.underlying3
  a3:=Tryz.isAgg3
  z3:=Tryz.sizeOf3
  v3:=Tryz.zeroValue3
  t4:=Tryz.underlying4
  a4:=Tryz.isAgg4
  z4:=Tryz.sizeOf4
  v4:=Tryz.zeroValue4
  t22:=Tryz.underlying23
  a22:=Tryz.isAgg23
  z22:=Tryz.sizeOf23
  v22:=Tryz.zeroValue23
  i3:=by kernel_rfl }
open Go.RowKit Go.Lib in
theorem Tryz.slices_Clone_int(b off n c:Nat)(zs:List Int)(w:World)(hz:n≤zs.length)(hbig:n*8≤140737488355328)(hc:∀j,j<zs.length→w.cell? ⟨b,off+j,none⟩=some (.int .i64 (zs.getD j 0))) :
    Calls Tryz.prog 79 #[.slice (some ⟨b,off,none⟩) n c] w fun e w'=>∃v',e=.returned v'∧w'.ownsRow w.heap.size 3 1 v' n ((zs.take n).map (Value.int .i64))∧v'≠.slice none 0 0∧Below w.heap.size w w':=Any.slices_Clone_int Tryz.laysNm215 b off n c zs w hz hbig hc
open Go.RowKit Go.Lib in
theorem Tryz.slices_Clone_int_nil(n c:Nat)(w:World) :
    Calls Tryz.prog 79 #[.slice none n c] w fun e w'=>e=.returned (.slice none 0 0)∧w'=w:=Any.slices_Clone_int_nil Tryz.laysNm215 n c w
open Go.RowKit Go.Lib in
theorem Tryz.slices_Clone_int_zero(a:Addr)(c:Nat)(w:World) :
    Calls Tryz.prog 79 #[.slice (some a) 0 c] w fun e w'=>∃v',e=.returned v'∧w'.ownsRow w.heap.size 3 1 v' 0 []∧v'≠.slice none 0 0∧Below w.heap.size w w':=Any.slices_Clone_int_zero Tryz.laysNm215 a c w
open Go.RowKit Go.Sort in
theorem Tryz.slices_Sort_int_none(p:Option Addr)(cap:Nat)(w:World) :
    Calls Tryz.prog 69 #[.slice p 0 cap] w fun e w'=>e=.returned (.tuple #[])∧w'=w:=Any.slices_Sort_int_none Tryz.lays189 p cap w
open Go.RowKit Go.Lib in
theorem Tryz.slices_Equal_int_lens(a1 a2:Option Addr)(n c m d:Nat)(w:World)(hnm:n≠m) :
    Calls Tryz.prog 183 #[.slice a1 n c,.slice a2 m d] w fun e w'=>e=.returned (.bool false)∧w'=w:=Any.slices_Equal_int_lens Tryz.lays111 a1 a2 n c m d w hnm
end Go.Proofs
