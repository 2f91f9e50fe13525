/- The library's contracts at this program, in plain words. -/
import Derived.Shelf.Small.Bits
import Derived.Shelf.Small.Wraps
import Derived.Shelf.Strconv.Itoa0
import Derived.Shelf.Sort.Plain
import Derived.Shelf.Unicode.Props
import Derived.Shelf.Bits.Mul64
import Derived.Shelf.Unicode.Is16White
import Derived.Shelf.Unicode.IsSpaceAny
import Derived.Shelf.Unicode.Is16Any
import Derived.Shelf.Unicode.Is32Any
import Derived.Shelf.Unicode.ExclAny
import Derived.Shelf.Unicode.PredsAny
import Derived.Shelf.Unicode.PredsPay
import Derived.Shelf.Slices.Turned
import Derived.Shelf.Slices.Reverse
import Derived.Shelf.Slices.Equal
import Derived.Ground.Names2Prog
import Derived.Shelf.Slices.Clone
import Derived.Shelf.Slices.SearchI
import Derived.Shelf.Slices.Cells
import Derived.Shelf.Slices.In.SortNone
import Derived.Shelf.Slices.Empties2
import Derived.Test.YthhjlbflpjhahaaGreatDoorProg
namespace Go.Proofs
open Go.Shelf
def Tryz.lays189_ren:Go.Shelf.Ren:=⟨fun|189=>94|125=>118|257=>117|128=>149|129=>150|294=>140|295=>141|296=>142|297=>143|298=>144|299=>145|216=>146|300=>147|301=>148|328=>165|329=>166|330=>167|331=>168|332=>169|215=>170|343=>177|n=>n,fun|28=>23|3=>3|46=>133|0=>0|51=>166|53=>155|4=>4|183=>188|182=>187|131=>152|5=>5|9=>9|218=>210|222=>214|228=>229|229=>97|n=>n,fun|n=>n⟩
theorem Tryz.lays189:Go.Proofs.Lays.n189 Tryz.prog Tryz.lays189_ren:={
  mixed:=by kernel_rfl
  f125:=Tryz.func118.trans (congrArg some (by kernel_rfl))
  f128:=Tryz.func149.trans (congrArg some (by kernel_rfl))
  f129:=Tryz.func150.trans (congrArg some (by kernel_rfl))
  f189:=Tryz.func94.trans (congrArg some (by kernel_rfl))
  f215:=Tryz.func170.trans (congrArg some (by kernel_rfl))
  f216:=Tryz.func146.trans (congrArg some (by kernel_rfl))
  f257:=Tryz.func117.trans (congrArg some (by kernel_rfl))
  f294:=Tryz.func140.trans (congrArg some (by kernel_rfl))
  f295:=Tryz.func141.trans (congrArg some (by kernel_rfl))
  f296:=Tryz.func142.trans (congrArg some (by kernel_rfl))
  f297:=Tryz.func143.trans (congrArg some (by kernel_rfl))
  f298:=Tryz.func144.trans (congrArg some (by kernel_rfl))
  f299:=Tryz.func145.trans (congrArg some (by kernel_rfl))
  f300:=Tryz.func147.trans (congrArg some (by kernel_rfl))
  f301:=Tryz.func148.trans (congrArg some (by kernel_rfl))
  f328:=Tryz.func165.trans (congrArg some (by kernel_rfl))
  f329:=Tryz.func166.trans (congrArg some (by kernel_rfl))
  f330:=Tryz.func167.trans (congrArg some (by kernel_rfl))
  f331:=Tryz.func168.trans (congrArg some (by kernel_rfl))
  f332:=Tryz.func169.trans (congrArg some (by kernel_rfl))
  f343:=Tryz.func177.trans (congrArg some (by kernel_rfl))
  t0:=Tryz.underlying0
  a0:=Tryz.isAgg0
  z0:=Tryz.sizeOf0
  v0:=Tryz.zeroValue0
  t3:=Tryz.underlying3
  a3:=Tryz.isAgg3
  z3:=Tryz.sizeOf3
  v3:=Tryz.zeroValue3
  t4:=Tryz.underlying4
  a4:=Tryz.isAgg4
  z4:=Tryz.sizeOf4
  v4:=Tryz.zeroValue4
  t5:=Tryz.underlying5
  a5:=Tryz.isAgg5
  z5:=Tryz.sizeOf5
  v5:=Tryz.zeroValue5
  t9:=Tryz.underlying9
  a9:=Tryz.isAgg9
  z9:=Tryz.sizeOf9
  v9:=Tryz.zeroValue9
  t28:=Tryz.underlying23
  a28:=Tryz.isAgg23
  z28:=Tryz.sizeOf23
  v28:=Tryz.zeroValue23
  t46:=Tryz.underlying133
  a46:=Tryz.isAgg133
  z46:=Tryz.sizeOf133
  v46:=Tryz.zeroValue133
  t51:=Tryz.underlying166
  a51:=Tryz.isAgg166
  z51:=Tryz.sizeOf166
  v51:=Tryz.zeroValue166
  t53:=Tryz.underlying155
  a53:=Tryz.isAgg155
  z53:=Tryz.sizeOf155
  v53:=Tryz.zeroValue155
  t131:=Tryz.underlying152
  a131:=Tryz.isAgg152
  z131:=Tryz.sizeOf152
  v131:=Tryz.zeroValue152
  t182:=Tryz.underlying187
  a182:=Tryz.isAgg187
  z182:=Tryz.sizeOf187
  v182:=Tryz.zeroValue187
  t183:=Tryz.underlying188
  a183:=Tryz.isAgg188
  z183:=Tryz.sizeOf188
  v183:=Tryz.zeroValue188
  t218:=Tryz.underlying210
  a218:=Tryz.isAgg210
  z218:=Tryz.sizeOf210
  v218:=Tryz.zeroValue210
  t222:=Tryz.underlying214
  a222:=Tryz.isAgg214
  z222:=Tryz.sizeOf214
  v222:=Tryz.zeroValue214
  t228:=Tryz.underlying229
  a228:=Tryz.isAgg229
  z228:=Tryz.sizeOf229
  v228:=Tryz.zeroValue229
  t229:=Tryz.underlying97
  a229:=Tryz.isAgg97
  z229:=Tryz.sizeOf97
  v229:=Tryz.zeroValue97 }
open Go.Sort Go.RowKit in
theorem Tryz.slices_Sort_int(blk off cap:Nat)(zs:List Int)(w:World)(hH:Holds (Value.int .i64) w blk off zs.toArray)(hblk:blk<w.heap.size)(hsz:zs.length<4611686018427387904) :
    Calls Tryz.prog 94 #[.slice (some ⟨blk,off,none⟩) zs.length cap] w fun e w'=>
      e=.returned (.tuple #[])∧∃n os,w'=grow (putRow (Value.int .i64) (Sort.ahead w n) blk off (zs.mergeSort fun x y=>decide (x≤y)).toArray) os:=Any.slices_Sort_int Tryz.lays189 blk off cap zs w hH hblk hsz
def Tryz.lays200_ren:Go.Shelf.Ren:=⟨fun|200=>123|261=>151|311=>171|312=>172|n=>n,fun|21=>21|4=>4|51=>166|5=>5|119=>195|0=>0|141=>197|196=>219|193=>216|3=>3|198=>221|49=>39|194=>217|201=>224|226=>231|46=>133|227=>232|n=>n,fun|7=>0|8=>1|n=>n⟩
theorem Tryz.lays200:Go.Proofs.Lays.n200 Tryz.prog Tryz.lays200_ren:={
  mixed:=by kernel_rfl
  f200:=Tryz.func123.trans (congrArg some (by kernel_rfl))
  f261:=Tryz.func151.trans (congrArg some (by kernel_rfl))
  f311:=Tryz.func171.trans (congrArg some (by kernel_rfl))
  f312:=Tryz.func172.trans (congrArg some (by kernel_rfl))
  t0:=Tryz.underlying0
  a0:=Tryz.isAgg0
  z0:=Tryz.sizeOf0
  v0:=Tryz.zeroValue0
  t3:=Tryz.underlying3
  a3:=Tryz.isAgg3
  z3:=Tryz.sizeOf3
  v3:=Tryz.zeroValue3
  t4:=Tryz.underlying4
  a4:=Tryz.isAgg4
  z4:=Tryz.sizeOf4
  v4:=Tryz.zeroValue4
  t5:=Tryz.underlying5
  a5:=Tryz.isAgg5
  z5:=Tryz.sizeOf5
  v5:=Tryz.zeroValue5
  t21:=Tryz.underlying21
  a21:=Tryz.isAgg21
  z21:=Tryz.sizeOf21
  v21:=Tryz.zeroValue21
  t46:=Tryz.underlying133
  a46:=Tryz.isAgg133
  z46:=Tryz.sizeOf133
  v46:=Tryz.zeroValue133
  t49:=Tryz.underlying39
  a49:=Tryz.isAgg39
  z49:=Tryz.sizeOf39
  v49:=Tryz.zeroValue39
  t51:=Tryz.underlying166
  a51:=Tryz.isAgg166
  z51:=Tryz.sizeOf166
  v51:=Tryz.zeroValue166
  t119:=Tryz.underlying195
  a119:=Tryz.isAgg195
  z119:=Tryz.sizeOf195
  t141:=Tryz.underlying197
  a141:=Tryz.isAgg197
  z141:=Tryz.sizeOf197
  v141:=Tryz.zeroValue197
  t193:=Tryz.underlying216
  a193:=Tryz.isAgg216
  z193:=Tryz.sizeOf216
  v193:=Tryz.zeroValue216
  t194:=Tryz.underlying217
  a194:=Tryz.isAgg217
  z194:=Tryz.sizeOf217
  v194:=Tryz.zeroValue217
  t196:=Tryz.underlying219
  a196:=Tryz.isAgg219
  z196:=Tryz.sizeOf219
  v196:=Tryz.zeroValue219
  t198:=Tryz.underlying221
  a198:=Tryz.isAgg221
  z198:=Tryz.sizeOf221
  v198:=Tryz.zeroValue221
  t201:=Tryz.underlying224
  a201:=Tryz.isAgg224
  z201:=Tryz.sizeOf224
  v201:=Tryz.zeroValue224
  t226:=Tryz.underlying231
  a226:=Tryz.isAgg231
  z226:=Tryz.sizeOf231
  v226:=Tryz.zeroValue231
  t227:=Tryz.underlying232
  a227:=Tryz.isAgg232
  z227:=Tryz.sizeOf232
  v227:=Tryz.zeroValue232
  g7:=by kernel_rfl
  g8:=by kernel_rfl }
def Tryz.lays212_ren:Go.Shelf.Ren:=⟨fun|212=>98|263=>121|264=>122|n=>n,fun|46=>133|51=>166|146=>167|53=>155|148=>169|n=>n,fun|n=>n⟩
theorem Tryz.lays212:Go.Proofs.Lays.n212 Tryz.prog Tryz.lays212_ren:={
  mixed:=by kernel_rfl
  f212:=Tryz.func98.trans (congrArg some (by kernel_rfl))
  f263:=Tryz.func121.trans (congrArg some (by kernel_rfl))
  f264:=Tryz.func122.trans (congrArg some (by kernel_rfl))
  t46:=Tryz.underlying133
  a46:=Tryz.isAgg133
  z46:=Tryz.sizeOf133
  v46:=Tryz.zeroValue133
  t51:=Tryz.underlying166
  a51:=Tryz.isAgg166
  z51:=Tryz.sizeOf166
  v51:=Tryz.zeroValue166
  t53:=Tryz.underlying155
  a53:=Tryz.isAgg155
  z53:=Tryz.sizeOf155
  v53:=Tryz.zeroValue155
  t146:=Tryz.underlying167
  a146:=Tryz.isAgg167
  z146:=Tryz.sizeOf167
  v146:=Tryz.zeroValue167
  t148:=Tryz.underlying169
  a148:=Tryz.isAgg169
  z148:=Tryz.sizeOf169
  v148:=Tryz.zeroValue169 }
open Go.RowKit Go.Lib in
theorem Tryz.bits_Mul(x y:Nat)(hx:x<18446744073709551616)(hy:y<18446744073709551616)(w:World) :
    Calls Tryz.prog 98 #[.int .u64 x,.int .u64 y] w fun e w'=>e=.returned (.tuple #[.int .u64 ((x*y / 18446744073709551616:Nat):Int),.int .u64 ((x*y%18446744073709551616:Nat):Int)])∧w'=w:=Any.bits_Mul Tryz.lays212 x y hx hy w
def Tryz.lays261_ren:Go.Shelf.Ren:=⟨fun|261=>151|311=>171|312=>172|n=>n,fun|141=>197|21=>21|4=>4|0=>0|196=>219|193=>216|3=>3|51=>166|198=>221|49=>39|194=>217|201=>224|226=>231|46=>133|227=>232|n=>n,fun|n=>n⟩
theorem Tryz.lays261:Go.Proofs.Lays.n261 Tryz.prog Tryz.lays261_ren:={
  mixed:=by kernel_rfl
  f261:=Tryz.func151.trans (congrArg some (by kernel_rfl))
  f311:=Tryz.func171.trans (congrArg some (by kernel_rfl))
  f312:=Tryz.func172.trans (congrArg some (by kernel_rfl))
  t0:=Tryz.underlying0
  a0:=Tryz.isAgg0
  z0:=Tryz.sizeOf0
  v0:=Tryz.zeroValue0
  t3:=Tryz.underlying3
  a3:=Tryz.isAgg3
  z3:=Tryz.sizeOf3
  v3:=Tryz.zeroValue3
  t4:=Tryz.underlying4
  a4:=Tryz.isAgg4
  z4:=Tryz.sizeOf4
  v4:=Tryz.zeroValue4
  t21:=Tryz.underlying21
  a21:=Tryz.isAgg21
  z21:=Tryz.sizeOf21
  v21:=Tryz.zeroValue21
  t46:=Tryz.underlying133
  a46:=Tryz.isAgg133
  z46:=Tryz.sizeOf133
  v46:=Tryz.zeroValue133
  t49:=Tryz.underlying39
  a49:=Tryz.isAgg39
  z49:=Tryz.sizeOf39
  v49:=Tryz.zeroValue39
  t51:=Tryz.underlying166
  a51:=Tryz.isAgg166
  z51:=Tryz.sizeOf166
  v51:=Tryz.zeroValue166
  t141:=Tryz.underlying197
  a141:=Tryz.isAgg197
  z141:=Tryz.sizeOf197
  v141:=Tryz.zeroValue197
  t193:=Tryz.underlying216
  a193:=Tryz.isAgg216
  z193:=Tryz.sizeOf216
  v193:=Tryz.zeroValue216
  t194:=Tryz.underlying217
  a194:=Tryz.isAgg217
  z194:=Tryz.sizeOf217
  v194:=Tryz.zeroValue217
  t196:=Tryz.underlying219
  a196:=Tryz.isAgg219
  z196:=Tryz.sizeOf219
  v196:=Tryz.zeroValue219
  t198:=Tryz.underlying221
  a198:=Tryz.isAgg221
  z198:=Tryz.sizeOf221
  v198:=Tryz.zeroValue221
  t201:=Tryz.underlying224
  a201:=Tryz.isAgg224
  z201:=Tryz.sizeOf224
  v201:=Tryz.zeroValue224
  t226:=Tryz.underlying231
  a226:=Tryz.isAgg231
  z226:=Tryz.sizeOf231
  v226:=Tryz.zeroValue231
  t227:=Tryz.underlying232
  a227:=Tryz.isAgg232
  z227:=Tryz.sizeOf232
  v227:=Tryz.zeroValue232 }
open Go.RowKit Go.Lib in
theorem Tryz.unicode_IsLetter_all(r:Int)(w:World)(hlo:-2147483648≤r)(hhi:r≤2147483647)(htab:Lib.TabIs Tryz.prog w "unicode.properties" .u8 Lib.propertiesTab) (hV:RVar 1 letterT w) :
    Calls Tryz.prog 123 #[.int .i32 r] w fun e w'=>e=.returned (.bool (isLetterU r))∧Below w.heap.size w w':=Any.unicode_IsLetter_all Tryz.lays200 (by kernel_rfl) r w hlo hhi htab hV
def Tryz.lays107_ren:Go.Shelf.Ren:=⟨fun|107=>97|108=>120|n=>n,fun|28=>23|3=>3|4=>4|0=>0|n=>n,fun|n=>n⟩
theorem Tryz.lays107:Go.Proofs.Lays.n107 Tryz.prog Tryz.lays107_ren:={
  mixed:=by kernel_rfl
  f107:=Tryz.func97.trans (congrArg some (by kernel_rfl))
  f108:=Tryz.func120.trans (congrArg some (by kernel_rfl))
  t0:=Tryz.underlying0
  a0:=Tryz.isAgg0
  z0:=Tryz.sizeOf0
  v0:=Tryz.zeroValue0
  t3:=Tryz.underlying3
  a3:=Tryz.isAgg3
  z3:=Tryz.sizeOf3
  v3:=Tryz.zeroValue3
  t4:=Tryz.underlying4
  a4:=Tryz.isAgg4
  z4:=Tryz.sizeOf4
  v4:=Tryz.zeroValue4
  t28:=Tryz.underlying23
  a28:=Tryz.isAgg23
  z28:=Tryz.sizeOf23
  v28:=Tryz.zeroValue23 }
open Go.Lib in
theorem Tryz.slices_Contains_int(b off n c:Nat)(zs:List Int)(x:Int)(w:World)(hz:n≤zs.length)(hbig:n≤9223372036854775807)(hc:∀j,j<zs.length→w.cell? ⟨b,off+j,none⟩=some (.int .i64 (zs.getD j 0))) :
    Calls Tryz.prog 97 #[.slice (some ⟨b,off,none⟩) n c,.int .i64 x] w fun e w'=>e=.returned (.bool ((zs.take n).contains x))∧w'=w:=Any.slices_Contains_int Tryz.lays107 b off n c zs x w hz hbig hc
open Go.Lib in
theorem Tryz.slices_Contains_int_empty(a:Option Addr)(c:Nat)(x:Int)(w:World) :
    Calls Tryz.prog 97 #[.slice a 0 c,.int .i64 x] w fun e w'=>e=.returned (.bool false)∧w'=w:=Any.slices_Contains_int_empty Tryz.lays107 a c x w
def Tryz.lays112_ren:Go.Shelf.Ren:=⟨fun|112=>119|n=>n,fun|28=>23|3=>3|4=>4|0=>0|n=>n,fun|n=>n⟩
theorem Tryz.lays112:Go.Proofs.Lays.n112 Tryz.prog Tryz.lays112_ren:={
  mixed:=by kernel_rfl
  f112:=Tryz.func119.trans (congrArg some (by kernel_rfl))
  t0:=Tryz.underlying0
  a0:=Tryz.isAgg0
  z0:=Tryz.sizeOf0
  v0:=Tryz.zeroValue0
  t3:=Tryz.underlying3
  a3:=Tryz.isAgg3
  z3:=Tryz.sizeOf3
  v3:=Tryz.zeroValue3
  t4:=Tryz.underlying4
  a4:=Tryz.isAgg4
  z4:=Tryz.sizeOf4
  v4:=Tryz.zeroValue4
  t28:=Tryz.underlying23
  a28:=Tryz.isAgg23
  z28:=Tryz.sizeOf23
  v28:=Tryz.zeroValue23 }
open Go.RowKit Go.Lib Go.Sort in
theorem Tryz.slices_Reverse_int(blk off cap:Nat)(zs:List Int)(w:World)(hH:Holds (Value.int .i64) w blk off zs.toArray)(hsz:zs.length≤9223372036854775807) :
    Calls Tryz.prog 119 #[.slice (some ⟨blk,off,none⟩) zs.length cap] w fun e w'=>e=.returned (.tuple #[])∧∃n,w'=putRow (Value.int .i64) (Sort.ahead w n) blk off zs.reverse.toArray:=Any.slices_Reverse_int Tryz.lays112 blk off cap zs w hH hsz
open Go.RowKit Go.Lib Go.Sort in
theorem Tryz.slices_Reverse_int_empty(a:Option Addr)(cap:Nat)(w:World) :
    Calls Tryz.prog 119 #[.slice a 0 cap] w fun e w'=>e=.returned (.tuple #[])∧w'=w:=Any.slices_Reverse_int_empty Tryz.lays112 a cap w
def Tryz.lays111_ren:Go.Shelf.Ren:=⟨fun|111=>95|n=>n,fun|28=>23|3=>3|4=>4|0=>0|n=>n,fun|n=>n⟩
theorem Tryz.lays111:Go.Proofs.Lays.n111 Tryz.prog Tryz.lays111_ren:={
  mixed:=by kernel_rfl
  f111:=Tryz.func95.trans (congrArg some (by kernel_rfl))
  t0:=Tryz.underlying0
  a0:=Tryz.isAgg0
  z0:=Tryz.sizeOf0
  v0:=Tryz.zeroValue0
  t3:=Tryz.underlying3
  a3:=Tryz.isAgg3
  z3:=Tryz.sizeOf3
  v3:=Tryz.zeroValue3
  t4:=Tryz.underlying4
  a4:=Tryz.isAgg4
  z4:=Tryz.sizeOf4
  v4:=Tryz.zeroValue4
  t28:=Tryz.underlying23
  a28:=Tryz.isAgg23
  z28:=Tryz.sizeOf23
  v28:=Tryz.zeroValue23 }
open Go.RowKit Go.Lib in
theorem Tryz.slices_Equal_int(b1 o1 n c b2 o2 m d:Nat)(xs ys:List Int)(w:World)(hx:n≤xs.length)(hy:m≤ys.length)(hbig:n≤9223372036854775807)(hbig2:m≤9223372036854775807)(hc1:∀j,j<xs.length→w.cell? ⟨b1,o1+j,none⟩=some (.int .i64 (xs.getD j 0)))(hc2:∀j,j<ys.length→w.cell? ⟨b2,o2+j,none⟩=some (.int .i64 (ys.getD j 0))) :
    Calls Tryz.prog 95 #[.slice (some ⟨b1,o1,none⟩) n c,.slice (some ⟨b2,o2,none⟩) m d] w fun e w'=>e=.returned (.bool (xs.take n==ys.take m))∧∃q,w'=w.drewN q:=Any.slices_Equal_int Tryz.lays111 b1 o1 n c b2 o2 m d xs ys w hx hy hbig hbig2 hc1 hc2
open Go.RowKit Go.Lib in
theorem Tryz.slices_Equal_int_empty(a1 a2:Option Addr)(c m d:Nat)(w:World)(hbig2:m≤9223372036854775807) :
    Calls Tryz.prog 95 #[.slice a1 0 c,.slice a2 m d] w fun e w'=>e=.returned (.bool (decide (m=0)))∧w'=w:=Any.slices_Equal_int_empty Tryz.lays111 a1 a2 c m d w hbig2
def Tryz.laysNm215_ren:Go.Shelf.Ren:=⟨fun|15=>71|n=>n,fun|22=>23|3=>3|4=>4|n=>n,fun|n=>n⟩
theorem Tryz.laysNm215:Go.Proofs.Lays2.n15 Tryz.prog Tryz.laysNm215_ren:={
  mixed:=by kernel_rfl
  f15:=Tryz.func71.trans (congrArg some (by kernel_rfl))
  t3:=Tryz.underlying3
  a3:=Tryz.isAgg3
  z3:=Tryz.sizeOf3
  v3:=Tryz.zeroValue3
  t4:=Tryz.underlying4
  a4:=Tryz.isAgg4
  z4:=Tryz.sizeOf4
  v4:=Tryz.zeroValue4
  t22:=Tryz.underlying23
  a22:=Tryz.isAgg23
  z22:=Tryz.sizeOf23
  v22:=Tryz.zeroValue23
  i3:=by kernel_rfl }
open Go.RowKit Go.Lib in
theorem Tryz.slices_Clone_int(b off n c:Nat)(zs:List Int)(w:World)(hz:n≤zs.length)(hbig:n*8≤140737488355328)(hc:∀j,j<zs.length→w.cell? ⟨b,off+j,none⟩=some (.int .i64 (zs.getD j 0))) :
    Calls Tryz.prog 71 #[.slice (some ⟨b,off,none⟩) n c] w fun e w'=>∃v',e=.returned v'∧w'.ownsRow w.heap.size 3 1 v' n ((zs.take n).map (Value.int .i64))∧v'≠.slice none 0 0∧Below w.heap.size w w':=Any.slices_Clone_int Tryz.laysNm215 b off n c zs w hz hbig hc
open Go.RowKit Go.Lib in
theorem Tryz.slices_Clone_int_nil(n c:Nat)(w:World) :
    Calls Tryz.prog 71 #[.slice none n c] w fun e w'=>e=.returned (.slice none 0 0)∧w'=w:=Any.slices_Clone_int_nil Tryz.laysNm215 n c w
open Go.RowKit Go.Lib in
theorem Tryz.slices_Clone_int_zero(a:Addr)(c:Nat)(w:World) :
    Calls Tryz.prog 71 #[.slice (some a) 0 c] w fun e w'=>∃v',e=.returned v'∧w'.ownsRow w.heap.size 3 1 v' 0 []∧v'≠.slice none 0 0∧Below w.heap.size w w':=Any.slices_Clone_int_zero Tryz.laysNm215 a c w
open Go.RowKit Go.Sort in
theorem Tryz.slices_Sort_int_none(p:Option Addr)(cap:Nat)(w:World) :
    Calls Tryz.prog 94 #[.slice p 0 cap] w fun e w'=>e=.returned (.tuple #[])∧w'=w:=Any.slices_Sort_int_none Tryz.lays189 p cap w
open Go.RowKit Go.Lib in
theorem Tryz.slices_Equal_int_lens(a1 a2:Option Addr)(n c m d:Nat)(w:World)(hnm:n≠m) :
    Calls Tryz.prog 95 #[.slice a1 n c,.slice a2 m d] w fun e w'=>e=.returned (.bool false)∧w'=w:=Any.slices_Equal_int_lens Tryz.lays111 a1 a2 n c m d w hnm
end Go.Proofs
