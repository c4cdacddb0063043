/- Laws of linear programs with up to 4 variables and 5 rows: for every input the law's function returns true; no condition. Part 1 of 6. -/

import Derived.Shelf.Strings.Builder1
import Derived.Shelf.Strings.Builder2
import Derived.Shelf.Small.Bits
import Derived.Shelf.Small.Wraps
import Derived.Shelf.Strings.BuilderF
import Derived.Shelf.Strings.BuilderK
import Derived.Shelf.Strings.Builder2Cap
import Derived.Shelf.Strconv.Itoa0
import Derived.Shelf.Strconv.Itoa1
import Derived.Shelf.LaysM
import Derived.Shelf.Strconv.Itoa2
import Derived.Shelf.Strconv.Itoa3
import Derived.Shelf.Strings.Search1
import Derived.Shelf.Strings.Search2
import Derived.Shelf.Strings.Cut
import Derived.Shelf.Strings.Shaped
import Derived.Shelf.Strings.Prefix
import Derived.Shelf.Bits.Mul64
import Derived.Shelf.Strings.Repeat
import Derived.Shelf.Strings.BuilderCap
import Derived.Shelf.Slices.Turned
import Derived.Ground.Names2Prog
import Derived.Shelf.Slices.Delete
import Derived.Shelf.Slices.Cells
import Derived.Shelf.Slices.Empties
import Derived.Test.YtjhaedfpigebdaaGreatDoorProg
import Derived.Lib.ItoaNum
import Derived.Lib.Repeat
import Derived.OrdersHeld
import Derived.Still
import Derived.Tactics2
import Derived.KernelRfl
import Derived.Below
import Derived.WalkKit
import Derived.WalkSpells
import Derived.WalkLawsBesides
import Derived.Deep.Cut
import Derived.Deep.LoopGhost
import Derived.Maps.AppendAt
import Derived.Lib.BitFns
import Derived.Laws.BitsAllLaws
import Derived.OwnWalk
import Derived.Laws.OwnMore
namespace Go.Proofs
open Go.Shelf
def Tryz.lays169_ren:Go.Shelf.Ren:=⟨fun|169=>82|n=>n,fun|70=>137|9=>9|0=>0|72=>140|37=>138|127=>181|3=>3|5=>5|n=>n,fun|n=>n⟩
theorem Tryz.lays169:Go.Proofs.Lays.n169 Tryz.prog Tryz.lays169_ren:={
  mixed:=by kernel_rfl
  f169:=Tryz.func82.trans (congrArg some (by kernel_rfl))
  t0:=Tryz.underlying0
  a0:=Tryz.isAgg0
  z0:=Tryz.sizeOf0
  v0:=Tryz.zeroValue0
  t3:=Tryz.underlying3
  a3:=Tryz.isAgg3
  z3:=Tryz.sizeOf3
  v3:=Tryz.zeroValue3
  t9:=Tryz.underlying9
  a9:=Tryz.isAgg9
  z9:=Tryz.sizeOf9
  v9:=Tryz.zeroValue9
  t37:=Tryz.underlying138
  a37:=Tryz.isAgg138
  z37:=Tryz.sizeOf138
  v37:=Tryz.zeroValue138
  t70:=Tryz.underlying137
  a70:=Tryz.isAgg137
  z70:=Tryz.sizeOf137
  v70:=Tryz.zeroValue137
  t72:=Tryz.underlying140
  a72:=Tryz.isAgg140
  z72:=Tryz.sizeOf140
  v72:=Tryz.zeroValue140
  t127:=Tryz.underlying181
  a127:=Tryz.isAgg181
  z127:=Tryz.sizeOf181
  v127:=Tryz.zeroValue181}
theorem Tryz.Builder_Extra_169:Builder.Extra Tryz.prog Tryz.lays169_ren:={
  sizeBuilder:=by kernel_rfl
  liesBuilder:=by kernel_rfl
  t5:=Tryz.underlying5
  a5:=Tryz.isAgg5
  z5:=Tryz.sizeOf5
  v5:=Tryz.zeroValue5
  infoByte:=by kernel_rfl
  cellsByte:=by kernel_rfl
  sizeByte:=by kernel_rfl
  neB5:=by decide}
open Go.RowKit in
theorem Tryz.Builder_String_any(B b:Nat)(l:List UInt8)(w:World)(h:Lib.IsBuilder 140 5 B b (Lib.byteCells l) w)(hBw:B<=w.heap.size):
    Calls Tryz.prog 82 #[.pointer (some ⟨b,0,none⟩)] w fun e w'=>e=.returned (.string ⟨l.toArray⟩)/\Below B w w':=Any.Builder_String_any Tryz.lays169 Tryz.Builder_Extra_169 B b l w h hBw
def Tryz.lays133_ren:Go.Shelf.Ren:=⟨fun|133=>162|128=>170|n=>n,fun|51=>132|3=>3|4=>4|46=>175|5=>5|9=>9|n=>n,fun|n=>n⟩
theorem Tryz.lays133:Go.Proofs.Lays.n133 Tryz.prog Tryz.lays133_ren:={
  mixed:=by kernel_rfl
  f128:=Tryz.func170.trans (congrArg some (by kernel_rfl))
  f133:=Tryz.func162.trans (congrArg some (by kernel_rfl))
  t3:=Tryz.underlying3
  a3:=Tryz.isAgg3
  z3:=Tryz.sizeOf3
  v3:=Tryz.zeroValue3
  t4:=Tryz.underlying4
  a4:=Tryz.isAgg4
  z4:=Tryz.sizeOf4
  v4:=Tryz.zeroValue4
  t5:=Tryz.underlying5
  a5:=Tryz.isAgg5
  z5:=Tryz.sizeOf5
  v5:=Tryz.zeroValue5
  t9:=Tryz.underlying9
  a9:=Tryz.isAgg9
  z9:=Tryz.sizeOf9
  v9:=Tryz.zeroValue9
  t46:=Tryz.underlying175
  a46:=Tryz.isAgg175
  z46:=Tryz.sizeOf175
  v46:=Tryz.zeroValue175
  t51:=Tryz.underlying132
  a51:=Tryz.isAgg132
  z51:=Tryz.sizeOf132
  v51:=Tryz.zeroValue132}
theorem Tryz.bits_LeadingZeros32(x:Int)(w:World)(h0:0<=x)(h1:x<=4294967295):
    Calls Tryz.prog 162 #[.int .u32 x] w fun e w'=>e=.returned (.int .i64 (32-(Lib.bitLen x.toNat:Int)))/\w'=w:=Any.bits_LeadingZeros32 Tryz.lays133 x w h0 h1
def Tryz.lays103_ren:Go.Shelf.Ren:=⟨fun|103=>99|210=>129|206=>135|n=>n,fun|9=>9|4=>4|24=>165|3=>3|n=>n,fun|n=>n⟩
theorem Tryz.lays103:Go.Proofs.Lays.n103 Tryz.prog Tryz.lays103_ren:={
  mixed:=by kernel_rfl
  f103:=Tryz.func99.trans (congrArg some (by kernel_rfl))
  f206:=Tryz.func135.trans (congrArg some (by kernel_rfl))
  f210:=Tryz.func129.trans (congrArg some (by kernel_rfl))
  t3:=Tryz.underlying3
  a3:=Tryz.isAgg3
  z3:=Tryz.sizeOf3
  v3:=Tryz.zeroValue3
  t4:=Tryz.underlying4
  a4:=Tryz.isAgg4
  z4:=Tryz.sizeOf4
  v4:=Tryz.zeroValue4
  t9:=Tryz.underlying9
  a9:=Tryz.isAgg9
  z9:=Tryz.sizeOf9
  v9:=Tryz.zeroValue9
  t24:=Tryz.underlying165
  a24:=Tryz.isAgg165
  z24:=Tryz.sizeOf165
  v24:=Tryz.zeroValue165}
open Go.RowKit in
theorem Tryz.strings_CutPrefix(s p:ByteArray)(w:World):
    Calls Tryz.prog 99 #[.string s,.string p] w fun e w'=>e=.returned (.tuple #[.string ⟨(Lib.trimPrefix s.data.toList p.data.toList).toArray⟩,.bool (Lib.hasPrefix s.data.toList p.data.toList)])/\w'=w:=Any.strings_CutPrefix Tryz.lays103 s p w
def Tryz.laysM171_ren:Go.Shelf.Ren:=⟨fun|171=>79|243=>105|246=>132|283=>144|284=>145|285=>146|286=>147|129=>158|317=>157|318=>159|319=>160|320=>161|337=>168|338=>169|n=>n,fun|3=>3|9=>9|2=>2|4=>4|171=>212|0=>0|53=>127|37=>138|5=>5|173=>215|212=>222|51=>132|20=>20|213=>223|46=>175|232=>231|233=>232|n=>n,fun|17=>2|18=>3|19=>4|n=>n⟩
theorem Tryz.laysM171:Go.Proofs.LaysM.n171 Tryz.prog Tryz.laysM171_ren:={
  mixed:=by kernel_rfl
  f129:=Tryz.func158.trans (congrArg some (by kernel_rfl))
  f171:=Tryz.func79.trans (congrArg some (by kernel_rfl))
  f243:=Tryz.func105.trans (congrArg some (by kernel_rfl))
  f246:=Tryz.func132.trans (congrArg some (by kernel_rfl))
  f283:=Tryz.func144.trans (congrArg some (by kernel_rfl))
  f284:=Tryz.func145.trans (congrArg some (by kernel_rfl))
  f285:=Tryz.func146.trans (congrArg some (by kernel_rfl))
  f286:=Tryz.func147.trans (congrArg some (by kernel_rfl))
  f317:=Tryz.func157.trans (congrArg some (by kernel_rfl))
  f318:=Tryz.func159.trans (congrArg some (by kernel_rfl))
  f319:=Tryz.func160.trans (congrArg some (by kernel_rfl))
  f320:=Tryz.func161.trans (congrArg some (by kernel_rfl))
  f337:=Tryz.func168.trans (congrArg some (by kernel_rfl))
  f338:=Tryz.func169.trans (congrArg some (by kernel_rfl))
  t0:=Tryz.underlying0
  a0:=Tryz.isAgg0
  z0:=Tryz.sizeOf0
  v0:=Tryz.zeroValue0
  t2:=Tryz.underlying2
  a2:=Tryz.isAgg2
  z2:=Tryz.sizeOf2
  v2:=Tryz.zeroValue2
  t3:=Tryz.underlying3
  a3:=Tryz.isAgg3
  z3:=Tryz.sizeOf3
  v3:=Tryz.zeroValue3
  t4:=Tryz.underlying4
  a4:=Tryz.isAgg4
  z4:=Tryz.sizeOf4
  v4:=Tryz.zeroValue4
  t5:=Tryz.underlying5
  a5:=Tryz.isAgg5
  z5:=Tryz.sizeOf5
  v5:=Tryz.zeroValue5
  t9:=Tryz.underlying9
  a9:=Tryz.isAgg9
  z9:=Tryz.sizeOf9
  v9:=Tryz.zeroValue9
  t20:=Tryz.underlying20
  a20:=Tryz.isAgg20
  z20:=Tryz.sizeOf20
  v20:=Tryz.zeroValue20
  t37:=Tryz.underlying138
  a37:=Tryz.isAgg138
  z37:=Tryz.sizeOf138
  v37:=Tryz.zeroValue138
  t46:=Tryz.underlying175
  a46:=Tryz.isAgg175
  z46:=Tryz.sizeOf175
  v46:=Tryz.zeroValue175
  t51:=Tryz.underlying132
  a51:=Tryz.isAgg132
  z51:=Tryz.sizeOf132
  v51:=Tryz.zeroValue132
  t53:=Tryz.underlying127
  a53:=Tryz.isAgg127
  z53:=Tryz.sizeOf127
  v53:=Tryz.zeroValue127
  t171:=Tryz.underlying212
  a171:=Tryz.isAgg212
  z171:=Tryz.sizeOf212
  v171:=Tryz.zeroValue212
  t173:=Tryz.underlying215
  a173:=Tryz.isAgg215
  z173:=Tryz.sizeOf215
  v173:=Tryz.zeroValue215
  t212:=Tryz.underlying222
  a212:=Tryz.isAgg222
  z212:=Tryz.sizeOf222
  v212:=Tryz.zeroValue222
  t213:=Tryz.underlying223
  a213:=Tryz.isAgg223
  z213:=Tryz.sizeOf223
  t232:=Tryz.underlying231
  a232:=Tryz.isAgg231
  z232:=Tryz.sizeOf231
  v232:=Tryz.zeroValue231
  t233:=Tryz.underlying232
  a233:=Tryz.isAgg232
  z233:=Tryz.sizeOf232
  v233:=Tryz.zeroValue232
  g17:=by kernel_rfl
  g18:=by kernel_rfl
  g19:=by kernel_rfl
  i0:=by kernel_rfl
  i2:=by kernel_rfl
  i3:=by kernel_rfl
  i4:=by kernel_rfl
  i5:=by kernel_rfl
  i9:=by kernel_rfl
  i20:=by kernel_rfl
  i37:=by kernel_rfl
  i46:=by kernel_rfl
  i51:=by kernel_rfl
  i53:=by kernel_rfl
  i171:=by kernel_rfl
  i173:=by kernel_rfl
  i212:=by kernel_rfl
  i232:=by kernel_rfl
  i233:=by kernel_rfl
  m17:=by kernel_rfl
  m18:=by kernel_rfl
  m19:=by kernel_rfl}
open Go.RowKit Go.Sort Go.Lib in
theorem Tryz.strconv_Itoa(n:Int)(h0: -9223372036854775808<=n)(h1:n<=9223372036854775807)(w:World)(htab:Lib.TabIs Tryz.prog w "internal/strconv.uint64pow10" .u64 Lib.pow10Tab):
    Calls Tryz.prog 79 #[.int .i64 n] w fun e w'=>e=.returned (.string ⟨(Lib.itoa n).toArray⟩)/\ ∃k os,w'=grow (w.drewN k) os:=Any.strconv_Itoa Tryz.laysM171 n h0 h1 w htab
def Tryz.lays145_ren:Go.Shelf.Ren:=⟨fun|145=>100|220=>130|219=>143|217=>153|225=>154|224=>155|267=>156|266=>166|314=>167|n=>n,fun|9=>9|4=>4|59=>167|3=>3|5=>5|46=>175|146=>172|51=>132|n=>n,fun|1=>1|n=>n⟩
theorem Tryz.lays145:Go.Proofs.Lays.n145 Tryz.prog Tryz.lays145_ren:={
  mixed:=by kernel_rfl
  f145:=Tryz.func100.trans (congrArg some (by kernel_rfl))
  f217:=Tryz.func153.trans (congrArg some (by kernel_rfl))
  f219:=Tryz.func143.trans (congrArg some (by kernel_rfl))
  f220:=Tryz.func130.trans (congrArg some (by kernel_rfl))
  f224:=Tryz.func155.trans (congrArg some (by kernel_rfl))
  f225:=Tryz.func154.trans (congrArg some (by kernel_rfl))
  f266:=Tryz.func166.trans (congrArg some (by kernel_rfl))
  f267:=Tryz.func156.trans (congrArg some (by kernel_rfl))
  f314:=Tryz.func167.trans (congrArg some (by kernel_rfl))
  t3:=Tryz.underlying3
  a3:=Tryz.isAgg3
  z3:=Tryz.sizeOf3
  v3:=Tryz.zeroValue3
  t4:=Tryz.underlying4
  a4:=Tryz.isAgg4
  z4:=Tryz.sizeOf4
  v4:=Tryz.zeroValue4
  t5:=Tryz.underlying5
  a5:=Tryz.isAgg5
  z5:=Tryz.sizeOf5
  v5:=Tryz.zeroValue5
  t9:=Tryz.underlying9
  a9:=Tryz.isAgg9
  z9:=Tryz.sizeOf9
  v9:=Tryz.zeroValue9
  t46:=Tryz.underlying175
  a46:=Tryz.isAgg175
  z46:=Tryz.sizeOf175
  v46:=Tryz.zeroValue175
  t51:=Tryz.underlying132
  a51:=Tryz.isAgg132
  z51:=Tryz.sizeOf132
  v51:=Tryz.zeroValue132
  t59:=Tryz.underlying167
  a59:=Tryz.isAgg167
  z59:=Tryz.sizeOf167
  v59:=Tryz.zeroValue167
  t146:=Tryz.underlying172
  a146:=Tryz.isAgg172
  z146:=Tryz.sizeOf172
  v146:=Tryz.zeroValue172
  g1:=by kernel_rfl}
open Go.RowKit Go.Lib in
theorem Tryz.strings_Cut(s sep:ByteArray)(m:Int)(w:World)(hs:s.size<4294967281)(hm:w.cell? ⟨1,0,none⟩=some (.int .i64 m)):
    Calls Tryz.prog 100 #[.string s,.string sep] w fun e w'=>e=.returned (.tuple #[.string ⟨(Lib.cut s.data.toList sep.data.toList).1.toArray⟩,.string ⟨(Lib.cut s.data.toList sep.data.toList).2.1.toArray⟩,.bool (Lib.cut s.data.toList sep.data.toList).2.2])/\ ∃n,w'=w.drewN n:=Any.strings_Cut Tryz.lays145 s sep m w hs hm
def Tryz.laysM145_ren:Go.Shelf.Ren:=⟨fun|145=>100|220=>130|219=>143|217=>153|225=>154|224=>155|267=>156|266=>166|314=>167|n=>n,fun|9=>9|4=>4|59=>167|3=>3|5=>5|46=>175|146=>172|51=>132|n=>n,fun|1=>1|n=>n⟩
theorem Tryz.laysM145:Go.Proofs.LaysM.n145 Tryz.prog Tryz.laysM145_ren:={
  mixed:=by kernel_rfl
  f145:=Tryz.func100.trans (congrArg some (by kernel_rfl))
  f217:=Tryz.func153.trans (congrArg some (by kernel_rfl))
  f219:=Tryz.func143.trans (congrArg some (by kernel_rfl))
  f220:=Tryz.func130.trans (congrArg some (by kernel_rfl))
  f224:=Tryz.func155.trans (congrArg some (by kernel_rfl))
  f225:=Tryz.func154.trans (congrArg some (by kernel_rfl))
  f266:=Tryz.func166.trans (congrArg some (by kernel_rfl))
  f267:=Tryz.func156.trans (congrArg some (by kernel_rfl))
  f314:=Tryz.func167.trans (congrArg some (by kernel_rfl))
  t3:=Tryz.underlying3
  a3:=Tryz.isAgg3
  z3:=Tryz.sizeOf3
  v3:=Tryz.zeroValue3
  t4:=Tryz.underlying4
  a4:=Tryz.isAgg4
  z4:=Tryz.sizeOf4
  v4:=Tryz.zeroValue4
  t5:=Tryz.underlying5
  a5:=Tryz.isAgg5
  z5:=Tryz.sizeOf5
  v5:=Tryz.zeroValue5
  t9:=Tryz.underlying9
  a9:=Tryz.isAgg9
  z9:=Tryz.sizeOf9
  v9:=Tryz.zeroValue9
  t46:=Tryz.underlying175
  a46:=Tryz.isAgg175
  z46:=Tryz.sizeOf175
  v46:=Tryz.zeroValue175
  t51:=Tryz.underlying132
  a51:=Tryz.isAgg132
  z51:=Tryz.sizeOf132
  v51:=Tryz.zeroValue132
  t59:=Tryz.underlying167
  a59:=Tryz.isAgg167
  z59:=Tryz.sizeOf167
  v59:=Tryz.zeroValue167
  t146:=Tryz.underlying172
  a146:=Tryz.isAgg172
  z146:=Tryz.sizeOf172
  v146:=Tryz.zeroValue172
  g1:=by kernel_rfl
  i3:=by kernel_rfl
  i4:=by kernel_rfl
  i5:=by kernel_rfl
  i9:=by kernel_rfl
  i46:=by kernel_rfl
  i51:=by kernel_rfl
  i59:=by kernel_rfl
  i146:=by kernel_rfl
  m1:=by kernel_rfl
  s1_3:=fun w h=>Go.Proofs.cell_of_shapedOpen_int (zero:=#[.int .i64 0]) (t:=3) h (of_decide_eq_true (by kernel_rfl)) (by kernel_rfl) rfl (by kernel_rfl) (by kernel_rfl) Tryz.underlying3}
def Tryz.lays105_ren:Go.Shelf.Ren:=⟨fun|105=>80|212=>106|99=>107|165=>108|166=>81|170=>109|169=>82|263=>133|264=>134|206=>135|240=>110|241=>136|276=>137|277=>148|n=>n,fun|9=>9|3=>3|4=>4|20=>20|0=>0|46=>175|109=>176|5=>5|72=>140|76=>143|51=>132|146=>172|53=>127|148=>204|70=>137|37=>138|75=>142|127=>181|164=>206|80=>145|n=>n,fun|n=>n⟩
theorem Tryz.lays105:Go.Proofs.Lays.n105 Tryz.prog Tryz.lays105_ren:={
  mixed:=by kernel_rfl
  f99:=Tryz.func107.trans (congrArg some (by kernel_rfl))
  f105:=Tryz.func80.trans (congrArg some (by kernel_rfl))
  f165:=Tryz.func108.trans (congrArg some (by kernel_rfl))
  f166:=Tryz.func81.trans (congrArg some (by kernel_rfl))
  f169:=Tryz.func82.trans (congrArg some (by kernel_rfl))
  f170:=Tryz.func109.trans (congrArg some (by kernel_rfl))
  f206:=Tryz.func135.trans (congrArg some (by kernel_rfl))
  f212:=Tryz.func106.trans (congrArg some (by kernel_rfl))
  f240:=Tryz.func110.trans (congrArg some (by kernel_rfl))
  f241:=Tryz.func136.trans (congrArg some (by kernel_rfl))
  f263:=Tryz.func133.trans (congrArg some (by kernel_rfl))
  f264:=Tryz.func134.trans (congrArg some (by kernel_rfl))
  f276:=Tryz.func137.trans (congrArg some (by kernel_rfl))
  f277:=Tryz.func148.trans (congrArg some (by kernel_rfl))
  t0:=Tryz.underlying0
  a0:=Tryz.isAgg0
  z0:=Tryz.sizeOf0
  v0:=Tryz.zeroValue0
  t3:=Tryz.underlying3
  a3:=Tryz.isAgg3
  z3:=Tryz.sizeOf3
  v3:=Tryz.zeroValue3
  t4:=Tryz.underlying4
  a4:=Tryz.isAgg4
  z4:=Tryz.sizeOf4
  v4:=Tryz.zeroValue4
  t5:=Tryz.underlying5
  a5:=Tryz.isAgg5
  z5:=Tryz.sizeOf5
  v5:=Tryz.zeroValue5
  t9:=Tryz.underlying9
  a9:=Tryz.isAgg9
  z9:=Tryz.sizeOf9
  v9:=Tryz.zeroValue9
  t20:=Tryz.underlying20
  a20:=Tryz.isAgg20
  z20:=Tryz.sizeOf20
  v20:=Tryz.zeroValue20
  t37:=Tryz.underlying138
  a37:=Tryz.isAgg138
  z37:=Tryz.sizeOf138
  v37:=Tryz.zeroValue138
  t46:=Tryz.underlying175
  a46:=Tryz.isAgg175
  z46:=Tryz.sizeOf175
  v46:=Tryz.zeroValue175
  t51:=Tryz.underlying132
  a51:=Tryz.isAgg132
  z51:=Tryz.sizeOf132
  v51:=Tryz.zeroValue132
  t53:=Tryz.underlying127
  a53:=Tryz.isAgg127
  z53:=Tryz.sizeOf127
  v53:=Tryz.zeroValue127
  t70:=Tryz.underlying137
  a70:=Tryz.isAgg137
  z70:=Tryz.sizeOf137
  v70:=Tryz.zeroValue137
  t72:=Tryz.underlying140
  a72:=Tryz.isAgg140
  z72:=Tryz.sizeOf140
  v72:=Tryz.zeroValue140
  t75:=Tryz.underlying142
  a75:=Tryz.isAgg142
  z75:=Tryz.sizeOf142
  v75:=Tryz.zeroValue142
  t76:=Tryz.underlying143
  a76:=Tryz.isAgg143
  z76:=Tryz.sizeOf143
  v76:=Tryz.zeroValue143
  t109:=Tryz.underlying176
  a109:=Tryz.isAgg176
  z109:=Tryz.sizeOf176
  v109:=Tryz.zeroValue176
  t127:=Tryz.underlying181
  a127:=Tryz.isAgg181
  z127:=Tryz.sizeOf181
  v127:=Tryz.zeroValue181
  t146:=Tryz.underlying172
  a146:=Tryz.isAgg172
  z146:=Tryz.sizeOf172
  v146:=Tryz.zeroValue172
  t148:=Tryz.underlying204
  a148:=Tryz.isAgg204
  z148:=Tryz.sizeOf204
  v148:=Tryz.zeroValue204
  t164:=Tryz.underlying206
  a164:=Tryz.isAgg206
  z164:=Tryz.sizeOf206
  v164:=Tryz.zeroValue206}
theorem Tryz.Builder_Extra_105:Builder.Extra Tryz.prog Tryz.lays105_ren:={
  sizeBuilder:=by kernel_rfl
  liesBuilder:=by kernel_rfl
  t5:=Tryz.underlying5
  a5:=Tryz.isAgg5
  z5:=Tryz.sizeOf5
  v5:=Tryz.zeroValue5
  infoByte:=by kernel_rfl
  cellsByte:=by kernel_rfl
  sizeByte:=by kernel_rfl
  neB5:=by decide}
open Go.RowKit Go.Lib in
theorem Tryz.strings_Repeat(s:ByteArray)(c:Nat)(w:World)(hc:c<=9223372036854775807)(hlen:s.size*c<=140737488355328):
    Calls Tryz.prog 80 #[.string s,.int .i64 c] w fun e w'=>e=.returned (.string ⟨(Lib.repeatL s.data.toList c).toArray⟩)/\Below w.heap.size w w':=Any.strings_Repeat Tryz.lays105 Tryz.Builder_Extra_105 s c w hc hlen
def Tryz.lays108_ren:Go.Shelf.Ren:=⟨fun|108=>119|n=>n,fun|28=>31|3=>3|0=>0|4=>4|n=>n,fun|n=>n⟩
theorem Tryz.lays108:Go.Proofs.Lays.n108 Tryz.prog Tryz.lays108_ren:={
  mixed:=by kernel_rfl
  f108:=Tryz.func119.trans (congrArg some (by kernel_rfl))
  t0:=Tryz.underlying0
  a0:=Tryz.isAgg0
  z0:=Tryz.sizeOf0
  v0:=Tryz.zeroValue0
  t3:=Tryz.underlying3
  a3:=Tryz.isAgg3
  z3:=Tryz.sizeOf3
  v3:=Tryz.zeroValue3
  t4:=Tryz.underlying4
  a4:=Tryz.isAgg4
  z4:=Tryz.sizeOf4
  v4:=Tryz.zeroValue4
  t28:=Tryz.underlying31
  a28:=Tryz.isAgg31
  z28:=Tryz.sizeOf31
  v28:=Tryz.zeroValue31}
open Go.Lib in
theorem Tryz.slices_Index_int(b off n c:Nat)(zs:List Int)(x:Int)(w:World)(hz:n<=zs.length)(hbig:n<=9223372036854775807)(hc:∀j,j<zs.length->w.cell? ⟨b,off+j,none⟩=some (.int .i64 (zs.getD j 0))):
    Calls Tryz.prog 119 #[.slice (some ⟨b,off,none⟩) n c,.int .i64 x] w fun e w'=>e=.returned (.int .i64 (Lib.idxOf (zs.take n) x))/\w'=w:=Any.slices_Index_int Tryz.lays108 b off n c zs x w hz hbig hc
open Go.Lib in
theorem Tryz.slices_Index_int_empty(a:Option Addr)(c:Nat)(x:Int)(w:World):
    Calls Tryz.prog 119 #[.slice a 0 c,.int .i64 x] w fun e w'=>e=.returned (.int .i64 (Lib.idxOf [] x))/\w'=w:=Any.slices_Index_int_empty Tryz.lays108 a c x w
def Tryz.lays107_ren:Go.Shelf.Ren:=⟨fun|107=>90|108=>119|n=>n,fun|28=>31|3=>3|4=>4|0=>0|n=>n,fun|n=>n⟩
theorem Tryz.lays107:Go.Proofs.Lays.n107 Tryz.prog Tryz.lays107_ren:={
  mixed:=by kernel_rfl
  f107:=Tryz.func90.trans (congrArg some (by kernel_rfl))
  f108:=Tryz.func119.trans (congrArg some (by kernel_rfl))
  t0:=Tryz.underlying0
  a0:=Tryz.isAgg0
  z0:=Tryz.sizeOf0
  v0:=Tryz.zeroValue0
  t3:=Tryz.underlying3
  a3:=Tryz.isAgg3
  z3:=Tryz.sizeOf3
  v3:=Tryz.zeroValue3
  t4:=Tryz.underlying4
  a4:=Tryz.isAgg4
  z4:=Tryz.sizeOf4
  v4:=Tryz.zeroValue4
  t28:=Tryz.underlying31
  a28:=Tryz.isAgg31
  z28:=Tryz.sizeOf31
  v28:=Tryz.zeroValue31}
open Go.Lib in
theorem Tryz.slices_Contains_int(b off n c:Nat)(zs:List Int)(x:Int)(w:World)(hz:n<=zs.length)(hbig:n<=9223372036854775807)(hc:∀j,j<zs.length->w.cell? ⟨b,off+j,none⟩=some (.int .i64 (zs.getD j 0))):
    Calls Tryz.prog 90 #[.slice (some ⟨b,off,none⟩) n c,.int .i64 x] w fun e w'=>e=.returned (.bool ((zs.take n).contains x))/\w'=w:=Any.slices_Contains_int Tryz.lays107 b off n c zs x w hz hbig hc
open Go.Lib in
theorem Tryz.slices_Contains_int_empty(a:Option Addr)(c:Nat)(x:Int)(w:World):
    Calls Tryz.prog 90 #[.slice a 0 c,.int .i64 x] w fun e w'=>e=.returned (.bool false)/\w'=w:=Any.slices_Contains_int_empty Tryz.lays107 a c x w
def Tryz.laysNm223_ren:Go.Shelf.Ren:=⟨fun|23=>123|n=>n,fun|22=>31|3=>3|4=>4|0=>0|n=>n,fun|n=>n⟩
theorem Tryz.laysNm223:Go.Proofs.Lays2.n23 Tryz.prog Tryz.laysNm223_ren:={
  mixed:=by kernel_rfl
  f23:=Tryz.func123.trans (congrArg some (by kernel_rfl))
  t0:=Tryz.underlying0
  a0:=Tryz.isAgg0
  z0:=Tryz.sizeOf0
  v0:=Tryz.zeroValue0
  t3:=Tryz.underlying3
  a3:=Tryz.isAgg3
  z3:=Tryz.sizeOf3
  v3:=Tryz.zeroValue3
  t4:=Tryz.underlying4
  a4:=Tryz.isAgg4
  z4:=Tryz.sizeOf4
  v4:=Tryz.zeroValue4
  t22:=Tryz.underlying31
  a22:=Tryz.isAgg31
  z22:=Tryz.sizeOf31
  v22:=Tryz.zeroValue31
  i3:=by kernel_rfl}
open Go.RowKit Go.Lib Go.Sort in
theorem Tryz.slices_Delete_int_cells(b off n c i j:Nat)(zs:List Int)(w:World)(hz:n<=zs.length)(hcap:n<=c)(hm:c<=9223372036854775807)(hij:i<=j)(hj:j<=n)(hc:∀j,j<zs.length->w.cell? ⟨b,off+j,none⟩=some (.int .i64 (zs.getD j 0)))(hf:∀j,j<n->w.frozen? ⟨b,off+j,none⟩=false):
    Calls Tryz.prog 123 #[.slice (some ⟨b,off,none⟩) n c,.int .i64 i,.int .i64 j] w fun e w'=>e=.returned (.slice (some ⟨b,off,none⟩) (n-(j-i)) c)/\ ∃q,w'=(w.drewN q).setCells b off (((zs.take n).take i++(zs.take n).drop j++List.replicate (j-i) 0).map (Value.int .i64)):=Any.slices_Delete_int_cells Tryz.laysNm223 b off n c i j zs w hz hcap hm hij hj hc hf
end Go.Proofs
namespace Go.Proofs.YtjhaedfpigebdaaGreatDoor
def val(B:Nat):List Nat->Nat
  |[]=>0
  |d::ds=>d+B*val B ds
def trimD:List Nat->List Nat
  |[]=>[]
  |d::ds=>if trimD ds=[]/\d=0 then[]else d::trimD ds
def digs(B n:Nat):List Nat:=if _h:n=0\/B<2 then[]else n%B::digs B (n/B)
termination_by n
decreasing_by exact Nat.div_lt_self (by omega) (by omega)
section
variable {B:Nat}
theorem digs_zero:digs B 0=[]:=by rw[digs];simp
theorem digs_pos(hB:2<=B){n:Nat}(hn:n≠0):digs B n=n%B::digs B (n/B):=by rw[digs,dif_neg (by omega)]
theorem digs_eq_nil(hB:2<=B){n:Nat}:digs B n=[]↔n=0:=by
  constructor
  . intro h;refine Decidable.byContradiction fun hn=>?_
    rw[digs_pos hB hn]at h;cases h
  rintro rfl;exact digs_zero
theorem val_digs(hB:2<=B)(n:Nat):val B (digs B n)=n:=by
  induction n using Nat.strongRecOn with
  | ind n ih=>
    by_cases hn:n=0
    . subst hn;rw[digs_zero];rfl
    rw[digs_pos hB hn,val,ih (n/B) (Nat.div_lt_self (by omega) (by omega))];exact Nat.mod_add_div n B
theorem digs_lt(hB:2<=B)(n:Nat):∀d∈digs B n,d<B:=by
  induction n using Nat.strongRecOn with
  | ind n ih=>
    by_cases hn:n=0
    . subst hn;rw[digs_zero];intro d h;cases h
    rw[digs_pos hB hn];intro d hd
    rcases List.mem_cons.1 hd with rfl|hd
    . exact Nat.mod_lt _ (by omega)
    exact ih (n/B) (Nat.div_lt_self (by omega) (by omega)) d hd
theorem val_append(l m:List Nat):val B (l++m)=val B l+B^l.length*val B m:=by
  induction l with
  |nil=>simp[val]
  | cons d l ih=>
    simp only[List.cons_append,val,ih,List.length_cons,Nat.pow_succ,Nat.mul_add];rw[Nat.mul_comm (B^l.length) B,Nat.mul_assoc];omega
theorem val_lt(_hB:2<=B){l:List Nat}(h:∀d∈l,d<B):val B l<B^l.length:=by
  induction l with
  |nil=>simp[val]
  | cons d l ih=>
    have h1:=h d (List.mem_cons_self ..);have h2:=ih fun x hx=>h x (List.mem_cons_of_mem _ hx)
    simp only[val,List.length_cons,Nat.pow_succ];have h3:B*(val B l+1)<=B*B^l.length:=Nat.mul_le_mul_left B h2;rw[Nat.mul_add]at h3;rw[Nat.mul_comm (B^l.length) B];omega
theorem val_snoc(l:List Nat)(d:Nat):val B (l++[d])=val B l+B^l.length*d:=by rw[val_append];simp[val]
theorem val_replicate(n:Nat):val B (List.replicate n 0)=0:=by
  induction n with
  |zero=>rfl
  |succ n ih=>simp[List.replicate_succ,val,ih]
theorem val_take_drop(l:List Nat)(k:Nat)(h:k<=l.length):val B l=val B (l.take k)+B^k*val B (l.drop k):=by
  have:=val_append (B:=B) (l.take k) (l.drop k);rw[List.take_append_drop,List.length_take,Nat.min_eq_left h]at this;exact this
theorem val_eq_zero(hB:2<=B){l:List Nat}:val B l=0↔trimD l=[]:=by
  induction l with
  |nil=>simp[val,trimD]
  | cons d l ih=>
    unfold trimD;simp only[val]
    split
    . rename_i h
      have:=ih.2 h.1;rw[this,h.2];simp
    rename_i h
    simp only[reduceCtorEq,iff_false];intro h0;have hd:d=0:=by omega
    have h1:B*val B l=0:=by omega
    have h2:val B l=0:=by
      rcases Nat.mul_eq_zero.1 h1 with e|e
      . omega
      exact e
    exact h ⟨ih.1 h2,hd⟩
theorem digs_val(hB:2<=B){l:List Nat}(h:∀d∈l,d<B):digs B (val B l)=trimD l:=by
  induction l with
  |nil=>simp[val,trimD,digs_zero]
  | cons d l ih=>
    have h1:=h d (List.mem_cons_self ..);have h2:=ih fun x hx=>h x (List.mem_cons_of_mem _ hx)
    by_cases h0:val B (d::l)=0
    . rw[h0,digs_zero];exact((val_eq_zero hB).1 h0).symm
    rw[digs_pos hB h0];have e1:val B (d::l)%B=d:=by simp only[val];rw[Nat.add_mul_mod_self_left,Nat.mod_eq_of_lt h1]
    have e2:val B (d::l)/B=val B l:=by simp only[val];rw[Nat.add_mul_div_left _ _ (by omega),Nat.div_eq_of_lt h1,Nat.zero_add]
    rw[e1,e2,h2,show trimD (d::l)=if trimD l=[]/\d=0 then[]else d::trimD l from rfl,if_neg];intro h3;exact h0 ((val_eq_zero hB).2 (by rw[show trimD (d::l)=if trimD l=[]/\d=0 then[]else d::trimD l from rfl,if_pos h3]))
theorem trimD_last{l:List Nat}{d:Nat}(hd:d≠0):trimD (l++[d])=l++[d]:=by
  induction l with
  |nil=>simp[trimD,hd]
  |cons x l ih=>simp only[List.cons_append,trimD,ih];rw[if_neg (by simp)]
theorem trimD_zero(l:List Nat):trimD (l++[0])=trimD l:=by
  induction l with
  |nil=>simp[trimD]
  |cons x l ih=>simp only[List.cons_append,trimD,ih]
theorem digs_len_le(hB:2<=B):∀(k n:Nat),n<B^k->(digs B n).length<=k
  | 0,n,h=>by
    have:n=0:=by simpa using h
    subst this;rw[digs_zero];simp
  | k+1,n,h=>by
    by_cases hn:n=0
    . subst hn;rw[digs_zero];simp
    rw[digs_pos hB hn,List.length_cons];have:=digs_len_le hB k (n/B) (Nat.div_lt_of_lt_mul (by rw[Nat.pow_succ]at h;rw[Nat.mul_comm];exact h));omega
theorem digs_len_ge(hB:2<=B):∀(k n:Nat),B^k<=n->k<(digs B n).length
  | 0,n,h=>by
    have hn:n≠0:=by simp at h;omega
    rw[digs_pos hB hn];simp
  | k+1,n,h=>by
    have hp:0<B^(k+1):=Nat.pow_pos (by omega);have hn:n≠0:=by omega
    rw[digs_pos hB hn,List.length_cons];have:=digs_len_ge hB k (n/B) ((Nat.le_div_iff_mul_le (by omega)).2 (by rw[Nat.pow_succ]at h;exact h));omega
theorem digs_len_mono(hB:2<=B){n m:Nat}(h:(digs B n).length<(digs B m).length):n<m:=by
  refine Nat.lt_of_not_le fun hle=>?_
  have h1:=val_lt hB (digs_lt hB n);rw[val_digs hB]at h1;have:=digs_len_le hB (digs B n).length m (Nat.lt_of_le_of_lt hle h1);omega
end
def dec(n:Nat):List UInt8:=if n=0 then[48]else((digs 10 n).map fun d=>(48+d).toUInt8).reverse
end Go.Proofs.YtjhaedfpigebdaaGreatDoor
namespace Go.Proofs.YtjhaedfpigebdaaGreatDoor
theorem guess_ge{q V U top v1 P:Nat}(_hP:0<P)(hv:0<v1)(hU:U<(top+1)*P)(hV:v1*P<=V)(hq:q*V<=U):q<=top/v1:=by
  rw[Nat.le_div_iff_mul_le hv];have h1:q*v1*P<=q*V:=by rw[Nat.mul_assoc];exact Nat.mul_le_mul_left _ hV
  have h2:q*v1*P<(top+1)*P:=by omega
  have:=Nat.lt_of_mul_lt_mul_right h2;omega
theorem guess_dec{q V U top v1 v2 u2 B P g rest:Nat}(hU:U<(top*B+u2+1)*P)(hV:(v1*B+v2)*P<=V)(hq:q*V<=U)(hg:g*v1+rest=top)(h:rest*B+u2<g*v2):q<g:=by
  refine Nat.lt_of_not_le fun hle=>?_
  have h1:g*(v1*B+v2)*P<=q*V:=by
    rw[Nat.mul_assoc];exact Nat.mul_le_mul hle hV
  have h2:g*(v1*B+v2)<top*B+u2+1:=Nat.lt_of_mul_lt_mul_right (a:=P) (by omega);rw[<-hg,Nat.mul_add,Nat.add_mul, <-Nat.mul_assoc]at h2;omega
theorem guess_end{V U top v1 v2 u2 B P g rest Vl:Nat}(hP:0<P)(hU:(top*B+u2)*P<=U)(hV:V=(v1*B+v2)*P+Vl)(hVl:Vl<P)(hv:0<v1)(hg:g*v1+rest=top)(hgB:g<B)(h:g*v2<=rest*B+u2):g<=U/V+1:=by
  have hVP:B*P<=V:=by
    rw[hV];have h1:1*B<=v1*B:=Nat.mul_le_mul_right _ hv;have h2:(1*B)*P<=(v1*B+v2)*P:=Nat.mul_le_mul_right _ (by omega);rw[Nat.one_mul]at h2;omega
  have hV0:0<V:=Nat.lt_of_lt_of_le (Nat.mul_pos (by omega) hP) hVP
  have h1:g*(v1*B+v2)<=top*B+u2:=by
    rw[<-hg,Nat.mul_add,Nat.add_mul, <-Nat.mul_assoc];omega
  have h2:g*(v1*B+v2)*P<=U:=Nat.le_trans (Nat.mul_le_mul_right _ h1) hU;have h3:g*Vl<=g*P:=Nat.mul_le_mul_left _ (by omega);have h4:g*P<=B*P:=Nat.mul_le_mul_right _ (by omega);have h5:g*V=g*(v1*B+v2)*P+g*Vl:=by rw[hV,Nat.mul_add,Nat.mul_assoc]
  have h6:g*V<=U+V:=by omega
  refine Nat.le_of_not_lt fun hlt=>?_
  have h7:(U/V+2)*V<=g*V:=Nat.mul_le_mul_right _ hlt;have h8:U<V*(U/V)+V:=by have:=Nat.div_add_mod U V;have:=Nat.mod_lt U hV0;omega
  rw[Nat.add_mul,Nat.mul_comm (U/V)]at h7;omega
theorem guess_break{B top v1 g rest:Nat}(hg:g*v1+rest=top)(ht:top<v1*B+B)(hr:B<=rest):g<B:=by
  refine Nat.lt_of_not_le fun hle=>?_
  have:B*v1<=g*v1:=Nat.mul_le_mul_right _ hle;rw[Nat.mul_comm v1]at ht;omega
theorem test_break{B v2 u2 g rest:Nat}(hg:g<B)(hv:v2<B)(hr:B<=rest):g*v2<=rest*B+u2:=by
  have h1:g*v2<=B*B:=Nat.mul_le_mul (by omega) (by omega);have h2:B*B<=rest*B:=Nat.mul_le_mul_right _ hr;omega
theorem red_step{B u p b v q:Nat}(hB:0<B)(hu:u<B)(hb:b<=1):
    (u+B-(p+v*q)%B-b)%B+v*q+p+b=u+B*((if u<(p+v*q)%B+b then 1 else 0)+(p+v*q)/B):=by
  generalize hpr:p+v*q=pr;have h1:B*(pr/B)+pr%B=pr:=Nat.div_add_mod pr B;have h2:pr%B<B:=Nat.mod_lt _ hB
  have hx:(u+B-pr%B-b)%B+pr%B+b=u+B*(if u<pr%B+b then 1 else 0):=by
    split
    . rw[Nat.mod_eq_of_lt (by omega)];omega
    rw[show u+B-pr%B-b=(u-pr%B-b)+B by omega,Nat.add_mod_right,Nat.mod_eq_of_lt (by omega)];omega
  rw[Nat.mul_add];generalize (if u<pr%B+b then 1 else 0)=t at*;omega
theorem red_done{U V q X T:Nat}(h:X+q*V=U+T*0)(hge:U/V<=q)(hV:0<V):q=U/V/\X=U%V:=by
  have h1:=Nat.div_add_mod U V;have h2:=Nat.mod_lt U hV;have hle:q<=U/V:=by rw[Nat.le_div_iff_mul_le hV];omega
  have e:q=U/V:=by omega
  refine⟨e,?_⟩;rw[e,Nat.mul_comm (U/V)]at h;omega
theorem red_back{U V q X Y T c:Nat}(h:X+q*V=U+T*1)(hX:X<T)(hY:Y<T)(hVT:V<=T)(h2:Y+T*c=X+V)(hle:q<=U/V+1)(hV:0<V):q=U/V+1/\Y=U%V:=by
  have h1:=Nat.div_add_mod U V;have h3:=Nat.mod_lt U hV
  have hgt:U/V<q:=by
    refine Nat.lt_of_not_le fun hle'=>?_
    have:q*V<=U/V*V:=Nat.mul_le_mul_right _ hle';rw[Nat.mul_comm (U/V)]at this;omega
  have e:q=U/V+1:=by omega
  refine⟨e,?_⟩;rw[e,Nat.add_mul,Nat.mul_comm (U/V)]at h;have e2:Y+T*c=U%V+T:=by omega
  have e3:c=1:=by
    match c with
    |0=>omega
    |1=>rfl
    | c+2=>
      have:T*2<=T*(c+2):=Nat.mul_le_mul_left _ (by omega);omega
  rw[e3]at e2;omega
theorem shl_step{B S x low:Nat}(hS:0<S)(hBS:S∣B)(hB:0<B)(hx:x<B)(hl:low<S):x*S%B+low<B/\x*S/B<S/\(x*S%B+low)+B*(x*S/B)=x*S+low:=by
  have h1:=Nat.div_add_mod (x*S) B;refine⟨?_,?_,by omega⟩
  . obtain⟨t,rfl⟩:=hBS;rw[Nat.mul_comm x S,Nat.mul_mod_mul_left]
    have ht:0<t:=Nat.pos_of_mul_pos_left hB|>fun h=>by
      rcases Nat.eq_zero_or_pos t with h0|h0
      . subst h0;simp at hB
      exact h0
    have h2:=Nat.mod_lt x ht;have h3:S*(x%t+1)<=S*t:=Nat.mul_le_mul_left _ h2;rw[Nat.mul_add]at h3;omega
  rw[Nat.div_lt_iff_lt_mul hB,Nat.mul_comm S];exact Nat.mul_lt_mul_of_pos_right hx hS
theorem shr_step{B S d D:Nat}(hS:0<S)(hBS:S∣B)(hB:0<B)(hd:d<B):(d+B*D)/S=((D%B)*B+d)/S%B+B*(D/S):=by
  have h1:(d+B*D)/S/B=D/S:=by
    rw[Nat.div_div_eq_div_mul,Nat.mul_comm S B, <-Nat.div_div_eq_div_mul,Nat.add_mul_div_left _ _ hB,Nat.div_eq_of_lt hd,Nat.zero_add]
  have h2:(d+B*D)/S%B=((D%B)*B+d)/S%B:=by
    obtain⟨t,ht⟩:=hBS
    have e:d+B*D=((D%B)*B+d)+S*(B*(t*(D/B))):=by
      have h3:=Nat.div_add_mod D B
      have h4:S*(B*(t*(D/B)))=B*(B*(D/B)):=by
        rw[show S*(B*(t*(D/B)))=B*((S*t)*(D/B)) by ac_rfl, <-ht]
      rw[h4];have h5:B*D=B*(B*(D/B))+B*(D%B):=by rw[<-Nat.mul_add,h3]
      rw[h5,Nat.mul_comm (D%B)];omega
    rw[e,Nat.add_mul_div_left _ _ hS,Nat.add_mul_mod_self_left]
  rw[<-h2, <-h1,Nat.mod_add_div]
theorem div_shifted{A b S q r:Nat}(hS:0<S)(hb:0<b)(h:q*(b*S)+r=A*S)(hr:r<b*S):q=A/b/\r=A%b*S:=by
  have e:A*S=(A/b)*(b*S)+A%b*S:=by
    have h1:=Nat.div_add_mod A b;rw[<-Nat.mul_assoc, <-Nat.add_mul,Nat.mul_comm (A/b) b,h1]
  have h2:A%b*S<b*S:=Nat.mul_lt_mul_of_pos_right (Nat.mod_lt _ hb) hS;have hbS:0<b*S:=Nat.mul_pos hb hS;have h3:(q*(b*S)+r)/(b*S)=q:=by rw[Nat.add_comm,Nat.add_mul_div_right _ _ hbS,Nat.div_eq_of_lt hr,Nat.zero_add]
  have h4:((A/b)*(b*S)+A%b*S)/(b*S)=A/b:=by rw[Nat.add_comm,Nat.add_mul_div_right _ _ hbS,Nat.div_eq_of_lt h2,Nat.zero_add]
  have e2:q=A/b:=by rw[<-h3,h,e,h4]
  refine⟨e2,?_⟩;rw[e2]at h;omega
end Go.Proofs.YtjhaedfpigebdaaGreatDoor
namespace Go.Proofs.YtjhaedfpigebdaaGreatDoor
section
variable {B:Nat}
theorem val_drop'{ds:List Nat}{j:Nat}(hj:j<ds.length):val B (ds.drop j)=ds[j]+B*val B (ds.drop (j+1)):=by
  rw[List.drop_eq_getElem_cons hj];rfl
theorem val_top{l:List Nat}{k:Nat}(h:l.length=k+1):val B l=val B (l.take k)+B^k*l[k]:=by
  have:=val_take_drop (B:=B) l k (by omega);rw[val_drop' (by omega),List.drop_of_length_le (by omega)]at this
  simpa[val]using this
theorem val_top2{l:List Nat}{k:Nat}(h:l.length=k+2):val B l=val B (l.take k)+B^k*(l[k]+B*l[k+1]):=by
  have:=val_take_drop (B:=B) l k (by omega);rw[val_drop' (by omega),val_drop' (by omega),List.drop_of_length_le (by omega)]at this
  simpa[val]using this
theorem val_top3{l:List Nat}{k:Nat}(h:l.length=k+3):val B l=val B (l.take k)+B^k*(l[k]+B*(l[k+1]+B*l[k+2])):=by
  have:=val_take_drop (B:=B) l k (by omega);rw[val_drop' (by omega),val_drop' (by omega),val_drop' (by omega),List.drop_of_length_le (by omega)]at this
  simpa[val]using this
theorem take_lt(hB:2<=B){l:List Nat}(h:∀d∈l,d<B){k:Nat}(hk:k<=l.length):val B (l.take k)<B^k:=by
  have:=val_lt hB (l:=l.take k) (fun d hd=>h d (List.mem_of_mem_take hd))
  rwa [List.length_take,Nat.min_eq_left hk]at this
structure Guess(B U V v1 v2 top u2:Nat):Prop where
  first:U/V<=top/v1
  dec:∀g r,g*v1+r=top->U/V<=g->(B<=g\/r*B+u2<g*v2)->U/V<g
  fin:∀g r,g*v1+r=top->g<B->g*v2<=r*B+u2->g<=U/V+1
  top1:top<v1*B+B
  quo:U/V<B
theorem guess_pack(hB:2<=B){vs us:List Nat}{k:Nat}(lv:vs.length=k+2)(lu:us.length=k+3)(hv:∀d∈vs,d<B)(hu:∀d∈us,d<B)(hlt:val B us<B*val B vs)(h1:0<vs[k+1]):
    Guess B (val B us) (val B vs) vs[k+1] vs[k] (us[k+2]*B+us[k+1]) us[k]:=by
  have eV:=val_top2 (B:=B) lv;have eU:=val_top3 (B:=B) lu;have tV:=take_lt hB hv (k:=k) (by omega);have tU:=take_lt hB hu (k:=k) (by omega);have q1:=hv _ (List.getElem_mem (show k<vs.length by omega));have q2:=hu _ (List.getElem_mem (show k<us.length by omega));have q3:=hu _ (List.getElem_mem (show k+1<us.length by omega));generalize val B us=U at*;generalize val B vs=V at*;generalize vs[k+1]=v1 at*;generalize vs[k]=v2 at*;generalize us[k+2]=a at*;generalize us[k+1]=b at*;generalize us[k]=u2 at*;generalize val B (vs.take k)=Vl at*;generalize val B (us.take k)=Ul at*;have hP:0<B^k:=Nat.pow_pos (by omega);generalize B^k=P at*;have eV':V=(v1*B+v2)*P+Vl:=by rw[eV,Nat.mul_comm P,Nat.add_comm v2,Nat.mul_comm B];omega
  have eU':U=((a*B+b)*B+u2)*P+Ul:=by
    rw[eU,Nat.mul_comm P,show u2+B*(b+B*a)=(a*B+b)*B+u2 by rw[Nat.mul_comm B (b+B*a),Nat.add_comm b,Nat.mul_comm B a];omega];omega
  clear eV eU
  have hV0:0<V:=by
    rw[eV'];have:1*1<=(v1*B+v2)*P:=Nat.mul_le_mul (by have:1*1<=v1*B:=Nat.mul_le_mul h1 (by omega);omega) hP;omega
  have hquo:U/V<B:=by rw[Nat.div_lt_iff_lt_mul hV0];exact hlt
  have hq:U/V*V<=U:=Nat.div_mul_le_self U V;have hU1:U<((a*B+b)*B+u2+1)*P:=by rw[eU',Nat.add_mul _ 1];omega
  have hU2:U<((a*B+b)+1)*(B*P):=by
    refine Nat.lt_of_lt_of_le hU1 ?_;rw[<-Nat.mul_assoc];refine Nat.mul_le_mul_right _ ?_;rw[Nat.add_mul (a*B+b) 1,Nat.one_mul];omega
  have hV1:v1*(B*P)<=V:=by rw[eV',Nat.add_mul, <-Nat.mul_assoc];omega
  refine⟨guess_ge (Nat.mul_pos (by omega) hP) h1 hU2 hV1 hq,fun g r hg hqg hc=>?_,fun g r hg hgB h=>?_,?_,hquo⟩
  . rcases hc with hc|hc
    . omega
    exact guess_dec hU1 (by rw[eV'];omega) hq hg hc
  . exact guess_end hP (by rw[eU'];omega) eV' tV h1 hg hgB h
  have h5:(a*B+b)*(B*P)<(v1*B+B)*(B*P):=by
    have h6:(a*B+b)*(B*P)<=U:=by rw[eU', <-Nat.mul_assoc,Nat.add_mul _ u2];omega
    have h7:V<(v1+1)*(B*P):=by
      rw[eV', <-Nat.mul_assoc,Nat.add_mul v1,Nat.one_mul]
      have h8:v2*P+P<=B*P:=by
        have:(v2+1)*P<=B*P:=Nat.mul_le_mul_right _ q1
        rwa [Nat.add_mul,Nat.one_mul]at this
      rw[Nat.add_mul,Nat.add_mul];omega
    have h9:B*V<=B*((v1+1)*(B*P)):=Nat.mul_le_mul_left _ (by omega)
    have h10:B*((v1+1)*(B*P))=(v1*B+B)*(B*P):=by
      rw[<-Nat.mul_assoc,show B*(v1+1)=v1*B+B by rw[Nat.mul_add,Nat.mul_comm];omega]
    omega
  exact Nat.lt_of_mul_lt_mul_right h5
theorem long_split(_hB:2<=B){ys:List Nat}{j n V:Nat}(hl:j+n+1<=ys.length)(hy:∀d∈ys,d<B)(hlt:val B (ys.drop (j+1))<V)(hV:V<B^n):
    ys=ys.take j++(ys.drop j).take (n+1)++ys.drop (j+n+1)/\((ys.drop j).take (n+1)).length=n+1/\val B (ys.drop (j+n+1))=0/\val B ((ys.drop j).take (n+1))=val B (ys.drop j)/\val B ((ys.drop j).take (n+1))<B*V/\ ∀d∈(ys.drop j).take (n+1),d<B:=by
  have e0:(ys.drop j).drop (n+1)=ys.drop (j+n+1):=by rw[List.drop_drop];congr 1
  have hC:val B (ys.drop (j+n+1))=0:=by
    have h1:=val_take_drop (B:=B) (ys.drop (j+1)) n (by rw[List.length_drop];omega);rw[List.drop_drop,show j+1+n=j+n+1 by omega]at h1
    rcases Nat.eq_zero_or_pos (val B (ys.drop (j+n+1)))with h2|h2
    . exact h2
    have:B^n*1<=B^n*val B (ys.drop (j+n+1)):=Nat.mul_le_mul_left _ h2;omega
  have hU:val B ((ys.drop j).take (n+1))=val B (ys.drop j):=by
    have h1:=val_take_drop (B:=B) (ys.drop j) (n+1) (by rw[List.length_drop];omega);rw[e0,hC]at h1;omega
  refine⟨?_,by rw[List.length_take,List.length_drop];omega,hC,hU,?_,fun d hd=>hy d (List.mem_of_mem_drop (List.mem_of_mem_take hd))⟩
  . rw[List.append_assoc, <-e0,List.take_append_drop,List.take_append_drop]
  rw[hU,val_drop' (by omega)];have h1:=hy _ (List.getElem_mem (show j<ys.length by omega));have h2:B*(val B (ys.drop (j+1))+1)<=B*V:=Nat.mul_le_mul_left _ hlt;rw[Nat.mul_add]at h2;omega
theorem long_next{ys qs us us' C:List Nat}{j V AS:Nat}(he:ys=ys.take j++us++C)(hj:j<=ys.length)(hC:val B C=0)(hq:j<qs.length)(hr:val B us'=val B us%V)
    (h:val B (qs.drop (j+1))*(B^(j+1)*V)+val B ys=AS):
    val B ((qs.set j (val B us/V)).drop j)*(B^j*V)+val B (ys.take j++us'++C)=AS/\val B ((ys.take j++us'++C).drop j)=val B us%V:=by
  have hl:(ys.take j).length=j:=by rw[List.length_take];omega
  have e1:val B (ys.take j++us'++C)=val B (ys.take j)+B^j*(val B us%V):=by rw[List.append_assoc,val_append,val_append,hC,hl,hr];simp
  have e2:val B ys=val B (ys.take j)+B^j*val B us:=by
    rw[he,List.append_assoc,val_append,val_append,hC,hl];rw[List.take_append_of_le_length (by omega),List.take_of_length_le (show(ys.take j).length<=j by omega)];simp
  refine⟨?_,by rw[List.append_assoc,List.drop_append_of_le_length (by omega),List.drop_of_length_le (by omega),List.nil_append,val_append,hC,hr];simp⟩
  have e3:val B ((qs.set j (val B us/V)).drop j)=val B us/V+B*val B (qs.drop (j+1)):=by
    rw[val_drop' (by rw[List.length_set];exact hq),List.getElem_set_self,List.drop_set_of_lt (by omega)]
  rw[e1,e3, <-h,e2];have e4:=Nat.div_add_mod (val B us) V;generalize val B (qs.drop (j+1))=Q;generalize val B us=U at*;generalize val B (ys.take j)=T;generalize hq':U/V=q at*;generalize hr':U%V=r at*;rw[<-e4,Nat.pow_succ];generalize B^j=P;rw[Nat.add_mul,Nat.mul_add P,show B*Q*(P*V)=Q*(P*B*V) by ac_rfl,show q*(P*V)=P*(V*q) by ac_rfl];omega
end
end Go.Proofs.YtjhaedfpigebdaaGreatDoor
namespace Go.Proofs.YtjhaedfpigebdaaGreatDoor
def cv:List Nat->List Nat->Nat->Nat
  |[],_,_=>0
  |a::_,bs,0=>a*bs.getD 0 0
  |a::xa,bs,k+1=>a*bs.getD (k+1) 0+cv xa bs k
theorem cv_take_succ:∀(xa bs:List Nat) (k i:Nat) (h:i<xa.length),i<=k->cv (xa.take (i+1)) bs k=cv (xa.take i) bs k+xa[i]*bs.getD (k-i) 0
  |a::xa,bs,0,0,_,_=>by simp[cv]
  |a::xa,bs,k+1,0,_,_=>by simp[cv]
  | a::xa,bs,k+1,i+1,h,hi=>by
    have:=cv_take_succ xa bs k i (by simpa using h) (by omega);simp only[List.take_succ_cons,cv,List.getElem_cons_succ,this,Nat.add_sub_add_right,Nat.add_assoc]
theorem cv_take:∀(xa bs:List Nat) (k i:Nat),(xa.length<=i\/k<i)->cv (xa.take i) bs k=cv xa bs k
  |[],bs,k,i,_=>by simp
  |a::xa,bs,k,0,h=>by simp at h
  |a::xa,bs,0,i+1,_=>by simp[cv]
  | a::xa,bs,k+1,i+1,h=>by
    have:=cv_take xa bs k i (by simpa using h);simp only[List.take_succ_cons,cv,this]
theorem cv_le:∀(xa bs:List Nat) (k M:Nat),(∀a∈xa,a<=M)->(∀b∈bs,b<=M)->cv xa bs k<=xa.length*(M*M)
  |[],bs,k,M,_,_=>by simp[cv]
  | a ::xa,bs,k,M,ha,hb=>by
    have hg:∀j,bs.getD j 0<=M:=fun j=>by
      rw[List.getD_eq_getElem?_getD]
      cases h:bs[j]? with
      |none=>simp
      |some x=>exact hb x (List.mem_of_getElem? h)
    have h1:=ha a (List.mem_cons_self ..);rw[List.length_cons,Nat.add_mul,Nat.one_mul]
    cases k with
    | zero=>
      have:=Nat.mul_le_mul h1 (hg 0);simp only[cv];omega
    | succ k=>
      have:=Nat.mul_le_mul h1 (hg (k+1));have h2:=cv_le xa bs k M (fun x hx=>ha x (List.mem_cons_of_mem _ hx)) hb;simp only[cv];omega
theorem val_range_succ{B:Nat}(f:Nat->Nat)(L:Nat):val B ((List.range (L+1)).map f)=f 0+B*val B ((List.range L).map fun k=>f (k+1)):=by
  rw[List.range_succ_eq_map,List.map_cons,List.map_map];rfl
theorem val_add{B:Nat}(f g:Nat->Nat):∀L,val B ((List.range L).map fun k=>f k+g k)=val B ((List.range L).map f)+val B ((List.range L).map g)
  |0=>rfl
  | L+1=>by
    rw[List.range_succ,List.map_append,List.map_append,List.map_append,val_append,val_append,val_append,val_add f g L];simp only[List.length_map,List.length_range,List.map_cons,List.map_nil,val,Nat.mul_zero,Nat.add_zero,Nat.mul_add];omega
theorem val_mul{B:Nat}(a:Nat)(f:Nat->Nat):∀L,val B ((List.range L).map fun k=>a*f k)=a*val B ((List.range L).map f)
  |0=>by simp[val]
  | L+1=>by
    rw[List.range_succ,List.map_append,List.map_append,val_append,val_append,val_mul a f L];simp only[List.length_map,List.length_range,List.map_cons,List.map_nil,val,Nat.mul_zero,Nat.add_zero,Nat.mul_add]
    congr 1
    ac_rfl
theorem val_getD{B:Nat}:∀(bs:List Nat) (L:Nat),bs.length<=L->val B ((List.range L).map fun k=>bs.getD k 0)=val B bs
  |[],0,_=>rfl
  | [],L+1,_=>by
    rw[val_range_succ];have:=val_getD (B:=B) [] L (Nat.zero_le _);simp only[List.getD_eq_getElem?_getD,List.getElem?_nil,Option.getD_none,val]at this⊢;rw[this];simp
  | b::bs,L+1,h=>by
    rw[val_range_succ];have:=val_getD (B:=B) bs L (by simpa using h);simp only[List.getD_eq_getElem?_getD,List.getElem?_cons_zero,Option.getD_some,List.getElem?_cons_succ,val]at this⊢;rw[this]
theorem val_cv{B:Nat}:∀(xa bs:List Nat) (L:Nat),xa.length+bs.length<=L+1->bs.length<=L->val B ((List.range L).map (cv xa bs))=val B xa*val B bs
  | [], bs,L,_,_=>by
    have:∀L,val B ((List.range L).map (cv [] bs))=0:=by
      intro L
      have:(List.range L).map (cv [] bs)=List.replicate L 0:=by
        rw[List.eq_replicate_iff];simp[cv]
      rw[this,val_replicate]
    rw[this];simp[val]
  | a ::xa,bs,L,h,hb=>by
    have e:(List.range L).map (cv (a::xa) bs)=(List.range L).map fun k=>a*bs.getD k 0+(match k with|0=>0|k+1=>cv xa bs k):=by
      refine List.map_congr_left fun k _=>?_
      cases k<;>simp[cv]
    rw[e,val_add (fun k=>a*bs.getD k 0) (fun k=>match k with|0=>0|k+1=>cv xa bs k),val_mul,val_getD bs L hb];rw[List.length_cons]at h
    cases L with
    | zero=>
      have:bs=[]:=List.eq_nil_of_length_eq_zero (by omega);subst this;simp[val]
    | succ L=>
      rw[val_range_succ];simp only[Nat.zero_add]
      by_cases hbL:bs.length<=L
      . rw[val_cv xa bs L (by omega) hbL];simp only[val,Nat.add_mul,Nat.mul_assoc]
      have has:xa=[]:=List.eq_nil_of_length_eq_zero (by omega);subst has
      have:(List.range L).map (cv [] bs)=List.replicate L 0:=by
        rw[List.eq_replicate_iff];simp[cv]
      rw[this,val_replicate];simp[val]
end Go.Proofs.YtjhaedfpigebdaaGreatDoor
namespace Go.Proofs.YtjhaedfpigebdaaGreatDoor
open Go.Lib (decDigits repeatL)
def chr(d:Nat):UInt8:=UInt8.ofNat (48+d)
theorem dec_small{u:Nat}(h:u<10):decDigits u=[chr u]:=by rw[decDigits,dif_pos h];rfl
theorem dec_big{u:Nat}(h:¬u<10):decDigits u=decDigits (u/10)++[chr (u%10)]:=by rw[decDigits,dif_neg h];rfl
def padk:Nat->Nat->List UInt8
  |0,_=>[]
  |k+1,r=>padk k (r/10)++[chr (r%10)]
theorem padk_zero:∀k,padk k 0=List.replicate k 48
  |0=>rfl
  | k+1=>by
    rw[padk,Nat.zero_div,padk_zero k,List.replicate_succ'];rfl
theorem pow10_div(m k:Nat):m/10^(k+1)=m/10/10^k:=by rw[Nat.pow_succ,Nat.mul_comm,Nat.div_div_eq_div_mul]
theorem pow10_mod_div(m k:Nat):m%10^(k+1)/10=m/10%10^k:=by
  rw[Nat.pow_succ,Nat.mul_comm,Nat.mod_mul_right_div_self]
theorem pow10_mod_mod(m k:Nat):m%10^(k+1)%10=m%10:=by
  rw[Nat.pow_succ,Nat.mod_mod_of_dvd _ (Nat.dvd_mul_left 10 (10^k))]
theorem dec_split:∀(k m:Nat),m/10^k≠0->decDigits m=decDigits (m/10^k)++padk k (m%10^k)
  |0,m,_=>by rw[padk];simp
  | k+1,m,h=>by
    rw[pow10_div]at h⊢;have hm:¬m<10:=fun hlt=>h (by rw[Nat.div_eq_of_lt hlt,Nat.zero_div])
    rw[dec_big hm,dec_split k (m/10) h,padk,pow10_mod_div,pow10_mod_mod,List.append_assoc]
theorem pad_eq:∀(k r:Nat),1<=k->r<10^k->(decDigits r).length<=k/\padk k r=List.replicate (k-(decDigits r).length) 48++decDigits r
  | k +1,r,_,h=>by
    by_cases hr:r<10
    . rw[dec_small hr];refine⟨by simp,?_⟩;rw[padk,Nat.div_eq_of_lt hr,padk_zero,Nat.mod_eq_of_lt hr];simp
    have hk:1<=k:=by
      rcases k with _|k
      . simp at h;omega
      omega
    have ih:=pad_eq k (r/10) hk (Nat.div_lt_of_lt_mul (by rw[Nat.pow_succ,Nat.mul_comm]at h;exact h));rw[dec_big hr,List.length_append];refine⟨by simp;exact ih.1,?_⟩;rw[padk,ih.2,List.append_assoc]
    congr 2
    simp
theorem repeat_zero:∀n,repeatL [48] n=List.replicate n 48
  |0=>rfl
  |n+1=>by rw[repeatL,repeat_zero n];rfl
theorem dec_ne(n:Nat):decDigits n≠[]:=by
  by_cases h:n<10
  . rw[dec_small h];simp
  rw[dec_big h];simp
def valT(l:List UInt8):Nat:=l.foldl (fun a c=>a*10+(c.toNat-48)) 0
theorem valT_snoc(l:List UInt8)(c:UInt8):valT (l++[c])=valT l*10+(c.toNat-48):=by unfold valT;rw[List.foldl_append];rfl
theorem chr_nat{d:Nat}(h:d<10):(chr d).toNat=48+d:=by unfold chr;rw[UInt8.toNat_ofNat'];omega
theorem valT_dec(n:Nat):valT (decDigits n)=n:=by
  induction n using Nat.strongRecOn with
  | ind n ih=>
    by_cases h:n<10
    . rw[dec_small h]
      show 0*10+((chr n).toNat-48)=n
      rw[chr_nat h];omega
    rw[dec_big h,valT_snoc,ih (n/10) (by omega),chr_nat (by omega)];omega
def isDig(c:UInt8):Bool:=decide (48<=c.toNat/\c.toNat<=57)
theorem isDig_chr{d:Nat}(h:d<10):isDig (chr d)=true:=by unfold isDig;rw[chr_nat h];simp;omega
theorem dec_digs(n:Nat):∀c∈decDigits n,isDig c=true:=by
  induction n using Nat.strongRecOn with
  | ind n ih=>
    by_cases h:n<10
    . rw[dec_small h];intro c hc;simp only[List.mem_cons,List.not_mem_nil,or_false]at hc;rw[hc];exact isDig_chr h
    rw[dec_big h];intro c hc
    rcases List.mem_append.1 hc with h1|h1
    . exact ih _ (by omega) c h1
    simp only[List.mem_cons,List.not_mem_nil,or_false]at h1;rw[h1];exact isDig_chr (by omega)
theorem valT_append(l m:List UInt8):valT (l++m)=valT l*10^m.length+valT m:=by
  suffices h:∀n (m:List UInt8),m.length=n->valT (l++m)=valT l*10^m.length+valT m from h _ m rfl
  intro n
  induction n with
  |zero=>intro m hm;rw[List.eq_nil_of_length_eq_zero hm];simp[valT]
  | succ n ih=>
    intro m hm;have hn:m≠[]:=fun e=>by subst e;cases hm
    obtain⟨m',c,rfl⟩:∃m' c,m=m'++[c]:=⟨m.dropLast,m.getLast hn,(List.dropLast_concat_getLast hn).symm⟩;rw[<-List.append_assoc,valT_snoc,valT_snoc,ih m' (by simpa using hm),List.length_append,List.length_singleton,Nat.pow_succ, <-Nat.mul_assoc];rw[Nat.add_mul];omega
end Go.Proofs.YtjhaedfpigebdaaGreatDoor
namespace Go.Proofs.YtjhaedfpigebdaaGreatDoor
def sgn(s:Bool)(n:Nat):Int:=if s then-(n:Int)else n
def ofS(s:Bool)(n d:Nat):Rat:=mkRat (sgn s n) d
def isN(x:Rat):Bool:=decide (x.num<0)
theorem sgn_abs(s:Bool)(n:Nat):(sgn s n).natAbs=n:=by unfold sgn;split<;>simp
theorem sgn_neg(s:Bool)(n:Nat):sgn (!s) n= -sgn s n:=by unfold sgn;cases s<;>simp
theorem sgn_mul(s t:Bool)(n m:Nat):sgn s n*sgn t m=sgn (s !=t) (n*m):=by
  unfold sgn;cases s<;>cases t<;>simp[Int.neg_mul,Int.mul_neg]
theorem sgn_mulr(s:Bool)(n m:Nat):sgn s n*(m:Int)=sgn s (n*m):=by
  unfold sgn;cases s<;>simp[Int.neg_mul]
theorem sgn_add(s:Bool)(n m:Nat):sgn s n+sgn s m=sgn s (n+m):=by unfold sgn;cases s<;>simp<;>omega
theorem sgn_sub(s:Bool){n m:Nat}(h:m<=n):sgn s n+sgn (!s) m=sgn s (n-m):=by unfold sgn;cases s<;>simp<;>omega
theorem sgn_of(z:Int):sgn (decide (z<0)) z.natAbs=z:=by unfold sgn;split<;>rename_i h<;>simp at h<;>omega
theorem ofS_self(x:Rat):ofS (isN x) x.num.natAbs x.den=x:=by unfold ofS isN;rw[sgn_of,Rat.mkRat_self]
theorem ofS_zero(s:Bool)(d:Nat):ofS s 0 d=0:=by unfold ofS sgn;cases s<;>simp
theorem ofS_mul(s t:Bool)(n m d e:Nat):ofS s n d*ofS t m e=ofS (s !=t) (n*m) (d*e):=by
  unfold ofS;rw[Rat.mkRat_mul_mkRat,sgn_mul]
theorem ofS_neg(s:Bool)(n d:Nat): -ofS s n d=ofS (!s) n d:=by unfold ofS;rw[Rat.neg_mkRat,sgn_neg]
theorem ofS_num(s:Bool)(n:Nat){d:Nat}(hd:d≠0):(ofS s n d).num.natAbs=n/Nat.gcd n d:=by
  unfold ofS;rw[Rat.num_mkRat,if_neg hd,sgn_abs,Int.natAbs_ediv_of_dvd,sgn_abs,Int.natAbs_natCast,Nat.gcd_comm];rw[Int.ofNat_dvd_left,sgn_abs];exact Nat.gcd_dvd_right _ _
theorem ofS_den(s:Bool)(n:Nat){d:Nat}(hd:d≠0):(ofS s n d).den=d/Nat.gcd n d:=by
  unfold ofS;rw[Rat.den_mkRat,if_neg hd,sgn_abs,Nat.gcd_comm]
theorem ofS_isN(s:Bool)(n:Nat){d:Nat}(hd:d≠0):isN (ofS s n d)=(s&&decide (n≠0)):=by
  unfold isN;have hg:0<Nat.gcd d n:=Nat.gcd_pos_of_pos_left _ (Nat.pos_of_ne_zero hd);have e:(ofS s n d).num=sgn s n/(Nat.gcd d n:Int):=by unfold ofS;rw[Rat.num_mkRat,if_neg hd,sgn_abs]
  have hdv:((Nat.gcd d n:Nat):Int)∣sgn s n:=by rw[Int.ofNat_dvd_left,sgn_abs];exact Nat.gcd_dvd_right _ _
  obtain⟨k,hk⟩:=hdv;rw[e,hk,Int.mul_ediv_cancel_left _ (by omega)];have hgi:(0:Int)<(Nat.gcd d n:Int):=by omega
  have h1:k<0↔sgn s n<0:=by
    rw[hk];constructor
    . intro h;exact Int.mul_neg_of_pos_of_neg hgi h
    intro h;refine Int.lt_of_not_ge fun h2=>?_
    have:=Int.mul_nonneg (Int.le_of_lt hgi) h2;omega
  have h3:decide (k<0)=decide (sgn s n<0):=by simp only[h1]
  rw[h3];unfold sgn
  cases s
  . simp
  simp only[if_true,Bool.true_and]
  by_cases h0:n=0
  . subst h0;simp
  rw[decide_eq_true (by omega),decide_eq_true h0]
theorem ofS_div(s:Bool)(n:Nat){d:Nat}(hd:d≠0):ofS s (n/Nat.gcd n d) (d/Nat.gcd n d)=ofS s n d:=by
  have hg:Nat.gcd n d≠0:=fun h=>hd (Nat.eq_zero_of_gcd_eq_zero_right h)
  obtain⟨a,ha⟩:=Nat.gcd_dvd_left n d;obtain⟨b,hb⟩:=Nat.gcd_dvd_right n d;generalize Nat.gcd n d=g at*;subst ha hb;rw[Nat.mul_div_cancel_left _ (Nat.pos_of_ne_zero hg),Nat.mul_div_cancel_left _ (Nat.pos_of_ne_zero hg)];unfold ofS;have:sgn s (g*a)=(g:Int)*sgn s a:=by unfold sgn;cases s<;>simp[Int.mul_neg]
  rw[this,Rat.mkRat_mul_left hg]
theorem natAbs_zero(x:Rat):x.num.natAbs=0↔x=0:=by rw[Int.natAbs_eq_zero,Rat.num_eq_zero]
theorem isN_iff(x:Rat):isN x=true↔x<0:=by
  unfold isN;rw[decide_eq_true_eq,Rat.lt_iff];simp
theorem den_pos(x:Rat):0<x.den:=Nat.pos_of_ne_zero x.den_nz
theorem ofS_ne{s:Bool}{n d:Nat}(hn:n≠0)(hd:d≠0):ofS s n d≠0:=by
  unfold ofS;rw[Rat.mkRat_ne_zero hd];intro h;have:=congrArg Int.natAbs h;rw[sgn_abs]at this;exact hn this
theorem ofS_inv(s:Bool){n d:Nat}(hn:n≠0)(hd:d≠0):(ofS s n d)⁻¹=ofS s d n:=by
  have h:ofS s n d*ofS s d n=1:=by
    rw[ofS_mul];simp only[bne_self_eq_false];unfold ofS sgn;rw[Nat.mul_comm d n];have hnd:n*d≠0:=Nat.mul_ne_zero hn hd;have h1:(1:Rat)=mkRat 1 1:=rfl;rw[if_neg (by simp),h1,Rat.mkRat_eq_iff hnd (by decide)];simp
  have h0:=ofS_ne (s:=s) hn hd;have h2:=Rat.inv_mul_cancel _ h0
  calc (ofS s n d)⁻¹=(ofS s n d)⁻¹*(ofS s n d*ofS s d n):=by rw[h,Rat.mul_one]
    _=ofS s d n:=by rw[<-Rat.mul_assoc,h2,Rat.one_mul]
theorem ofS_quo(s t:Bool){n m d e:Nat}(hm:m≠0)(he:e≠0):ofS s n d/ofS t m e=ofS (s !=t) (n*e) (d*m):=by
  rw[Rat.div_def,ofS_inv t hm he,ofS_mul]
end Go.Proofs.YtjhaedfpigebdaaGreatDoor
namespace Go.Proofs.YtjhaedfpigebdaaGreatDoor
def one0(z:Nat):Nat:=if z=0 then 1 else z
def den0(x:Rat):Nat:=if x.den=1 then 0 else x.den
theorem one0_den0(x:Rat):one0 (den0 x)=x.den:=by
  have:=den_pos x;unfold one0 den0;split<;>split<;>omega
theorem den0_zero(x:Rat):den0 x=0↔x.den=1:=by
  have:=den_pos x;unfold den0;split<;>omega
def sgQ(x:Rat):Int:=if x.num.natAbs=0 then 0 else if isN x then-1 else 1
theorem sgQ_zero{x:Rat}:sgQ x=0↔x=0:=by
  unfold sgQ;constructor
  . intro h;split at h
    . rename_i h0;exact(natAbs_zero x).1 h0
    split at h<;>cases h
  intro h;rw[if_pos ((natAbs_zero x).2 h)]
theorem isN_false{x:Rat}:isN x=false↔0<=x:=by
  rw[<-Bool.not_eq_true,isN_iff,Rat.not_lt]
theorem sgQ_neg{x:Rat}:sgQ x= -1↔x<0:=by
  unfold sgQ;constructor
  . intro h;split at h
    . cases h
    split at h
    . rename_i h1;exact(isN_iff x).1 h1
    cases h
  intro h;rw[if_neg (fun h0=>by rw[(natAbs_zero x).1 h0]at h;exact absurd h (by decide)),if_pos ((isN_iff x).2 h)]
theorem sgQ_pos{x:Rat}:sgQ x=1↔0<x:=by
  unfold sgQ;constructor
  . intro h;split at h
    . cases h
    rename_i h0
    split at h
    . cases h
    rename_i h1
    have h2:=isN_false.1 (by simpa using h1);have h3:x≠0:=fun e=>h0 ((natAbs_zero x).2 e)
    grind
  intro h;rw[if_neg (fun h0=>by rw[(natAbs_zero x).1 h0]at h;exact absurd h (by decide)),if_neg (fun h1=>by have:=(isN_iff x).1 h1;grind)]
theorem sgQ_range(x:Rat):sgQ x=0\/sgQ x= -1\/sgQ x=1:=by
  unfold sgQ;split
  . exact .inl rfl
  split
  . exact .inr (.inl rfl)
  exact .inr (.inr rfl)
theorem add_of{x y:Rat}{s:Bool}{n:Nat}(h:sgn s n=sgn (isN x) (x.num.natAbs*y.den)+sgn (isN y) (y.num.natAbs*x.den)):ofS s n (x.den*y.den)=x+y:=by
  have hx:=ofS_self x;have hy:=ofS_self y;unfold ofS at*
  conv=>rhs;rw[<-hx, <-hy]
  rw[Rat.mkRat_add_mkRat _ _ x.den_nz y.den_nz,sgn_mulr,sgn_mulr,h]
theorem mul_of(x y:Rat):ofS (isN x !=isN y) (x.num.natAbs*y.num.natAbs) (x.den*y.den)=x*y:=by
  rw[<-ofS_mul,ofS_self,ofS_self]
theorem div_of(x:Rat){y:Rat}(hy:y≠0):ofS (isN x !=isN y) (x.num.natAbs*y.den) (y.num.natAbs*x.den)=x/y:=by
  rw[Nat.mul_comm y.num.natAbs, <-ofS_quo _ _ (fun h=>hy ((natAbs_zero y).1 h)) y.den_nz,ofS_self,ofS_self]
theorem neg_num(x:Rat):(-x).num.natAbs=x.num.natAbs:=by rw[Rat.neg_num,Int.natAbs_neg]
theorem neg_den0(x:Rat):den0 (-x)=den0 x:=by unfold den0;rw[Rat.neg_den]
theorem neg_isN{x:Rat}(h:x≠0):isN (-x)= !isN x:=by
  have h0:x.num≠0:=fun e=>h ((Rat.num_eq_zero).1 e)
  unfold isN;rw[Rat.neg_num]
  by_cases h1:x.num<0
  . rw[decide_eq_true h1,decide_eq_false (by omega)];rfl
  rw[decide_eq_false h1,decide_eq_true (by omega)];rfl
theorem cmp_cross{x y:Rat}(hs:isN x=isN y):sgQ (x-y)=(if isN x then-1 else 1)*(if x.num.natAbs*y.den<y.num.natAbs*x.den then-1 else if x.num.natAbs*y.den=y.num.natAbs*x.den then 0 else 1):=by
  have hd:x.den*y.den≠0:=Nat.mul_ne_zero x.den_nz y.den_nz
  have key:∀s n,sgn s n=sgn (isN x) (x.num.natAbs*y.den)+ -sgn (isN y) (y.num.natAbs*x.den)->ofS s n (x.den*y.den)=x-y:=by
    intro s n h;have hx:=ofS_self x;have hy:=ofS_self y;unfold ofS at*
    conv=>rhs;rw[<-hx, <-hy]
    rw[Rat.sub_eq_add_neg,Rat.neg_mkRat,Rat.mkRat_add_mkRat _ _ x.den_nz y.den_nz,sgn_mulr,Int.neg_mul,sgn_mulr,h]
  rw[<-hs]at key;generalize x.num.natAbs*y.den=a at*;generalize y.num.natAbs*x.den=b at*
  have sg:∀s n,sgQ (ofS s n (x.den*y.den))=if n=0 then 0 else if s then-1 else 1:=by
    intro s n
    by_cases h0:n=0
    . subst h0;rw[if_pos rfl,ofS_zero];exact sgQ_zero.2 rfl
    rw[if_neg h0];have h1:=ofS_ne (s:=s) h0 hd;have h2:=ofS_isN s n hd;unfold sgQ;rw[if_neg (fun h=>h1 ((natAbs_zero _).1 h)),h2,decide_eq_true h0,Bool.and_true]
  rcases Nat.lt_trichotomy a b with h|h|h
  . rw[if_pos h, <-key (!isN x) (b-a) (by unfold sgn;cases isN x<;>simp<;>omega),sg,if_neg (by omega)]
    cases isN x<;>rfl
  . subst h;rw[if_neg (Nat.lt_irrefl _),if_pos rfl, <-key false 0 (by unfold sgn;cases isN x<;>simp<;>omega),sg,if_pos rfl];simp
  rw[if_neg (show ¬a<b by omega),if_neg (show ¬a=b by omega), <-key (isN x) (a-b) (by unfold sgn;cases isN x<;>simp<;>omega),sg,if_neg (show ¬a-b=0 by omega)]
  cases isN x<;>rfl
theorem cmp_signs_lt{x y:Rat}(h:sgQ x<sgQ y):sgQ (x-y)= -1:=by
  rw[sgQ_neg]
  rcases sgQ_range x with hx|hx|hx<;>rcases sgQ_range y with hy|hy|hy<;>rw[hx,hy]at h<;>(try omega)<;>
    simp only[sgQ_zero,sgQ_neg,sgQ_pos]at hx hy<;>grind
theorem cmp_signs_gt{x y:Rat}(h:sgQ y<sgQ x):sgQ (x-y)=1:=by
  rw[sgQ_pos]
  rcases sgQ_range x with hx|hx|hx<;>rcases sgQ_range y with hy|hy|hy<;>rw[hx,hy]at h<;>(try omega)<;>
    simp only[sgQ_zero,sgQ_neg,sgQ_pos]at hx hy<;>grind
theorem ofS_one(s:Bool)(n:Nat):ofS s n 1=((sgn s n:Int):Rat):=by
  unfold ofS;rw[Rat.mkRat_one]
end Go.Proofs.YtjhaedfpigebdaaGreatDoor
namespace Go.Proofs.YtjhaedfpigebdaaGreatDoor
open Go.Lib (decDigits)
def textQ(x:Rat):List UInt8:=(if isN x then[45]else[])++(decDigits x.num.natAbs++(if x.den=1 then[]else 47::decDigits x.den))
def cutA:List UInt8->List UInt8
  |[]=>[]
  |c::l=>if c=47 then[]else c::cutA l
def cutB:List UInt8->Option (List UInt8)
  |[]=>none
  |c::l=>if c=47 then some l else cutB l
def noMinus:List UInt8->List UInt8
  |[]=>[]
  |c::l=>if c=45 then l else c::l
def isMinus(l:List UInt8):Bool:=l.head?==some 45
theorem cut_none:∀{l:List UInt8},(∀c∈l,c≠47)->cutA l=l/\cutB l=none
  |[],_=>⟨rfl,rfl⟩
  | c::l,h=>by
    have h1:=cut_none (l:=l) fun d hd=>h d (List.mem_cons_of_mem _ hd)
    have h2:=h c (List.mem_cons_self);unfold cutA cutB;rw[if_neg h2,if_neg h2,h1.1,h1.2];exact⟨rfl,rfl⟩
theorem cut_at:∀{l m:List UInt8},(∀c∈l,c≠47)->cutA (l++47::m)=l/\cutB (l++47::m)=some m
  |[],m,_=>by simp[cutA,cutB]
  | c::l,m,h=>by
    have h1:=cut_at (l:=l) (m:=m) fun d hd=>h d (List.mem_cons_of_mem _ hd)
    have h2:=h c (List.mem_cons_self);rw[List.cons_append];unfold cutA cutB;rw[if_neg h2,if_neg h2,h1.1,h1.2];exact⟨rfl,rfl⟩
theorem dig_no{c:UInt8}(h:isDig c=true):c≠47/\c≠45:=by
  unfold isDig at h;simp only[decide_eq_true_eq]at h;constructor<;>(intro e;subst e;simp at h)
theorem dec_no47(n:Nat):∀c∈decDigits n,c≠47:=fun c hc=>(dig_no (dec_digs n c hc)).1
theorem text_minus(x:Rat):isMinus (textQ x)=isN x/\noMinus (textQ x)=decDigits x.num.natAbs++(if x.den=1 then[]else 47::decDigits x.den):=by
  unfold textQ
  cases isN x
  . simp only[Bool.false_eq_true,if_false,List.nil_append];have hn:=dec_ne x.num.natAbs;have hd:=dec_digs x.num.natAbs
    cases hx:decDigits x.num.natAbs with
    |nil=>exact absurd hx hn
    | cons c l=>
      rw[hx]at hd;have hc:=(dig_no (hd c (List.mem_cons_self))).2;refine⟨?_,?_⟩
      . rw[isMinus,List.cons_append,List.head?_cons]
        simpa using hc
      rw[List.cons_append,noMinus,if_neg hc]
  exact⟨rfl,rfl⟩
theorem text_cut(x:Rat):cutA (noMinus (textQ x))=decDigits x.num.natAbs/\cutB (noMinus (textQ x))=(if x.den=1 then none else some (decDigits x.den)):=by
  rw[(text_minus x).2]
  by_cases h:x.den=1
  . rw[if_pos h,if_pos h,List.append_nil];exact cut_none (dec_no47 _)
  rw[if_neg h,if_neg h];exact cut_at (dec_no47 _)
def secQ(l:List UInt8):List UInt8:=(cutB (noMinus l)).getD [49]
def firQ(l:List UInt8):List UInt8:=cutA (noMinus l)
theorem sec_text(x:Rat):secQ (textQ x)=decDigits x.den:=by
  unfold secQ;rw[(text_cut x).2]
  by_cases h:x.den=1
  . rw[if_pos h,h,dec_small (by omega)];rfl
  rw[if_neg h];rfl
theorem fir_text(x:Rat):firQ (textQ x)=decDigits x.num.natAbs:=(text_cut x).1
theorem cutA_len:∀l:List UInt8,(cutA l).length<=l.length
  |[]=>Nat.le_refl _
  | c::l=>by
    have:=cutA_len l;unfold cutA;split
    . simp
    simp;omega
theorem cutB_len:∀(l m:List UInt8),cutB l=some m->m.length<=l.length
  |[],m,h=>by cases h
  | c::l,m,h=>by
    unfold cutB at h
    split at h
    . cases h;simp
    have:=cutB_len l m h;simp;omega
theorem noMinus_len(l:List UInt8):(noMinus l).length<=l.length:=by
  unfold noMinus;split
  . exact Nat.le_refl _
  split
  . simp
  exact Nat.le_refl _
end Go.Proofs.YtjhaedfpigebdaaGreatDoor
namespace Go.Proofs.YtjhaedfpigebdaaGreatDoor
theorem hid{p:Prop}(h:p):RowKit.Hid p:=h
section
variable {P:Program}{P0:World->Prop}{ops:Array Oper}{md:Region.Mode}
def Does(P:Program)(R:Value->World->Prop):Result Next->Prop
  | .ok (.value u) w'=>R u w'
  | .ok .skip w'=>R undef w'
  | .ok (.enter f args) w'=>Calls P f args w' (fun e w''=> ∃v,e=.returned v/\R v w'')
  |_=>False
theorem Does.mono{R R':Value->World->Prop}(h:∀v w,R v w->R' v w){r:Result Next}(hd:Does P R r):Does P R' r:=by
  cases r with
  | ok n w=>
    cases n with
    |value u=>exact h _ _ hd
    |skip=>exact h _ _ hd
    |enter f args=>exact Calls.mono hd fun _ _ ⟨v,he,hr⟩=>⟨v,he,h _ _ hr⟩
    |_=>exact False.elim hd
  |halt x w=>exact False.elim hd
theorem Does.upon{R:Value->World->Prop}{a:Act}{o:Oper}{K:Act->World->Prop}{Q:Exit->Act->World->Prop}(h:∀v w,R v w->K (a.put o.dst v) w)
    {r:Result Next} (hd:Does P R r):o.upon P a K Q r:=by
  cases r with
  | ok n w=>
    cases n with
    |value u=>exact h _ _ hd
    |skip=>exact h _ _ hd
    |enter f args=>exact Calls.mono hd fun _ _ ⟨v,he,hr⟩=>by subst he;exact h _ _ hr
    |_=>exact False.elim hd
  |halt x w=>exact False.elim hd
def Flt(v:Value)(w:World):Result Next->Prop
  | .ok (.value u) w'=>u=v/\w'=w
  | .ok .skip w'=>v=undef/\w'=w
  |_=>False
theorem Flt.does{v:Value}{w:World}{R:Value->World->Prop}(h:R v w){r:Result Next}(hd:Flt v w r):Does P R r:=by
  cases r with
  | ok n w=>
    cases n with
    |value u=>obtain⟨e1,e2⟩:=hd;subst e1;subst e2;exact h
    |skip=>obtain⟨e1,e2⟩:=hd;subst e1;subst e2;exact h
    |_=>exact False.elim hd
  |halt x w=>exact False.elim hd
theorem Flt.uniq{v u:Value}{w:World}{r:Result Next}(hd:Flt v w r)(he:Flt u w r):v=u:=by
  cases r with
  | ok n w=>
    cases n with
    |value u=>exact hd.1.symm.trans he.1
    |skip=>exact hd.1.trans he.1.symm
    |_=>exact False.elim hd
  |halt x w=>exact False.elim hd
def sStep(P:Program)(P0:World->Prop)(ops:Array Oper)(k:Nat)(o:Oper)(S:World->Prop)(a:Act)(K:(World->Prop)->Act->Prop):Prop:=
  if Region.wanted o (yielded ops a.tmps)=true then
    match k with
    |0=> ∃v,(∀w,P0 w->Flt v w ((execOp a.eval o).run P w))/\K S (a.put o.dst v)
    |1=> ∃v,(∀w,S w->Does P (fun u w'=>u=v/\S w') ((execOp a.eval o).run P w))/\K S (a.put o.dst v)
    |_=> ∃(α:Type) (_:Nonempty α) (f:α->Value) (S':α->World->Prop),((∀x w,S' x w->P0 w)/\ ∀w,S w->Does P (fun v w'=> ∃x,v=f x/\S' x w') ((execOp a.eval o).run P w))/\ ∀x,K (S' x) (a.put o.dst (f x))
  else K S (a.put o.dst undef)
theorem sStep.mono{k:Nat}{o:Oper}{S:World->Prop}{a:Act}{K K':(World->Prop)->Act->Prop}(h:∀S a,K S a->K' S a)(hs:sStep P P0 ops k o S a K):sStep P P0 ops k o S a K':=by
  unfold sStep at*
  split
  . rename_i hw
    rw[if_pos hw]at hs
    rcases k with _|_|k
    . obtain⟨v,h1,h2⟩:=hs;exact⟨v,h1,h _ _ h2⟩
    . obtain⟨v,h1,h2⟩:=hs;exact⟨v,h1,h _ _ h2⟩
    obtain⟨α,hα,f,S',h1,h2⟩:=hs;exact⟨α,hα,f,S',h1,fun x=>h _ _ (h2 x)⟩
  rename_i hw
  rw[if_neg hw]at hs;exact h _ _ hs
def wpLex(P:Program)(P0:World->Prop)(ops:Array Oper)(Q:Act->World->Prop):List Nat->List Oper->(World->Prop)->Act->Prop
  |_,[],S,a=> ∀w,S w->Q a w
  |[],_::_,_,_=>False
  |k::ks,o::rest,S,a=>sStep P P0 ops k o S a (wpLex P P0 ops Q ks rest)
theorem wpLex_nil{Q:Act->World->Prop}{ks:List Nat}{S:World->Prop}{a:Act}(h:∀w,S w->Q a w):wpLex P P0 ops Q ks [] S a:=by
  cases ks<;>exact h
theorem wpLex_float{Q:Act->World->Prop}{ks:List Nat}{o:Oper}{rest:List Oper}{S:World->Prop}{a:Act}{v:Value}(hg:Region.wanted o (yielded ops a.tmps)=true)
    (h1:∀w,P0 w->Flt v w ((execOp a.eval o).run P w)) (h:wpLex P P0 ops Q ks rest S (a.put o.dst v)):wpLex P P0 ops Q (0::ks) (o::rest) S a:=by
  show sStep P P0 ops 0 o S a _
  unfold sStep;rw[if_pos hg];exact⟨v,h1,h⟩
theorem wpLex_held{Q:Act->World->Prop}{ks:List Nat}{o:Oper}{rest:List Oper}{S:World->Prop}{a:Act}{v:Value}(hg:Region.wanted o (yielded ops a.tmps)=true)
    (h1:∀w,S w->Does P (fun u w'=>u=v/\S w') ((execOp a.eval o).run P w)) (h:wpLex P P0 ops Q ks rest S (a.put o.dst v)):wpLex P P0 ops Q (1::ks) (o::rest) S a:=by
  show sStep P P0 ops 1 o S a _
  unfold sStep;rw[if_pos hg];exact⟨v,h1,h⟩
theorem wpLex_eff{Q:Act->World->Prop}{ks:List Nat}{o:Oper}{rest:List Oper}{S:World->Prop}{a:Act}{α:Type}[hα:Nonempty α](f:α->Value)(S':α->World->Prop)(hP:∀x w,S' x w->P0 w)(hg:Region.wanted o (yielded ops a.tmps)=true)
    (h1:∀w,S w->Does P (fun v w'=> ∃x,v=f x/\S' x w') ((execOp a.eval o).run P w)) (h:∀x,wpLex P P0 ops Q ks rest (S' x) (a.put o.dst (f x))):wpLex P P0 ops Q (2::ks) (o::rest) S a:=by
  show sStep P P0 ops 2 o S a _
  unfold sStep;rw[if_pos hg];exact⟨α,hα,f,S',⟨hP,h1⟩,h⟩
theorem wpLex_not{Q:Act->World->Prop}{k:Nat}{ks:List Nat}{o:Oper}{rest:List Oper}{S:World->Prop}{a:Act}(hg:Region.wanted o (yielded ops a.tmps)=false)
    (h:wpLex P P0 ops Q ks rest S (a.put o.dst undef)):wpLex P P0 ops Q (k::ks) (o::rest) S a:=by
  show sStep P P0 ops k o S a _
  unfold sStep;rw[if_neg (by simp[hg])];exact h
def slotOf:List Value->Nat->Value
  |[],_=>undef
  |x::_,0=>x
  |_::l,n+1=>slotOf l n
theorem slotOf_bool{c:Bool}:∀{l:List Value} {n:Nat},slotOf l n=.bool c->l[n]?=some (.bool c)
  |[],_,h=>by cases h
  |x::_,0,h=>by simpa[slotOf]using h
  |_::l,n+1,h=>by simpa using slotOf_bool (l:=l) h
theorem wanted_none{o:Oper}{a:Act}(hg:o.guard=none):Region.wanted o (yielded ops a.tmps)=true:=by
  unfold Region.wanted;rw[hg]
theorem wanted_some{o:Oper}{a:Act}{j d:Nat}{b c:Bool}(hg:o.guard=some (j,b))(hd:(ops[j]?).bind (·.dst)=some d)(hv:slotOf a.tmps.toList d=.bool c):
    Region.wanted o (yielded ops a.tmps)=(c==b):=by
  have h1:a.tmps[d]?=some (.bool c):=by rw[<-Array.getElem?_toList];exact slotOf_bool hv
  unfold Region.wanted yielded;rw[hg];dsimp only;rw[hd];simp only[Option.bind_some,h1]
  cases c<;>cases b<;>rfl
structure Lex(P:Program)(P0:World->Prop)(ops:Array Oper)(Q:Act->World->Prop)(ks:List Nat)(l:List Oper)(S:World->Prop)(a:Act):Prop where
  out:wpLex P P0 ops Q ks l S a
section
variable {Q:Act->World->Prop}{ks:List Nat}{o:Oper}{rest:List Oper}{S:World->Prop}{a:Act}{v:Value}
theorem lexP(hg:o.guard=none)(h1:∀w,P0 w->Flt v w ((execOp a.eval o).run P w))(h:Lex P P0 ops Q ks rest S (a.put o.dst v)):Lex P P0 ops Q (0::ks) (o::rest) S a:=
  ⟨wpLex_float (wanted_none hg) h1 h.out⟩
theorem lexF(hg:o.guard=none)(h1:∀w,Flt v w ((execOp a.eval o).run P w))(h:Lex P P0 ops Q ks rest S (a.put o.dst v)):Lex P P0 ops Q (0::ks) (o::rest) S a:=
  ⟨wpLex_float (wanted_none hg) (fun w _=>h1 w) h.out⟩
theorem lexH(hg:o.guard=none)(h1:∀w,S w->Does P (fun u w'=>u=v/\S w') ((execOp a.eval o).run P w))(h:Lex P P0 ops Q ks rest S (a.put o.dst v)):Lex P P0 ops Q (1::ks) (o::rest) S a:=
  ⟨wpLex_held (wanted_none hg) h1 h.out⟩
theorem lexE{α:Type}[Nonempty α](f:α->Value)(S':α->World->Prop)(hg:o.guard=none)(h1:∀w,S w->Does P (fun v w'=> ∃x,v=f x/\S' x w') ((execOp a.eval o).run P w))(h:∀x,Lex P P0 ops Q ks rest (S' x) (a.put o.dst (f x))) (hP:∀x w,S' x w->P0 w:=by intros;trivial):Lex P P0 ops Q (2::ks) (o::rest) S a:=
  ⟨wpLex_eff f S' hP (wanted_none hg) h1 fun v=>(h v).out⟩
theorem lexS(S':World->Prop)(hg:o.guard=none)(h1:∀w,S w->Does P (fun v w'=>v=undef/\S' w') ((execOp a.eval o).run P w))(h:Lex P P0 ops Q ks rest S' (a.put o.dst undef)) (hP:∀w,S' w->P0 w:=by intros;trivial):Lex P P0 ops Q (2::ks) (o::rest) S a:=
  lexE (α:=Unit) (fun _=>undef) (fun _=>S') hg (fun w hw=>(h1 w hw).mono fun _ _ ⟨e,hs⟩=>⟨(),e,hs⟩) (fun _=>h) (fun _=>hP)
theorem lexFg{j d:Nat}{b c:Bool}(hg:o.guard=some (j,b))(hd:(ops[j]?).bind (·.dst)=some d)(hv:slotOf a.tmps.toList d=.bool c)(hc:(c==b)=true)
    (h1:∀w,Flt v w ((execOp a.eval o).run P w)) (h:Lex P P0 ops Q ks rest S (a.put o.dst v)):Lex P P0 ops Q (0::ks) (o::rest) S a:=
  ⟨wpLex_float ((wanted_some hg hd hv).trans hc) (fun w _=>h1 w) h.out⟩
theorem lexHg{j d:Nat}{b c:Bool}(hg:o.guard=some (j,b))(hd:(ops[j]?).bind (·.dst)=some d)(hv:slotOf a.tmps.toList d=.bool c)(hc:(c==b)=true)
    (h1:∀w,S w->Does P (fun u w'=>u=v/\S w') ((execOp a.eval o).run P w)) (h:Lex P P0 ops Q ks rest S (a.put o.dst v)):Lex P P0 ops Q (1::ks) (o::rest) S a:=
  ⟨wpLex_held ((wanted_some hg hd hv).trans hc) h1 h.out⟩
theorem lexN{k j d:Nat}{b c:Bool}(hg:o.guard=some (j,b))(hd:(ops[j]?).bind (·.dst)=some d)(hv:slotOf a.tmps.toList d=.bool c)(hc:(c==b)=false)
    (h:Lex P P0 ops Q ks rest S (a.put o.dst undef)):Lex P P0 ops Q (k::ks) (o::rest) S a:=
  ⟨wpLex_not ((wanted_some hg hd hv).trans hc) h.out⟩
theorem lexN'{k j d:Nat}{b:Bool}(hg:o.guard=some (j,b))(hd:(ops[j]?).bind (·.dst)=some d)(hv:slotOf a.tmps.toList d=undef)
    (h:Lex P P0 ops Q ks rest S (a.put o.dst undef)):Lex P P0 ops Q (k::ks) (o::rest) S a:=by
  refine⟨wpLex_not ?_ h.out⟩
  have h1:yielded ops a.tmps j=none:=by
    unfold yielded;rw[hd]
    have h2:∀(l:List Value) (n:Nat),slotOf l n=undef->l[n]?=some undef\/l[n]?=none:=fun l=>by
      induction l with
      |nil=>intro n _;exact .inr (by simp)
      | cons x l ih=>
        intro n h
        cases n with
        |zero=>exact .inl (by simpa[slotOf]using h)
        |succ n=>simpa using ih n h
    simp only[Option.bind_some]
    rcases h2 _ _ hv with h3|h3
    . rw[<-Array.getElem?_toList,h3];rfl
    rw[<-Array.getElem?_toList,h3]
  unfold Region.wanted;rw[hg];dsimp only;rw[h1];rfl
theorem lexEnd(h:∀w,S w->Q a w):Lex P P0 ops Q ks [] S a:=⟨wpLex_nil h⟩
end
def sOp(P:Program)(P0:World->Prop)(ops:Array Oper)(kd:Nat->Nat)(i:Nat)(S:World->Prop)(a:Act)(K:(World->Prop)->Act->Prop):Prop:=
  match ops[i]? with
  |none=>K S a
  |some o=>sStep P P0 ops (kd i) o S a K
theorem sOp.mono{kd:Nat->Nat}{i:Nat}{S:World->Prop}{a:Act}{K K':(World->Prop)->Act->Prop}(h:∀S a,K S a->K' S a)(hs:sOp P P0 ops kd i S a K):sOp P P0 ops kd i S a K':=by
  unfold sOp at*
  split
  . rename_i ho;rw[ho]at hs;exact h _ _ hs
  rename_i ho;rw[ho]at hs;exact sStep.mono h hs
def wpAnyS(P:Program)(P0:World->Prop)(md:Region.Mode)(ops:Array Oper)(kd:Nat->Nat)(Q:Act->World->Prop):Nat->Array Bool->(World->Prop)->Act->Prop
  |0,listed,S,a=>Region.ready md ops listed=[]/\ ∀w,S w->Q a w
  | fuel+1,listed,S,a=>(Region.ready md ops listed=[]-> ∀w,S w->Q a w)/\
    ∀i∈Region.ready md ops listed,sOp P P0 ops kd i S a (wpAnyS P P0 md ops kd Q fuel (listed.setIfInBounds i true))
theorem sStep.wp{k:Nat}{o:Oper}{S:World->Prop}{a:Act}{K:(World->Prop)->Act->Prop}{K':Act->World->Prop}{Q':Exit->Act->World->Prop}{w:World}(hSP:∀w,S w->P0 w)(hw:S w)
    (h:∀S' a' w',(∀w,S' w->P0 w)->S' w'->K S' a'->K' a' w') (hs:sStep P P0 ops k o S a K):
    if Region.wanted o (yielded ops a.tmps)=true then o.wp P a w K' Q'\/(o.asks P a w/\LetsOut Q')else K' (a.put o.dst undef) w:=by
  unfold sStep at hs
  split
  . rename_i hg
    rw[if_pos hg]at hs;refine .inl ?_;unfold Oper.wp
    split at hs
    . obtain⟨v,h1,h2⟩:=hs;exact Does.upon (R:=fun u w'=>u=v/\w'=w) (fun u w' ⟨e1,e2⟩=>by subst e1;subst e2;exact h _ _ _ hSP hw h2) (Flt.does ⟨rfl,rfl⟩ (h1 w (hSP w hw)))
    . obtain⟨v,h1,h2⟩:=hs;exact Does.upon (fun u w' ⟨e1,e2⟩=>by subst e1;exact h _ _ _ hSP e2 h2) (h1 w hw)
    obtain⟨α,_,f,S',⟨hP,h1⟩,h2⟩:=hs;exact Does.upon (fun u w' ⟨x,hx,hu⟩=>by subst hx;exact h _ _ _ (hP x) hu (h2 x)) (h1 w hw)
  rename_i hg
  rw[if_neg hg]at hs;exact h _ _ _ hSP hw hs
theorem wpAny_of_S{kd:Nat->Nat}{Q:Act->World->Prop}{Q':Exit->Act->World->Prop}(hQ:∀a w,Q a w->Q' .normal a w):
    ∀(fuel:Nat) (listed:Array Bool) (S:World->Prop) (a:Act) (w:World),(∀w,S w->P0 w)->S w->wpAnyS P P0 md ops kd Q fuel listed S a->wpAny P md ops Q' fuel listed a w
  |0,_,_,_,_,_,hw,h=>⟨h.1,hQ _ _ (h.2 _ hw)⟩
  |fuel+1,_,_,_,_,hSP,hw,h=>⟨fun h0=>hQ _ _ (h.1 h0 _ hw),fun i hi=>by
      have h1:=h.2 i hi;unfold sOp at h1;unfold wpOp
      split
      . rename_i ho;rw[ho]at h1;exact wpAny_of_S hQ fuel _ _ _ _ hSP hw h1
      rename_i o ho
      rw[ho]at h1;exact sStep.wp hSP hw (fun S' a' w' hP' hw' hk=>wpAny_of_S hQ fuel _ _ _ _ hP' hw' hk) h1⟩
def ancOf(md:Region.Mode)(acc:List (List Nat))(o:Oper):List Nat:=
  ((o.after.toList.filter (Region.binds md)).flatMap fun e=>e.on::acc.getD e.on []).eraseDups
def ancAll(md:Region.Mode):List Oper->List (List Nat)->List (List Nat)
  |[],acc=>acc
  |o::rest,acc=>ancAll md rest (acc++[ancOf md acc o])
def Closed(md:Region.Mode)(ops:Array Oper)(listed:Array Bool):Prop:=
  ∀j o,ops[j]?=some o->listed.getD j false=true-> ∀e∈o.after,Region.binds md e=true->listed.getD e.on false=true
theorem Closed.set{listed:Array Bool}{i:Nat}(h:Closed md ops listed)(hi:i∈Region.ready md ops listed):Closed md ops (listed.setIfInBounds i true):=by
  intro j o ho hj e he hb
  by_cases hij:i=j
  . subst hij;obtain⟨_,o',ho',hall⟩:=mem_ready.1 hi;rw[ho]at ho'
    cases ho'
    exact getD_set_true (hall e he hb)
  rw[getD_set_ne false hij]at hj;exact getD_set_true (h j o ho hj e he hb)
theorem ancAll_sound{listed:Array Bool}(hc:Closed md ops listed):∀(l:List Oper) (acc:List (List Nat)),(∀j,l[j]?=ops[acc.length+j]?)->
    (∀j o,j<acc.length->ops[j]?=some o->(∀e∈o.after,Region.binds md e=true->listed.getD e.on false=true)-> ∀x∈acc.getD j [],listed.getD x false=true)->
    ∀j o,ops[j]?=some o->j<(ancAll md l acc).length->(∀e∈o.after,Region.binds md e=true->listed.getD e.on false=true)-> ∀x∈(ancAll md l acc).getD j [],listed.getD x false=true
  |[],acc,_,hinv=>fun j o ho hj hd x hx=>hinv j o hj ho hd x hx
  | o ::l,acc,hl,hinv=>by
    refine ancAll_sound hc l (acc++[ancOf md acc o]) (fun j=>?_) (fun j o' hj ho' hd x hx=>?_)
    . have:=hl (j+1)
      simpa[Nat.add_assoc,Nat.add_comm 1 j]using this
    simp only[List.length_append,List.length_cons,List.length_nil,Nat.zero_add]at hj
    rcases Nat.lt_or_ge j acc.length with hlt|hge
    . rw[List.getD_eq_getElem?_getD,List.getElem?_append_left hlt, <-List.getD_eq_getElem?_getD]at hx;exact hinv j o' hlt ho' hd x hx
    obtain rfl:j=acc.length:=by omega
    have h0:ops[acc.length]?=some o:=by simpa using(hl 0).symm
    rw[h0]at ho'
    cases ho'
    rw[List.getD_eq_getElem?_getD,List.getElem?_append_right (Nat.le_refl _)]at hx;simp only[Nat.sub_self,List.getElem?_cons_zero,Option.getD_some,ancOf,List.mem_eraseDups,List.mem_flatMap,List.mem_filter,List.mem_cons]at hx;obtain⟨e,⟨he,hb⟩,hx⟩:=hx;have he':e∈o.after:=by simpa using he
    have hon:=hd e he' hb
    rcases hx with rfl|hx
    . exact hon
    rcases Nat.lt_or_ge e.on acc.length with hlt|hge'
    . cases ho2:ops[e.on]? with
      | none=>
        have:=hl 0
        exfalso
        have hs:acc.length<ops.size:=(Array.getElem?_eq_some_iff.1 h0).1;have hn:=Array.getElem?_eq_none_iff.1 ho2;omega
      |some o2=>exact hinv e.on o2 hlt ho2 (fun e2 he2 hb2=>hc e.on o2 ho2 hon e2 he2 hb2) x hx
    rw[List.getD_eq_getElem?_getD,List.getElem?_eq_none (by omega)]at hx;simp at hx
def clash:Nat->Nat->Bool
  |0,_|_,0=>false
  |1,1=>false
  |_,_=>true
def After(md:Region.Mode)(ops:Array Oper)(i j:Nat):Prop:= ∀listed,Closed md ops listed->j∈Region.ready md ops listed->listed.getD i false=true
def stagedB(md:Region.Mode)(ops:Array Oper)(ks:List Nat):Bool:=
  let an:=ancAll md ops.toList []
  (ks.length==ops.size)&&(List.range ops.size).all fun j=>(List.range j).all fun i=> !clash (ks.getD i 0) (ks.getD j 0)||((an.getD j []).contains i)
theorem length_ancAll:∀(l:List Oper) (acc:List (List Nat)),(ancAll md l acc).length=acc.length+l.length
  |[],acc=>rfl
  |o::l,acc=>by simp[ancAll,length_ancAll l];omega
theorem stagedB_spec{ks:List Nat}(h:stagedB md ops ks=true){i j:Nat}(hij:i<j)(hj:j<ops.size)(hcl:clash (ks.getD i 0) (ks.getD j 0)=true):After md ops i j:=by
  intro listed hc hr;simp only[stagedB,Bool.and_eq_true,List.all_eq_true,List.mem_range]at h;have h1:=h.2 j hj i hij;rw[hcl]at h1;simp only[Bool.not_true,Bool.false_or,List.contains_iff_mem]at h1;obtain⟨_,o,ho,hd⟩:=mem_ready.1 hr;exact ancAll_sound hc ops.toList [] (fun j=>by simp) (fun j o hj=>absurd hj (Nat.not_lt_zero _)) j o ho (by rw[length_ancAll];simpa using hj) hd i h1
theorem sStep_put{k:Nat}{oi oj:Oper}{u:Value}{S:World->Prop}{a:Act}{K:(World->Prop)->Act->Prop}(hap:oi.apart ops oj=true)(hsj:∀cs b,oj.op≠.select cs b)
    (h:sStep P P0 ops k oj S (a.put oi.dst u) K):sStep P P0 ops k oj S a (fun S' a'=>(∃x,a'=a.put oj.dst x)/\(k<2->S'=S)/\K S' (a'.put oi.dst u)):=by
  obtain⟨h1,h2,h3⟩:=Oper.apart_spec hap;unfold sStep at*;rw[wanted_put oj a oi.dst u h1]at h;rw[execOp_put oj hsj a oi.dst u h1]at h
  split
  . rename_i hw
    rw[if_pos hw]at h
    rcases k with _|_|k
    . obtain⟨v,hv,hk⟩:=h;exact⟨v,hv,⟨v,rfl⟩,fun _=>rfl,by rw[<-Act.put_comm a u v h2];exact hk⟩
    . obtain⟨v,hv,hk⟩:=h;exact⟨v,hv,⟨v,rfl⟩,fun _=>rfl,by rw[<-Act.put_comm a u v h2];exact hk⟩
    obtain⟨α,hα,f,S',hv,hk⟩:=h;exact⟨α,hα,f,S',hv,fun x=>⟨⟨f x,rfl⟩,fun hlt=>(by omega),by rw[<-Act.put_comm a u (f x) h2];exact hk x⟩⟩
  rename_i hw
  rw[if_neg hw]at h;exact⟨⟨_,rfl⟩,fun _=>rfl,by rw[<-Act.put_comm a u undef h2];exact h⟩
def Leaves1(P:Program)(P0:World->Prop)(ops:Array Oper)(k:Nat)(o:Oper)(S:World->Prop)(v:Value)(a:Act):Prop:=
  (Region.wanted o (yielded ops a.tmps)=true/\((k=0/\ ∀w,P0 w->Flt v w ((execOp a.eval o).run P w))\/(k=1/\ ∀w,S w->Does P (fun u w'=>u=v/\S w') ((execOp a.eval o).run P w))))\/
  (Region.wanted o (yielded ops a.tmps)=false/\v=undef)
theorem Leaves1.step{k:Nat}{o:Oper}{S:World->Prop}{v:Value}{a:Act}{K:(World->Prop)->Act->Prop}(h:Leaves1 P P0 ops k o S v a)(hk:K S (a.put o.dst v)):sStep P P0 ops k o S a K:=by
  unfold sStep
  rcases h with⟨hw,⟨rfl,h⟩|⟨rfl,h⟩⟩|⟨hw,rfl⟩
  . rw[if_pos hw];exact⟨v,h,hk⟩
  . rw[if_pos hw];exact⟨v,h,hk⟩
  rw[if_neg (by simp[hw])];exact hk
theorem Leaves1.of_put{k:Nat}{oi oj:Oper}{S:World->Prop}{v x:Value}{a:Act}(hs:∀cs b,oi.op≠.select cs b)(hap:∀d,oj.dst=some d->d∉oi.looksAt ops)
    (h:Leaves1 P P0 ops k oi S v a):Leaves1 P P0 ops k oi S v (a.put oj.dst x):=by
  unfold Leaves1 at*;rw[wanted_put oi a oj.dst x hap,execOp_put oi hs a oj.dst x hap];exact h
theorem Leaves1.any{o:Oper}{S S':World->Prop}{v:Value}{a:Act}(h:Leaves1 P P0 ops 0 o S v a):Leaves1 P P0 ops 0 o S' v a:=by
  rcases h with⟨hw,⟨h0,h⟩|⟨h0,h⟩⟩|h
  . exact .inl ⟨hw,.inl ⟨rfl,h⟩⟩
  . exact absurd h0 (by decide)
  exact .inr h
def Fits(md:Region.Mode)(ops:Array Oper)(kd:Nat->Nat)(i:Nat)(oi:Oper)(listed:Array Bool):Prop:=
  ∀ j oj,ops[j]?=some oj->j≠i->listed.getD j true=false->
    ((∀e∈oj.after,Region.binds md e=true->e.on≠i)->oi.apart ops oj=true)/\(clash (kd i) (kd j)=true->After md ops i j)
theorem Fits.set{kd:Nat->Nat}{i j:Nat}{oi:Oper}{listed:Array Bool}(h:Fits md ops kd i oi listed)(hj:listed.getD j true=false):Fits md ops kd i oi (listed.setIfInBounds j true):=fun k ok hk hki hun=>by
  refine h k ok hk hki ?_
  by_cases hjk:j=k
  . subst hjk;exact hj
  rw[getD_set_ne true hjk]at hun;exact hun
theorem ready_unlisted{i:Nat}{listed:Array Bool}(h:i∈Region.ready md ops listed):listed.getD i false=false:=by
  have h:=(mem_ready.1 h).1
  rcases Nat.lt_or_ge i listed.size with h'|h'
  . simp[h']at h⊢;exact h
  simp[Array.getElem?_eq_none h']at h
theorem ready_apart{kd:Nat->Nat}{i j:Nat}{oi oj:Oper}{listed:Array Bool}(hf:Fits md ops kd i oi listed)(hr:i∈Region.ready md ops listed)(hj:j∈Region.ready md ops listed)(ho:ops[j]?=some oj)(hji:j≠i):
    oi.apart ops oj=true:=by
  obtain⟨hjun,oj',hoj,hall⟩:=mem_ready.1 hj;rw[ho]at hoj;cases hoj
  refine(hf j oj ho hji hjun).1 fun e he hb heq=>?_
  have h1:=hall e he hb;rw[heq,ready_unlisted hr]at h1
  cases h1
theorem ready_clash{kd:Nat->Nat}{i j:Nat}{oi oj:Oper}{listed:Array Bool}(hc:Closed md ops listed)(hf:Fits md ops kd i oi listed)(hr:i∈Region.ready md ops listed)(hj:j∈Region.ready md ops listed)(ho:ops[j]?=some oj)(hji:j≠i):
    clash (kd i) (kd j)=false:=by
  cases h:clash (kd i) (kd j)with
  |false=>rfl
  | true=>
    have h1:=(hf j oj ho hji (mem_ready.1 hj).1).2 h listed hc hj;rw[ready_unlisted hr]at h1
    cases h1
theorem wpAnyS_first{kd:Nat->Nat}{Q:Act->World->Prop}{i:Nat}{oi:Oper}{v:Value}(hi:ops[i]?=some oi)(hsel:∀(j:Nat) (o:Oper) cs b,ops[j]?=some o->o.op≠.select cs b):
    ∀ (fuel:Nat) (listed:Array Bool) (S:World->Prop) (a:Act),Closed md ops listed->Fits md ops kd i oi listed->
      i∈Region.ready md ops listed->Leaves1 P P0 ops (kd i) oi S v a->
      wpAnyS P P0 md ops kd Q fuel (listed.setIfInBounds i true) S (a.put oi.dst v)->wpAnyS P P0 md ops kd Q (fuel+1) listed S a:=by
  intro fuel
  induction fuel with
  | zero=>
    intro listed S a _ _ hr hy H;refine⟨fun h=>(by rw[h]at hr;cases hr),fun j hj=>?_⟩
    by_cases hji:j=i
    . subst hji;unfold sOp;rw[hi];exact hy.step H
    have:=ready_mono hj hji;rw[H.1]at this
    cases this
  | succ fuel ih=>
    intro listed S a hc hf hr hy H;refine⟨fun h=>(by rw[h]at hr;cases hr),fun j hj=>?_⟩
    by_cases hji:j=i
    . subst hji;unfold sOp;rw[hi];exact hy.step H
    have h1:=H.2 j (ready_mono hj hji);obtain⟨hjun,oj,hoj,_⟩:=mem_ready.1 hj;have hap:=ready_apart hf hr hj hoj hji;have hcl:=ready_clash hc hf hr hj hoj hji;unfold sOp at h1⊢;rw[hoj]at h1⊢;dsimp only at h1⊢;refine sStep.mono (fun S' a' h3=>?_) (sStep_put hap (fun cs b=>hsel j oj cs b hoj) h1);obtain⟨⟨x,rfl⟩,hS,h4⟩:=h3
    have hl :Leaves1 P P0 ops (kd i) oi S' v (a.put oj.dst x):=by
      have hl0:=hy.of_put (x:=x) (fun cs b=>hsel i oi cs b hi) (Oper.apart_spec hap).2.2
      by_cases hk0:kd i=0
      . rw[hk0]at hl0⊢;exact hl0.any
      have hk:kd j<2:=by
        rcases Nat.lt_or_ge (kd j) 2 with h|h
        . exact h
        exfalso
        revert hcl hk0 h
        cases kd i with
        |zero=>intro _ h;exact absurd rfl h
        | succ n=>
          cases kd j with
          |zero=>intro _ _ h;omega
          | succ m=>
            cases n<;>cases m<;>simp[clash]
      rw[hS hk];exact hl0
    refine ih (listed.setIfInBounds j true) S' _ (hc.set hj) (hf.set hjun) (ready_mono hr (Ne.symm hji)) hl ?_;rw[Array.setIfInBounds_comm _ _ hji];exact h4
theorem wpAnyS_first_eff{kd:Nat->Nat}{Q:Act->World->Prop}{i:Nat}{oi:Oper}(hi:ops[i]?=some oi)(hsel:∀(j:Nat) (o:Oper) cs b,ops[j]?=some o->o.op≠.select cs b)(hk:2<=kd i){w0:World}(hw0:P0 w0){α:Type}[hα:Nonempty α](f:α->Value):
    ∀ (fuel:Nat) (listed:Array Bool) (S:World->Prop) (a:Act) (S1:α->World->Prop),Closed md ops listed->Fits md ops kd i oi listed->
      i∈Region.ready md ops listed->Region.wanted oi (yielded ops a.tmps)=true->((∀x w,S1 x w->P0 w)/\ ∀w,S w->Does P (fun v w'=> ∃x,v=f x/\S1 x w') ((execOp a.eval oi).run P w))->
      (∀x,wpAnyS P P0 md ops kd Q fuel (listed.setIfInBounds i true) (S1 x) (a.put oi.dst (f x)))->wpAnyS P P0 md ops kd Q (fuel+1) listed S a:=by
  have hself:∀(S:World->Prop) (a:Act) (S1:α->World->Prop) (K:(World->Prop)->Act->Prop),Region.wanted oi (yielded ops a.tmps)=true->((∀x w,S1 x w->P0 w)/\ ∀w,S w->Does P (fun v w'=> ∃x,v=f x/\S1 x w') ((execOp a.eval oi).run P w))->(∀x,K (S1 x) (a.put oi.dst (f x)))->sStep P P0 ops (kd i) oi S a K:=by
    intro S a S1 K hw h h';unfold sStep;rw[if_pos hw];obtain⟨n,hn⟩:∃n,kd i=n+2:=⟨kd i-2,by omega⟩;rw[hn];exact⟨α,hα,f,S1,h,h'⟩
  intro fuel
  induction fuel with
  | zero=>
    intro listed S a S1 _ _ hr hw hd H;refine⟨fun h=>(by rw[h]at hr;cases hr),fun j hj=>?_⟩
    by_cases hji:j=i
    . subst hji;unfold sOp;rw[hi];exact hself _ _ _ _ hw hd H
    have:=ready_mono hj hji;rw[(H (Classical.choice hα)).1]at this
    cases this
  | succ fuel ih=>
    intro listed S a S1 hc hf hr hw hd H;refine⟨fun h=>(by rw[h]at hr;cases hr),fun j hj=>?_⟩
    by_cases hji:j=i
    . subst hji;unfold sOp;rw[hi];exact hself _ _ _ _ hw hd H
    obtain⟨hjun,oj,hoj,_⟩:=mem_ready.1 hj;have hap:=ready_apart hf hr hj hoj hji;have hcl:=ready_clash hc hf hr hj hoj hji;obtain⟨p1,p2,p3⟩:=Oper.apart_spec hap
    have hkj:kd j=0:=by
      obtain⟨n,hn⟩:∃n,kd i=n+2:=⟨kd i-2,by omega⟩;rw[hn]at hcl;generalize kd j=m at hcl
      cases m with
      |zero=>rfl
      |succ m=>cases hcl
    have hj1:∀v,sStep P P0 ops 0 oj (S1 v) (a.put oi.dst (f v)) (wpAnyS P P0 md ops kd Q fuel ((listed.setIfInBounds i true).setIfInBounds j true)):=fun v=>by
      have h1:=(H v).2 j (ready_mono hj hji);unfold sOp at h1;rw[hoj,hkj]at h1;exact h1
    have hd':∀x,(∀y w,S1 y w->P0 w)/\ ∀w,S w->Does P (fun v w'=> ∃y,v=f y/\S1 y w') ((execOp (a.put oj.dst x).eval oi).run P w):=fun x=>⟨hd.1,fun w hs=>by
      rw[execOp_put oi (fun cs b=>hsel i oi cs b hi) a oj.dst x p3];exact hd.2 w hs⟩
    have hw':∀x,Region.wanted oi (yielded ops (a.put oj.dst x).tmps)=true:=fun x=>by
      rw[wanted_put oi a oj.dst x p3];exact hw
    have fin:∀x,(∀v,wpAnyS P P0 md ops kd Q fuel ((listed.setIfInBounds i true).setIfInBounds j true) (S1 v) ((a.put oi.dst (f v)).put oj.dst x))->wpAnyS P P0 md ops kd Q (fuel+1) (listed.setIfInBounds j true) S (a.put oj.dst x):=fun x hx=>by
      refine ih (listed.setIfInBounds j true) S _ S1 (hc.set hj) (hf.set hjun) (ready_mono hr (Ne.symm hji)) (hw' x) (hd' x) fun v=>?_
      rw[Array.setIfInBounds_comm _ _ hji, <-Act.put_comm a (f v) x p2];exact hx v
    unfold sOp;rw[hoj,hkj];dsimp only;unfold sStep at hj1⊢
    by_cases hwj:Region.wanted oj (yielded ops a.tmps)=true
    . rw[if_pos hwj]
      have hv:∀v,∃x,(∀w,P0 w->Flt x w ((execOp a.eval oj).run P w))/\wpAnyS P P0 md ops kd Q fuel ((listed.setIfInBounds i true).setIfInBounds j true) (S1 v) ((a.put oi.dst (f v)).put oj.dst x):=fun v=>by
        have h1:=hj1 v;rw[wanted_put oj a oi.dst (f v) p1,if_pos hwj,execOp_put oj (fun cs b=>hsel j oj cs b hoj) a oi.dst (f v) p1]at h1;exact h1
      obtain⟨x,hx,_⟩:=hv (Classical.choice hα);refine⟨x,hx,fin x fun v=>?_⟩;obtain⟨y,hy,hk'⟩:=hv v;rw[Flt.uniq (hx w0 hw0) (hy w0 hw0)];exact hk'
    rw[if_neg hwj];refine fin undef fun v=>?_
    have h1:=hj1 v;rw[wanted_put oj a oi.dst (f v) p1,if_neg hwj]at h1;exact h1
theorem wpAnyS_lex{Q:Act->World->Prop}{w0:World}(hw0:P0 w0)(hs:Region.noSelect ops=true)(ks:List Nat)(hst:stagedB md ops ks=true):∀(l:List Oper) (k:Nat) (listed:Array Bool) (S:World->Prop) (a:Act),(∀j,l[j]?=ops[k+j]?)->
    (∀j,j<k->listed.getD j true=true)->Closed md ops listed->
    Region.lexFrom md ops l.length k listed=true->wpLex P P0 ops Q (ks.drop k) l S a->wpAnyS P P0 md ops (fun i=>ks.getD i 0) Q l.length listed S a
  |[],k,_,_,_,_,_,_,hB,h=>⟨by simpa[Region.lexFrom]using hB,by cases hk:ks.drop k<;>(rw[hk]at h;exact h)⟩
  | o ::l,k,listed,S,a,hl,hlt,hc,hB,h=>by
    have h0:ops[k]?=some o:=by simpa using(hl 0).symm
    have hks:k<ops.size:=(Array.getElem?_eq_some_iff.1 h0).1;simp only[List.length_cons,Region.lexFrom,Bool.and_eq_true]at hB;obtain⟨⟨hr,hf⟩,hB'⟩:=hB;have hlen:ks.length=ops.size:=by simp only[stagedB,Bool.and_eq_true,beq_iff_eq]at hst;exact hst.1
    have hdrop:ks.drop k=ks.getD k 0::ks.drop (k+1):=by
      rw[List.drop_eq_getElem_cons (by omega)];simp[show k<ks.length from by omega]
    rw[hdrop]at h;have hr':k∈Region.ready md ops listed:=by simpa using hr
    have hfits:Fits md ops (fun i=>ks.getD i 0) k o listed:=fun j oj hj hne hun=>by
      refine⟨fun hno=>Region.free_spec h0 hf j oj hj hne hun hno,fun hcl=>?_⟩
      have hjk:k<j:=by
        rcases Nat.lt_or_ge k j with h'|h'
        . exact h'
        have:=hlt j (by omega);rw[this]at hun
        cases hun
      exact stagedB_spec hst hjk (Array.getElem?_eq_some_iff.1 hj).1 hcl
    have rest:∀(S:World->Prop) (a:Act),wpLex P P0 ops Q (ks.drop (k+1)) l S a->wpAnyS P P0 md ops (fun i=>ks.getD i 0) Q l.length (listed.setIfInBounds k true) S a:=fun S a hh=>by
      refine wpAnyS_lex hw0 hs ks hst l (k+1) _ S a (fun j=>by have:=hl (j+1);simpa[Nat.add_assoc,Nat.add_comm 1 j]using this) (fun j hj=>?_) (hc.set hr') hB' hh
      by_cases hjk:k=j
      . subst hjk;have:listed.getD k false=false:=ready_unlisted hr'
        rcases Nat.lt_or_ge k listed.size with h'|h'
        . simp[h']
        simp[Array.getElem?_eq_none (show(listed.setIfInBounds k true).size<=k by simpa using h')]
      rw[getD_set_ne true hjk];exact hlt j (by omega)
    have hsel:=Region.noSelect_spec hs
    change sStep P P0 ops (ks.getD k 0) o S a (wpLex P P0 ops Q (ks.drop (k+1)) l)at h
    by_cases hw:Region.wanted o (yielded ops a.tmps)=true
    . unfold sStep at h;rw[if_pos hw]at h
      split at h
      . rename_i hk
        obtain⟨v,h1,h2⟩:=h;exact wpAnyS_first h0 hsel l.length listed S a hc hfits hr' (.inl ⟨hw,.inl ⟨hk,h1⟩⟩) (rest _ _ h2)
      . rename_i hk
        obtain⟨v,h1,h2⟩:=h;exact wpAnyS_first h0 hsel l.length listed S a hc hfits hr' (.inl ⟨hw,.inr ⟨hk,h1⟩⟩) (rest _ _ h2)
      rename_i k' hk0 hk1
      obtain⟨α,hα,f,S1,h1,h2⟩:=h;exact wpAnyS_first_eff h0 hsel (by rcases hq:ks.getD k 0 with _|_|n<;>first|(exact absurd hq (by simpa using hk0))|(exact absurd hq (by simpa using hk1))|omega) hw0 f l.length listed S a S1 hc hfits hr' hw h1 (fun v=>rest _ _ (h2 v))
    unfold sStep at h;rw[if_neg hw]at h;exact wpAnyS_first h0 hsel l.length listed S a hc hfits hr' (.inr ⟨by simpa using hw,rfl⟩) (rest _ _ h)
theorem wp_region_stagedP{id:Nat}{Q:Exit->Act->World->Prop}{a:Act}{w:World}{l:List Oper}(P0 S:World->Prop)(ks:List Nat)(hm:P.follows .mixedOrders=true)
    (hB:Region.lexB .any l.toArray=true) (hst:stagedB .any l.toArray ks=true) (hSP:∀w,S w->P0 w) (hS:S w.drew) (h:Lex P P0 l.toArray (fun a w=>Q .normal a w) ks l S a):
    (Code.region id l.toArray true).wp P Q a w:=by
  simp only[Region.lexB,Bool.and_eq_true]at hB;refine wp_region_any hm (wpAny_of_S (P0:=P0) (kd:=fun i=>ks.getD i 0) (Q:=fun a w=>Q .normal a w) (fun _ _ h=>h) _ _ S a _ hSP hS ?_)
  have:=wpAnyS_lex (P:=P) (Q:=fun a w=>Q .normal a w) (hSP _ hS) hB.1 ks hst l 0 (Array.replicate l.toArray.size false) S a (by simp) (fun j hj=>absurd hj (Nat.not_lt_zero _)) (fun j o hj ht=>by
    have hlt:j<l.toArray.size:=(Array.getElem?_eq_some_iff.1 hj).1;simp at hlt;simp[hlt]at ht) (by simpa using hB.2) (by simpa using h.out)
  simpa using this
theorem wp_region_staged{id:Nat}{Q:Exit->Act->World->Prop}{a:Act}{w:World}{l:List Oper}(S:World->Prop)(ks:List Nat)(hm:P.follows .mixedOrders=true)
    (hB:Region.lexB .any l.toArray=true) (hst:stagedB .any l.toArray ks=true) (hS:S w.drew) (h:Lex P (fun _=>True) l.toArray (fun a w=>Q .normal a w) ks l S a):
    (Code.region id l.toArray true).wp P Q a w:=wp_region_stagedP (fun _=>True) S ks hm hB hst (fun _ _=>trivial) hS h
theorem wpList_of_lex{Q':Exit->Act->World->Prop}:∀(ks:List Nat) (l:List Oper) (S:World->Prop) (a:Act) (w:World),(∀w,S w->P0 w)->S w->
    wpLex P P0 ops (fun a w=>Q' .normal a w) ks l S a->wpList P ops Q' l a w
  |[],[],_,_,_,_,hw,h=>h _ hw
  |_::_,[],_,_,_,_,hw,h=>h _ hw
  |[],_::_,_,_,_,_,_,h=>False.elim h
  |_::ks,_::rest,_,_,_,hSP,hw,h=>sStep.wp hSP hw (fun S' a' w' hP' hw' hk=>wpList_of_lex ks rest S' a' w' hP' hw' hk) h
theorem wp_region_text{id:Nat}{Q:Exit->Act->World->Prop}{a:Act}{w:World}{l:List Oper}(S:World->Prop)(ks:List Nat)(hS:S w)(h:Lex P (fun _=>True) l.toArray (fun a w=>Q .normal a w) ks l S a):
    (Code.region id l.toArray false).wp P Q a w:=
  wp_region_lit (wpList_of_lex ks l S a w (fun _ _=>trivial) hS h.out)
end
end Go.Proofs.YtjhaedfpigebdaaGreatDoor
namespace Go.Proofs.YtjhaedfpigebdaaGreatDoor
open Go.RowKit
theorem cellsBelow{B:Nat}{W w1:World}(hb:Below B W w1):∀b o,b<B->w1.cell? ⟨b,o,none⟩=W.cell? ⟨b,o,none⟩:=
  fun b o h=>hb.cell (p:=⟨b,o,none⟩) h
theorem grown_of_below{W W':World}(h:Below W.heap.size W W'):W.grownBy W' none:=⟨h.os,h.tape,h.output,h.size,fun k hk _=>h.block k hk⟩
theorem row_kept_none{w w':World}{base:Nat}{e:TypeId}{size n:Nat}{v:Value}{xs:List Value}(h:w.ownsRow base e size v n xs)(hg:w.grownBy w' none):w'.ownsRow base e size v n xs:=
  h.kept hg (by
    rcases h.2 with⟨rfl,_⟩|⟨g,cap,cur,rfl,_⟩
    . exact .inl rfl
    exact .inr (by simp[Value.ownBlock]))
theorem add_at(g j:Nat):(⟨g,0,none⟩:Addr).add j=⟨g,j,none⟩:=by unfold Addr.add;split<;>simp_all
theorem heap_new(w:World)(o:Obj):(w.alloc o).heap[w.heap.size]?=some o:=by
  show(w.heap.push o)[w.heap.size]?=_
  simp
theorem heap_setCell_at{w:World}{b o:Nat}{c:Array Value}{t:TypeId}{m:Nat × Nat}(h:w.heap[b]?=some (.cells c t m))(u:Value):(w.setCell ⟨b,o,none⟩ u).heap[b]?=some (.cells (c.setIfInBounds o u) t m):=by
  obtain⟨hlt,hk⟩:=Array.getElem?_eq_some_iff.1 h
  show(w.heap.modify b _)[b]?=_
  rw[Array.getElem?_eq_getElem (by rw[Array.size_modify];exact hlt),Array.getElem_modify_self,hk];rfl
theorem setCell_far{w:World}{b o c:Nat}(u:Value)(h:c≠b):(w.setCell ⟨b,o,none⟩ u).heap[c]?=w.heap[c]?:=Below.heap_setCell _ _ _ _ h
theorem cell_box1{W:World}{B:Nat}{x:Value}{t:TypeId}(h:W.heap[B]?=some (.cells #[x] t)):W.cell? ⟨B,0,none⟩=some x:=by simp[World.cell?,h]
theorem free_box1{W:World}{B:Nat}{x:Value}{t:TypeId}(h:W.heap[B]?=some (.cells #[x] t)):∀o,W.frozen? ⟨B,o,none⟩=false:=by intro o;simp[World.frozen?,h]
theorem box1_head(s:Value)(t:TypeId)(w:World):∃W1,W1=w.alloc (.cells #[s] t)/\W1.heap.size=w.heap.size+1/\W1.heap[w.heap.size]?=some (.cells #[s] t)/\Below w.heap.size w W1:=
  ⟨_,rfl,World.size_alloc _ _,heap_new _ _,(Below.refl _ _).alloc (Nat.le_refl _) _⟩
theorem box2_head(s s':Value)(t t':TypeId)(w:World):∃W1,W1=(w.alloc (.cells #[s] t)).alloc (.cells #[s'] t')/\W1.heap.size=w.heap.size+2/\W1.heap[w.heap.size]?=some (.cells #[s] t)/\W1.heap[w.heap.size+1]?=some (.cells #[s'] t')/\Below w.heap.size w W1:=by
  refine⟨_,rfl,by simp,(Below.heap_alloc _ _ _ (by simp)).trans (heap_new _ _),?_,((Below.refl _ w).alloc (Nat.le_refl _) _).alloc (by simp) _⟩;have:=heap_new (w.alloc (.cells #[s] t)) (.cells #[s'] t')
  rwa [World.size_alloc]at this
theorem box_store{W:World}{R:Nat}{x:Value}{t:TypeId}(h:W.heap[R]?=some (.cells #[x] t))(u:Value):(W.setCell ⟨R,0,none⟩ u).heap[R]?=some (.cells #[u] t):=heap_setCell_at h u
theorem res_store{W:World}{R:Nat}{x:Value}{t:TypeId}(h:W.heap[R]?=some (.cells #[x] t))(u:Value):(W.setCell ⟨R,0,none⟩ u).cell? ⟨R,0,none⟩=some u:=cell_box1 (box_store h u)
end Go.Proofs.YtjhaedfpigebdaaGreatDoor
namespace Go.Proofs.YtjhaedfpigebdaaGreatDoor
open Go.RowKit
section
variable {P:Program}{P0:World->Prop}{base:Nat}{ops:Array Oper}{md:Region.Mode}
def Clos(S:World->Prop):Prop:= ∀w w',S w->Below w.heap.size w w'->S w'
def Has(base R:Nat)(obj:Obj)(w:World):Prop:=base<=R/\w.heap[R]?=some obj
theorem Has.below{R:Nat}{obj:Obj}{w w':World}(h:Has base R obj w)(hb:Below w.heap.size w w'):Has base R obj w':=
  ⟨h.1,(hb.block _ (Array.getElem?_eq_some_iff.1 h.2).1).trans h.2⟩
theorem Clos.has{S:World->Prop}(h:Clos S)(R:Nat)(obj:Obj):Clos (fun w=>S w/\Has base R obj w):=
  fun w w' ⟨h1,h2⟩ hb=>⟨h w w' h1 hb,h2.below hb⟩
def mkOf(o:Oper)(R:Nat):Value:=match o.op with
  | .buildSlice _ n _=>.slice (some ⟨R,0,none⟩) n n
  |_=>.pointer (some ⟨R,0,none⟩)
def Fr(base:Nat)(w w':World):Prop:= ∀R obj,Has base R obj w->Has base R obj w'
def mStep(P:Program)(P0:World->Prop)(base:Nat)(ops:Array Oper)(k:Nat)(o:Oper)(S:World->Prop)(a:Act)(K:(World->Prop)->Act->Prop):Prop:=
  if Region.wanted o (yielded ops a.tmps)=true then
    match k with
    |0=> ∃v,(∀w,P0 w->Flt v w ((execOp a.eval o).run P w))/\K S (a.put o.dst v)
    |1=> ∃v,(∀w,S w->Does P (fun u w'=>u=v/\Below w.heap.size w w'/\S w') ((execOp a.eval o).run P w))/\K S (a.put o.dst v)
    |2=> ∃(α:Type) (_:Nonempty α) (f:α->Value) (S':α->World->Prop),(∀x,Clos (S' x))/\(∀x w,S' x w->P0 w/\S w)/\(∀w,S w->Does P (fun v w'=> ∃x,v=f x/\Below w.heap.size w w'/\S' x w') ((execOp a.eval o).run P w))/\ ∀x,K (S' x) (a.put o.dst (f x))
    |3=> ∃obj:Obj,(∀w,P0 w->(execOp a.eval o).run P w=.ok (.value (mkOf o w.heap.size)) (w.alloc obj))/\ ∀R,K (fun w=>S w/\Has base R obj w) (a.put o.dst (mkOf o R))
    |4=> ∃S':World->Prop,Clos S'/\(∀w,S' w->P0 w)/\(∀w,S w->Does P (fun v w'=>v=undef/\S' w') ((execOp a.eval o).run P w))/\K S' (a.put o.dst undef)
    |k=> ∃(α:Type) (_:Nonempty α) (f:α->Value) (S':α->World->Prop),(∀x,Clos (S' x))/\(∀x w,S' x w->P0 w)/\(∀w,S w->Does P (fun v w'=> ∃x,v=f x/\(k=5->Fr base w w')/\S' x w') ((execOp a.eval o).run P w))/\ ∀x,K (S' x) (a.put o.dst (f x))
  else K S (a.put o.dst undef)
theorem mStep.mono{k:Nat}{o:Oper}{S:World->Prop}{a:Act}{K K':(World->Prop)->Act->Prop}(hc:Clos S)(hp:∀w,S w->P0 w)(h:∀S' a',Clos S'->(∀w,S' w->P0 w)->K S' a'->K' S' a')(hs:mStep P P0 base ops k o S a K):mStep P P0 base ops k o S a K':=by
  unfold mStep at*
  split
  . rename_i hw
    rw[if_pos hw]at hs
    rcases k with _|_|_|_|_|k
    . obtain⟨v,h1,h2⟩:=hs;exact⟨v,h1,h _ _ hc hp h2⟩
    . obtain⟨v,h1,h2⟩:=hs;exact⟨v,h1,h _ _ hc hp h2⟩
    . obtain⟨α,hα,f,S',h1,h2,h3,h4⟩:=hs;exact⟨α,hα,f,S',h1,h2,h3,fun x=>h _ _ (h1 x) (fun w hw=>(h2 x w hw).1) (h4 x)⟩
    . obtain⟨obj,h1,h2⟩:=hs;exact⟨obj,h1,fun R=>h _ _ (hc.has R obj) (fun w hw=>hp w hw.1) (h2 R)⟩
    . obtain⟨S',h1,h2,h3,h4⟩:=hs;exact⟨S',h1,h2,h3,h _ _ h1 h2 h4⟩
    obtain⟨α,hα,f,S',h1,h2,h3,h4⟩:=hs;exact⟨α,hα,f,S',h1,h2,h3,fun x=>h _ _ (h1 x) (fun w hw=>h2 x w hw) (h4 x)⟩
  rename_i hw
  rw[if_neg hw]at hs;exact h _ _ hc hp hs
def okPair:Nat->Nat->Bool
  |0,_=>true
  |_,0=>true
  |1,1=>true
  |1,2=>true
  |1,3=>true
  |2,3=>true
  |3,3=>true
  |5,3=>true
  |_,_=>false
section
variable {oi oj:Oper}{S:World->Prop}{a:Act}{K:(World->Prop)->Act->Prop}
theorem want_swap(hap:oi.apart ops oj=true)(v:Value):Region.wanted oj (yielded ops (a.put oi.dst v).tmps)=Region.wanted oj (yielded ops a.tmps):=wanted_put oj a oi.dst v (Oper.apart_spec hap).1
theorem exec_swap(hs:∀cs b,oj.op≠.select cs b)(hap:oi.apart ops oj=true)(v:Value):execOp (a.put oi.dst v).eval oj=execOp a.eval oj:=execOp_put oj hs a oi.dst v (Oper.apart_spec hap).1
theorem apart_symm(h:oi.apart ops oj=true):oj.apart ops oi=true:=by
  obtain⟨h1,h2,h3⟩:=Oper.apart_spec h;unfold Oper.apart;rw[Bool.and_eq_true];refine⟨?_,?_⟩
  . cases hd:oj.dst with
    |none=>rfl
    | some d=>
      have h4:=h3 d hd;simp only[Bool.and_eq_true,Bool.not_eq_true',bne_iff_ne,ne_eq];refine⟨by simpa using h4,fun e=>h2 d e hd⟩
  cases hd:oi.dst with
  |none=>rfl
  | some d=>
    have h4:=h1 d hd
    simpa using h4
theorem mStep_put{k:Nat}{u:Value}(hap:oj.apart ops oi=true)(hs:∀cs b,oi.op≠.select cs b)(h:mStep P P0 base ops k oi S (a.put oj.dst u) K):
    mStep P P0 base ops k oi S a (fun S' a'=>(∃x,a'=a.put oi.dst x)/\(k<2->S'=S)/\K S' (a'.put oj.dst u)):=by
  obtain⟨h1,h2,h3⟩:=Oper.apart_spec hap;have hcm:∀v,(a.put oj.dst u).put oi.dst v=(a.put oi.dst v).put oj.dst u:=fun v=>Act.put_comm a u v h2
  unfold mStep at*;rw[wanted_put oi a oj.dst u h1]at h;rw[execOp_put oi hs a oj.dst u h1]at h
  split
  . rename_i hw
    rw[if_pos hw]at h
    rcases k with _|_|_|_|_|k
    . obtain⟨v,hv,hk⟩:=h;exact⟨v,hv,⟨v,rfl⟩,fun _=>rfl,by rw[<-hcm];exact hk⟩
    . obtain⟨v,hv,hk⟩:=h;exact⟨v,hv,⟨v,rfl⟩,fun _=>rfl,by rw[<-hcm];exact hk⟩
    . obtain⟨α,hα,f,S',c1,c2,hv,hk⟩:=h;exact⟨α,hα,f,S',c1,c2,hv,fun x=>⟨⟨f x,rfl⟩,fun h=>absurd h (by omega),by rw[<-hcm];exact hk x⟩⟩
    . obtain⟨obj,hv,hk⟩:=h;exact⟨obj,hv,fun R=>⟨⟨_,rfl⟩,fun h=>absurd h (by omega),by rw[<-hcm];exact hk R⟩⟩
    . obtain⟨S',c1,c2,hv,hk⟩:=h;exact⟨S',c1,c2,hv,⟨_,rfl⟩,fun h=>absurd h (by omega),by rw[<-hcm];exact hk⟩
    obtain⟨α,hα,f,S',c1,c2,hv,hk⟩:=h;exact⟨α,hα,f,S',c1,c2,hv,fun x=>⟨⟨f x,rfl⟩,fun h=>absurd h (by omega),by rw[<-hcm];exact hk x⟩⟩
  rename_i hw
  rw[if_neg hw]at h;exact⟨⟨_,rfl⟩,fun _=>rfl,by rw[<-hcm];exact h⟩
theorem obj_uniq{w:World}{o o':Obj}{n n':Next}(h:(Result.ok n (w.alloc o))=.ok n' (w.alloc o')):o=o':=by
  have h1:w.alloc o=w.alloc o':=by injection h
  have h2:=heap_new w o;rw[h1,heap_new w o']at h2;exact(Option.some.inj h2).symm
theorem swap{ki kj:Nat}{w0:World}(hw0:P0 w0)(hap:oj.apart ops oi=true)(hsi:∀cs b,oi.op≠.select cs b)(hsj:∀cs b,oj.op≠.select cs b)(hok:okPair kj ki=true)(hc:Clos S)(hp:∀w,S w->P0 w)
    (h:mStep P P0 base ops kj oj S a (fun S' a'=>mStep P P0 base ops ki oi S' a' K)):mStep P P0 base ops ki oi S a (fun S' a'=>mStep P P0 base ops kj oj S' a' K):=by
  have hap':=apart_symm hap;have wj:∀x,Region.wanted oj (yielded ops (a.put oi.dst x).tmps)=Region.wanted oj (yielded ops a.tmps):=fun x=>want_swap hap' x
  have ej:∀x,execOp (a.put oi.dst x).eval oj=execOp a.eval oj:=fun x=>exec_swap hsj hap' x
  have wi:∀x,Region.wanted oi (yielded ops (a.put oj.dst x).tmps)=Region.wanted oi (yielded ops a.tmps):=fun x=>want_swap hap x
  have ei:∀x,execOp (a.put oj.dst x).eval oi=execOp a.eval oi:=fun x=>exec_swap hsi hap x
  have hcm:∀u v,(a.put oj.dst u).put oi.dst v=(a.put oi.dst v).put oj.dst u:=fun u v=>Act.put_comm a u v (Oper.apart_spec hap).2.1
  by_cases hwj:Region.wanted oj (yielded ops a.tmps)=true
  case neg=>
    unfold mStep at h;rw[if_neg hwj]at h;refine mStep.mono hc hp (fun S' a' _ _ hk=>?_) (mStep_put hap hsi h);obtain⟨⟨x,rfl⟩,_,hk⟩:=hk;unfold mStep;rw[wj,if_neg hwj];exact hk
  have h0:∀v,(∀w,P0 w->Flt v w ((execOp a.eval oj).run P w))->mStep P P0 base ops ki oi S (a.put oj.dst v) K->mStep P P0 base ops ki oi S a (fun S' a'=>mStep P P0 base ops 0 oj S' a' K):=fun v h1 h2=>by
    refine mStep.mono hc hp (fun S' a' _ _ hk=>?_) (mStep_put hap hsi h2);obtain⟨⟨x,rfl⟩,_,hk⟩:=hk;unfold mStep;rw[wj,if_pos hwj,ej];exact⟨v,h1,hk⟩
  rcases kj with _|kj
  . unfold mStep at h;rw[if_pos hwj]at h;obtain⟨v,h1,h2⟩:=h;exact h0 v h1 h2
  by_cases hwi:Region.wanted oi (yielded ops a.tmps)=true
  case neg=>
    have e:∀(S':World->Prop) x,mStep P P0 base ops ki oi S' (a.put oj.dst x) K->K S' ((a.put oi.dst undef).put oj.dst x):=fun S' x h=>by
      unfold mStep at h;rw[wi,if_neg hwi,hcm]at h;exact h
    unfold mStep at h⊢;rw[if_pos hwj]at h;rw[if_neg hwi];dsimp only;rw[wj,if_pos hwj];simp only[ej]
    rcases kj with _|_|_|_|kj
    . obtain⟨v,h1,h2⟩:=h;exact⟨v,h1,e _ _ h2⟩
    . obtain⟨α,hα,f,S',c1,c2,h1,h2⟩:=h;exact⟨α,hα,f,S',c1,c2,h1,fun x=>e _ _ (h2 x)⟩
    . obtain⟨obj,h1,h2⟩:=h;exact⟨obj,h1,fun R=>e _ _ (h2 R)⟩
    . obtain⟨S',c1,c2,h1,h2⟩:=h;exact⟨S',c1,c2,h1,e _ _ h2⟩
    obtain⟨α,hα,f,S',c1,c2,h1,h2⟩:=h;exact⟨α,hα,f,S',c1,c2,h1,fun x=>e _ _ (h2 x)⟩
  rcases ki with _|ki
  . --the one that is pulled yields its value in every world
    have e:∀(S':World->Prop) x,mStep P P0 base ops 0 oi S' (a.put oj.dst x) K-> ∃v,(∀w,P0 w->Flt v w ((execOp a.eval oi).run P w))/\K S' ((a.put oi.dst v).put oj.dst x):=fun S' x h=>by
      unfold mStep at h;rw[wi,if_pos hwi,ei]at h;obtain⟨v,h1,h2⟩:=h;rw[hcm]at h2;exact⟨v,h1,h2⟩
    have key:(∃v,(∀w,P0 w->Flt v w ((execOp a.eval oi).run P w))/\mStep P P0 base ops (kj+1) oj S (a.put oi.dst v) K):=by
      unfold mStep at h;rw[if_pos hwj]at h
      rcases kj with _|_|_|_|kj
      . obtain⟨v,h1,h2⟩:=h;obtain⟨u,h3,h4⟩:=e _ _ h2;refine⟨u,h3,?_⟩;unfold mStep;rw[wj,if_pos hwj,ej];exact⟨v,h1,h4⟩
      . obtain⟨α,hα,f,S',c1,c2,h1,h2⟩:=h;obtain⟨u,h3,_⟩:=e _ _ (h2 (Classical.choice hα));refine⟨u,h3,?_⟩;unfold mStep;rw[wj,if_pos hwj,ej];refine⟨α,hα,f,S',c1,c2,h1,fun x=>?_⟩;obtain⟨u',h3',h4⟩:=e _ _ (h2 x);rw[Flt.uniq (h3 w0 hw0) (h3' w0 hw0)];exact h4
      . obtain⟨obj,h1,h2⟩:=h;obtain⟨u,h3,_⟩:=e _ _ (h2 0);refine⟨u,h3,?_⟩;unfold mStep;rw[wj,if_pos hwj,ej];refine⟨obj,h1,fun R=>?_⟩;obtain⟨u',h3',h4⟩:=e _ _ (h2 R);rw[Flt.uniq (h3 w0 hw0) (h3' w0 hw0)];exact h4
      . obtain⟨S',c1,c2,h1,h2⟩:=h;obtain⟨u,h3,h4⟩:=e _ _ h2;refine⟨u,h3,?_⟩;unfold mStep;rw[wj,if_pos hwj,ej];exact⟨S',c1,c2,h1,h4⟩
      obtain⟨α,hα,f,S',c1,c2,h1,h2⟩:=h;obtain⟨u,h3,_⟩:=e _ _ (h2 (Classical.choice hα));refine⟨u,h3,?_⟩;unfold mStep;rw[wj,if_pos hwj,ej];refine⟨α,hα,f,S',c1,c2,h1,fun x=>?_⟩;obtain⟨u',h3',h4⟩:=e _ _ (h2 x);rw[Flt.uniq (h3 w0 hw0) (h3' w0 hw0)];exact h4
    obtain⟨v,h1,h2⟩:=key;unfold mStep;rw[if_pos hwi];exact⟨v,h1,h2⟩
  rcases ki with _|ki
  . --both of the second kind
    rcases kj with _|kj
    case succ=>rcases kj with _|_|_|_|_|kj<;>cases hok
    unfold mStep at h;rw[if_pos hwj]at h;obtain⟨v,h1,h2⟩:=h;rw[wi,if_pos hwi,ei]at h2;obtain⟨u,h3,h4⟩:=h2;unfold mStep;rw[if_pos hwi];refine⟨u,h3,?_⟩;dsimp only;rw[wj,if_pos hwj,ej];exact⟨v,h1,by rw[<-hcm];exact h4⟩
  rcases ki with _|ki
  . --a call that leaves facts is pulled before a read of elder ones
    rcases kj with _|kj
    case succ=>rcases kj with _|_|_|_|_|kj<;>cases hok
    unfold mStep at h;rw[if_pos hwj]at h;obtain⟨v,h1,h2⟩:=h;rw[wi,if_pos hwi,ei]at h2;obtain⟨α,hα,f,S',c1,c2,h3,h4⟩:=h2;unfold mStep;rw[if_pos hwi];refine⟨α,hα,f,S',c1,c2,h3,fun x=>?_⟩;dsimp only;rw[wj,if_pos hwj,ej];exact⟨v,fun w hw=>(h1 w (c2 x w hw).2).mono fun u w' ⟨d1,d2,_⟩=>⟨d1,d2,c1 x _ _ hw d2⟩,by rw[<-hcm];exact h4 x⟩
  rcases ki with _|ki
  . --a new block is pulled
    have e:∀(S':World->Prop) x,mStep P P0 base ops 3 oi S' (a.put oj.dst x) K-> ∃obj:Obj,(∀w,P0 w->(execOp a.eval oi).run P w=.ok (.value (mkOf oi w.heap.size)) (w.alloc obj))/\ ∀R,K (fun w=>S' w/\Has base R obj w) ((a.put oi.dst (mkOf oi R)).put oj.dst x):=fun S' x h=>by
      unfold mStep at h;rw[wi,if_pos hwi,ei]at h;obtain⟨obj,h1,h2⟩:=h;refine⟨obj,h1,fun R=>?_⟩;rw[<-hcm];exact h2 R
    unfold mStep at h⊢;rw[if_pos hwj]at h;rw[if_pos hwi]
    rcases kj with _|_|_|kj
    . obtain⟨v,h1,h2⟩:=h;obtain⟨obj,h3,h4⟩:=e _ _ h2;refine⟨obj,h3,fun R=>?_⟩;dsimp only;rw[wj,if_pos hwj,ej];exact⟨v,fun w hw=>(h1 w hw.1).mono fun u w' ⟨c1,c2,c3⟩=>⟨c1,c2,c3,hw.2.below c2⟩,h4 R⟩
    . obtain⟨α,hα,f,S',c1,c2,h1,h2⟩:=h;obtain⟨obj,h3,_⟩:=e _ _ (h2 (Classical.choice hα));refine⟨obj,h3,fun R=>?_⟩;dsimp only;rw[wj,if_pos hwj,ej];refine⟨α,hα,f,fun x w=>S' x w/\Has base R obj w,fun x=>(c1 x).has R obj,fun x w hw=>⟨(c2 x w hw.1).1,(c2 x w hw.1).2,hw.2⟩,fun w hw=>(h1 w hw.1).mono fun u w' ⟨x,d1,d2,d3⟩=>⟨x,d1,d2,d3,hw.2.below d2⟩,fun x=>?_⟩;obtain⟨obj',h3',h4⟩:=e _ _ (h2 x);obtain rfl:=obj_uniq ((h3 w0 hw0).symm.trans (h3' w0 hw0));exact h4 R
    . obtain⟨objj,h1,h2⟩:=h;obtain⟨obj,h3,_⟩:=e _ _ (h2 0);refine⟨obj,h3,fun R=>?_⟩;dsimp only;rw[wj,if_pos hwj,ej];refine⟨objj,h1,fun R'=>?_⟩;obtain⟨obj',h3',h4⟩:=e _ _ (h2 R');obtain rfl:=obj_uniq ((h3 w0 hw0).symm.trans (h3' w0 hw0))
      have e2:(fun w=>(S w/\Has base R obj w)/\Has base R' objj w)=(fun w=>(S w/\Has base R' objj w)/\Has base R obj w):=by
        funext w
        exact propext ⟨fun⟨⟨x,y⟩,z⟩=>⟨⟨x,z⟩,y⟩,fun⟨⟨x,y⟩,z⟩=>⟨⟨x,z⟩,y⟩⟩
      rw[e2];exact h4 R
    rcases kj with _|_|kj
    . cases hok
    rotate_left
    . cases hok
    obtain⟨α,hα,f,S',c1,c2,h1,h2⟩:=h;obtain⟨obj,h3,_⟩:=e _ _ (h2 (Classical.choice hα));refine⟨obj,h3,fun R=>?_⟩;dsimp only;rw[wj,if_pos hwj,ej];refine⟨α,hα,f,fun x w=>S' x w/\Has base R obj w,fun x=>(c1 x).has R obj,fun x w hw=>c2 x w hw.1,fun w hw=>(h1 w hw.1).mono fun u w' ⟨x,d1,d2,d3⟩=>⟨x,d1,d2,d3,d2 rfl R obj hw.2⟩,fun x=>?_⟩;obtain⟨obj',h3',h4⟩:=e _ _ (h2 x);obtain rfl:=obj_uniq ((h3 w0 hw0).symm.trans (h3' w0 hw0));exact h4 R
  rcases kj with _|_|_|_|_|_|kj<;>cases hok
end
def wpM(P:Program)(P0:World->Prop)(base:Nat)(ops:Array Oper)(kd:Nat->Nat)(Q:Act->World->Prop):List Nat->(World->Prop)->Act->Prop
  |[],S,a=> ∀w,S w->Q a w
  | i::l,S,a=>match ops[i]? with
    |none=>False
    |some o=>mStep P P0 base ops (kd i) o S a (wpM P P0 base ops kd Q l)
theorem pull{kd:Nat->Nat}{Q:Act->World->Prop}{w0:World}(hw0:P0 w0)(hsel:∀(j:Nat) (o:Oper) cs b,ops[j]?=some o->o.op≠.select cs b){i:Nat}{oi:Oper}(hi:ops[i]?=some oi):∀(l:List Nat) (S:World->Prop) (a:Act),l.Pairwise (· < ·)->i∈l->
    (∀j∈l,j<i-> ∀oj,ops[j]?=some oj->oj.apart ops oi=true/\okPair (kd j) (kd i)=true)->Clos S->(∀w,S w->P0 w)->wpM P P0 base ops kd Q l S a->mStep P P0 base ops (kd i) oi S a (wpM P P0 base ops kd Q (l.erase i))
  |[],_,_,_,hm,_,_,_,_=>by cases hm
  | j ::l,S,a,hl,hm,hcl,hc,hp,h=>by
    by_cases hji:j=i
    . subst hji;rw[List.erase_cons_head];unfold wpM at h;rw[hi]at h;exact h
    have hm':i∈l:=by
      rcases List.mem_cons.1 hm with e|e
      . exact absurd e.symm hji
      exact e
    rw[List.pairwise_cons]at hl;have hlt:=hl.1 i hm';rw[List.erase_cons_tail (by simpa using hji)];unfold wpM at h
    cases hj:ops[j]? with
    |none=>rw[hj]at h;exact h.elim
    | some oj=>
      rw[hj]at h;obtain⟨hap,hok⟩:=hcl j (List.mem_cons_self ..) hlt oj hj;have h1:=mStep.mono hc hp (fun S' a' hc' hp' hk=>pull hw0 hsel hi l S' a' hl.2 hm' (fun k hk'=>hcl k (List.mem_cons_of_mem _ hk')) hc' hp' hk) h;have h2:=swap hw0 hap (fun cs b=>hsel i oi cs b hi) (fun cs b=>hsel j oj cs b hj) hok hc hp h1;refine mStep.mono hc hp (fun S' a' _ _ hk=>?_) h2;unfold wpM;rw[hj];exact hk
theorem mStep.wp{k:Nat}{o:Oper}{S:World->Prop}{a:Act}{K:(World->Prop)->Act->Prop}{K':Act->World->Prop}{Q':Exit->Act->World->Prop}{w:World}(hbase:∀w,P0 w->base<=w.heap.size)(hc:Clos S)(hSP:∀w,S w->P0 w)(hw:S w)
    (h:∀S' a' w',Clos S'->(∀w,S' w->P0 w)->S' w'->K S' a'->K' a' w') (hs:mStep P P0 base ops k o S a K):
    if Region.wanted o (yielded ops a.tmps)=true then o.wp P a w K' Q'\/(o.asks P a w/\LetsOut Q')else K' (a.put o.dst undef) w:=by
  unfold mStep at hs
  split
  . rename_i hg
    rw[if_pos hg]at hs;refine .inl ?_;unfold Oper.wp
    rcases k with _|_|_|_|_|k
    . obtain⟨v,h1,h2⟩:=hs;exact Does.upon (R:=fun u w'=>u=v/\w'=w) (fun u w' ⟨e1,e2⟩=>by subst e1;subst e2;exact h _ _ _ hc hSP hw h2) (Flt.does ⟨rfl,rfl⟩ (h1 w (hSP w hw)))
    . obtain⟨v,h1,h2⟩:=hs;exact Does.upon (fun u w' ⟨e1,_,e2⟩=>by subst e1;exact h _ _ _ hc hSP e2 h2) (h1 w hw)
    . obtain⟨α,_,f,S',c1,c2,h1,h2⟩:=hs;exact Does.upon (fun u w' ⟨x,hx,_,hu⟩=>by subst hx;exact h _ _ _ (c1 x) (fun w hw=>(c2 x w hw).1) hu (h2 x)) (h1 w hw)
    . obtain⟨obj,h1,h2⟩:=hs;rw[h1 w (hSP w hw)];exact h _ _ _ (hc.has _ obj) (fun w' hw'=>hSP w' hw'.1) ⟨hc w _ hw ((Below.refl _ _).alloc (Nat.le_refl _) _),hbase w (hSP w hw),heap_new w obj⟩ (h2 w.heap.size)
    . obtain⟨S',c1,c2,h1,h2⟩:=hs;exact Does.upon (fun u w' ⟨e,hu⟩=>by subst e;exact h _ _ _ c1 c2 hu h2) (h1 w hw)
    obtain⟨α,_,f,S',c1,c2,h1,h2⟩:=hs;exact Does.upon (fun u w' ⟨x,hx,_,hu⟩=>by subst hx;exact h _ _ _ (c1 x) (fun w hw=>c2 x w hw) hu (h2 x)) (h1 w hw)
  rename_i hg
  rw[if_neg hg]at hs;exact h _ _ _ hc hSP hw hs
def floatB(md:Region.Mode)(ops:Array Oper)(ks:List Nat):Bool:=
  let an:=ancAll md ops.toList []
  (List.range ops.size).all fun j=>match ops[j]? with
    |none=>true
    | some oj=>(oj.after.toList.all fun e=> !Region.binds md e||decide (e.on<j))&&
      (List.range j).all fun i=>(an.getD j []).contains i||(okPair (ks.getD i 0) (ks.getD j 0)&&match ops[i]? with
        |none=>true
        |some oi=>oi.apart ops oj)
theorem floatB_spec{ks:List Nat}(h:floatB md ops ks=true){j:Nat}{oj:Oper}(hj:ops[j]?=some oj):
    (∀e∈oj.after,Region.binds md e=true->e.on<j)/\ ∀i oi,i<j->ops[i]?=some oi->After md ops i j\/(okPair (ks.getD i 0) (ks.getD j 0)=true/\oi.apart ops oj=true):=by
  unfold floatB at h;have hjs:j<ops.size:=(Array.getElem?_eq_some_iff.1 hj).1;have h1:=List.all_eq_true.1 h j (List.mem_range.2 hjs);rw[hj]at h1;simp only[Bool.and_eq_true]at h1;refine⟨fun e he hb=>?_,fun i oi hi ho=>?_⟩
  . have:=List.all_eq_true.1 h1.1 e (by simpa using he)
    simpa[hb]using this
  have h2:=List.all_eq_true.1 h1.2 i (List.mem_range.2 hi);rw[ho]at h2;simp only[Bool.or_eq_true,Bool.and_eq_true]at h2
  rcases h2 with h2|⟨h2,h3⟩
  . refine .inl fun listed hc hr=>?_
    obtain⟨_,o,ho',hd⟩:=mem_ready.1 hr;exact ancAll_sound hc ops.toList [] (fun j=>by simp) (fun j o hj=>absurd hj (Nat.not_lt_zero _)) j o ho' (by rw[length_ancAll];simpa using hjs) hd i (by simpa using h2)
  exact .inr ⟨h2,h3⟩
theorem wpAny_of_M{kd:Nat->Nat}{ks:List Nat}(hkd:∀i,kd i=ks.getD i 0){Q:Act->World->Prop}{Q':Exit->Act->World->Prop}(hQ:∀a w,Q a w->Q' .normal a w){w0:World}(hw0:P0 w0)(hbase:∀w,P0 w->base<=w.heap.size)(hsel:∀(j:Nat) (o:Oper) cs b,ops[j]?=some o->o.op≠.select cs b)(hB:floatB md ops ks=true):
    ∀(fuel:Nat) (listed:Array Bool) (l:List Nat) (S:World->Prop) (a:Act) (w:World),(∀i,i∈l↔i<ops.size/\listed.getD i true=false)->l.Pairwise (· < ·)->listed.size=ops.size->Closed md ops listed->Clos S->(∀w,S w->P0 w)->S w->wpM P P0 base ops kd Q l S a->l.length<=fuel->wpAny P md ops Q' fuel listed a w
  | 0,listed,l,S,a,w,hm,_,_,_,_,_,hw,h,hf=>by
    obtain rfl:l=[]:=List.eq_nil_of_length_eq_zero (by omega);refine⟨?_,hQ _ _ (h w hw)⟩;refine List.eq_nil_iff_forall_not_mem.2 fun j hj=>?_
    obtain⟨h1,o,ho,_⟩:=mem_ready.1 hj;exact absurd ((hm j).2 ⟨(Array.getElem?_eq_some_iff.1 ho).1,h1⟩) List.not_mem_nil
  | fuel + 1, listed,l,S,a,w,hm,hpw,hsz,hcl,hc,hp,hw,h,hf=>by
    refine⟨fun h0=>?_,fun i hi=>?_⟩
    . cases l with
      |nil=>exact hQ _ _ (h w hw)
      | cons j l=>
        exfalso
        obtain⟨hj1,hj2⟩:=(hm j).1 (List.mem_cons_self ..);have hoj:ops[j]?=some ops[j]:=Array.getElem?_eq_getElem hj1
        have hr:j∈Region.ready md ops listed:=mem_ready.2 ⟨hj2,_,hoj,fun e he hb=>by
          have hlt:=(floatB_spec hB hoj).1 e he hb
          cases hv:listed.getD e.on false with
          |true=>rfl
          | false=>
            exfalso
            have hes:e.on<listed.size:=by omega
            have h3:listed.getD e.on true=false:=by
              rw[Array.getD_eq_getD_getElem?,Array.getElem?_eq_getElem hes]at hv⊢
              simpa using hv
            have h4:=(hm e.on).2 ⟨by omega,h3⟩;rw[List.pairwise_cons]at hpw
            rcases List.mem_cons.1 h4 with h5|h5
            . omega
            have:=hpw.1 _ h5;omega⟩
        rw[h0]at hr
        cases hr
    obtain⟨hun,oi,ho,_⟩:=mem_ready.1 hi;have hil:i∈l:=(hm i).2 ⟨(Array.getElem?_eq_some_iff.1 ho).1,hun⟩
    have hpl:=pull (kd:=kd) hw0 hsel ho l S a hpw hil (fun j hj hlt oj hoj=>by
      rcases(floatB_spec hB ho).2 j oj hlt hoj with h1|h1
      . have h2:=h1 listed hcl hi;have h3:=((hm j).1 hj).2;have hjs:j<listed.size:=by rw[hsz];exact((hm j).1 hj).1
        rw[Array.getD_eq_getD_getElem?,Array.getElem?_eq_getElem hjs]at h2 h3;simp only[Option.getD_some]at h2 h3;rw[h2]at h3;cases h3
      rw[hkd,hkd];exact⟨h1.2,h1.1⟩) hc hp h
    unfold wpOp;rw[ho];refine mStep.wp hbase hc hp hw (fun S' a' w' hc' hp' hw' hk=>?_) hpl;refine wpAny_of_M hkd hQ hw0 hbase hsel hB fuel _ (l.erase i) S' a' w' (fun k=>?_) (hpw.sublist List.erase_sublist) (by rw[Array.size_setIfInBounds];exact hsz) (hcl.set hi) hc' hp' hw' hk (by rw[List.length_erase_of_mem hil];omega);have hnd:l.Nodup:=hpw.imp (fun h=>Nat.ne_of_lt h);rw[hnd.mem_erase_iff,hm k]
    by_cases hki:i=k
    . subst hki;have his:i<listed.size:=by rw[hsz];exact(Array.getElem?_eq_some_iff.1 ho).1
      simp[his]
    rw[getD_set_ne true hki];exact⟨fun h=>h.2,fun h=>⟨fun e=>hki e.symm,h⟩⟩
structure KS(V:World)(l:List (World->Prop))(w:World):Prop where
  old:Below V.heap.size V w
  all:∀F∈l,∀w',Below w.heap.size w w'->F w'
theorem KS.get{V w:World}{l:List (World->Prop)}(h:KS V l w){F:World->Prop}(hm:F∈l):F w:=h.all F hm w (Below.refl _ _)
theorem KS.step{V w w':World}{l:List (World->Prop)}(h:KS V l w)(hb:Below w.heap.size w w'):KS V l w':=
  ⟨h.old.trans (hb.mono h.old.size),fun F hF w2 h2=>h.all F hF w2 (hb.trans (h2.mono hb.size))⟩
theorem KS.start(V:World):KS V [] V:=⟨Below.refl _ _,fun _ h=>absurd h List.not_mem_nil⟩
theorem KS.add{V w:World}{l:List (World->Prop)}(h:KS V l w){F:World->Prop}(hF:∀w',Below w.heap.size w w'->F w'):KS V (F::l) w:=
  ⟨h.old,fun G hG=>by
    rcases List.mem_cons.1 hG with rfl|hG
    . exact hF
    exact h.all G hG⟩
theorem KS.app{V w:World}{l l':List (World->Prop)}(h:KS V l w)(hF:∀F∈l',∀w',Below w.heap.size w w'->F w'):KS V (l'++l) w:=
  ⟨h.old,fun G hG=>by
    rcases List.mem_append.1 hG with hG|hG
    . exact hF G hG
    exact h.all G hG⟩
theorem KS.sub{V w:World}{l l':List (World->Prop)}(h:KS V l w)(hs:∀F∈l',F∈l):KS V l' w:=⟨h.old,fun F hF=>h.all F (hs F hF)⟩
theorem KS.drew{V w:World}{l:List (World->Prop)}(h:KS V l w):KS V l w.drew:=h.step (Below.refl _ _).drew
theorem KS.clos(V:World)(l:List (World->Prop)):Clos (KS V l):=fun _ _ h hb=>h.step hb
theorem KS.has{V:World}{l:List (World->Prop)}{R:Nat}{obj:Obj}:(fun w=>KS V l w/\Has V.heap.size R obj w)=KS V (Has V.heap.size R obj::l):=by
  funext w
  refine propext ⟨fun⟨h1,h2⟩=>h1.add fun w' hb=>h2.below hb,fun h=>⟨h.sub fun F hF=>List.mem_cons_of_mem _ hF,h.get (List.mem_cons_self ..)⟩⟩
def Cls(V:World)(f0 fs:List (World->Prop))(w:World):Prop:=KS V f0 w/\KS V fs w
theorem Cls.clos(V:World)(f0 fs:List (World->Prop)):Clos (Cls V f0 fs):=fun _ _ h hb=>⟨h.1.step hb,h.2.step hb⟩
theorem Cls.has{V:World}{B:Nat}{f0 l:List (World->Prop)}{R:Nat}{obj:Obj}:(fun w=>Cls V f0 l w/\Has B R obj w)=Cls V f0 (Has B R obj::l):=by
  funext w
  refine propext ⟨fun⟨h1,h2⟩=>⟨h1.1,h1.2.add fun w' hb=>h2.below hb⟩,fun h=>⟨⟨h.1,h.2.sub fun F hF=>List.mem_cons_of_mem _ hF⟩,h.2.get (List.mem_cons_self ..)⟩⟩
def wpLx(P:Program)(V:World)(B:Nat)(f0:List (World->Prop))(ops:Array Oper)(Q:Act->World->Prop):List Nat->List Oper->(World->Prop)->Act->Prop
  |_,[],S,a=> ∀w,S w->Q a w
  |[],_::_,_,_=>False
  |k::ks,o::rest,S,a=>mStep P (KS V f0) B ops k o S a (wpLx P V B f0 ops Q ks rest)
structure Lx(P:Program)(V:World)(B:Nat)(f0:List (World->Prop))(ops:Array Oper)(Q:Act->World->Prop)(ks:List Nat)(l:List Oper)(fs:List (World->Prop))(a:Act):Prop where
  out:wpLx P V B f0 ops Q ks l (Cls V f0 fs) a
section
variable {V:World}{B:Nat}{f0:List (World->Prop)}{Q:Act->World->Prop}{ks:List Nat}{o:Oper}{rest:List Oper}{fs:List (World->Prop)}{a:Act}{v:Value}
theorem wanted_undef{j d:Nat}{b:Bool}(hg:o.guard=some (j,b))(hd:(ops[j]?).bind (·.dst)=some d)(hv:slotOf a.tmps.toList d=undef):Region.wanted o (yielded ops a.tmps)=false:=by
  have h1:yielded ops a.tmps j=none:=by
    unfold yielded;rw[hd]
    have h2:∀(l:List Value) (n:Nat),slotOf l n=undef->l[n]?=some undef\/l[n]?=none:=fun l=>by
      induction l with
      |nil=>intro n _;exact .inr (by simp)
      | cons x l ih=>
        intro n h
        cases n with
        |zero=>exact .inl (by simpa[slotOf]using h)
        |succ n=>simpa using ih n h
    simp only[Option.bind_some]
    rcases h2 _ _ hv with h3|h3
    . rw[<-Array.getElem?_toList,h3];rfl
    rw[<-Array.getElem?_toList,h3]
  unfold Region.wanted;rw[hg];dsimp only;rw[h1];rfl
abbrev Wants(ops:Array Oper)(o:Oper)(a:Act):Prop:=Region.wanted o (yielded ops a.tmps)=true
theorem wants0(hg:o.guard=none):Wants ops o a:=wanted_none hg
theorem wantsg{j d:Nat}{b c:Bool}(hg:o.guard=some (j,b))(hd:(ops[j]?).bind (·.dst)=some d)(hv:slotOf a.tmps.toList d=.bool c)(hc:(c==b)=true):Wants ops o a:=(wanted_some hg hd hv).trans hc
theorem lxF0(hg:Wants ops o a)(h1:∀w,KS V f0 w->Flt v w ((execOp a.eval o).run P w))(h:Lx P V B f0 ops Q ks rest fs (a.put o.dst v)):Lx P V B f0 ops Q (0::ks) (o::rest) fs a:=by
  refine⟨?_⟩
  show mStep _ _ _ _ 0 o _ a _
  unfold mStep;rw[if_pos hg];exact⟨v,h1,h.out⟩
theorem lxR0(hg:Wants ops o a)(h1:∀w,KS V f0 w->KS V fs w->Flt v w ((execOp a.eval o).run P w))(h:Lx P V B f0 ops Q ks rest fs (a.put o.dst v)):Lx P V B f0 ops Q (1::ks) (o::rest) fs a:=by
  refine⟨?_⟩
  show mStep _ _ _ _ 1 o _ a _
  unfold mStep;rw[if_pos hg];exact⟨v,fun w hw=>Flt.does ⟨rfl,Below.refl _ _,hw⟩ (h1 w hw.1 hw.2),h.out⟩
theorem lxE0{α:Type}[hα:Nonempty α](f:α->Value)(l':α->List (World->Prop))(hg:Wants ops o a)(h1:∀w,KS V f0 w->KS V fs w->Does P (fun u w'=> ∃x,u=f x/\Below w.heap.size w w'/\ ∀F∈l' x,∀w2,Below w'.heap.size w' w2->F w2) ((execOp a.eval o).run P w))
    (h:∀x,Lx P V B f0 ops Q ks rest (l' x++fs) (a.put o.dst (f x))):Lx P V B f0 ops Q (2::ks) (o::rest) fs a:=by
  refine⟨?_⟩
  show mStep _ _ _ _ 2 o _ a _
  unfold mStep;rw[if_pos hg];exact⟨α,hα,f,fun x=>Cls V f0 (l' x++fs),fun x=>Cls.clos _ _ _,fun x w hw=>⟨hw.1,hw.1,hw.2.sub fun F hF=>List.mem_append_right _ hF⟩,fun w hw=>(h1 w hw.1 hw.2).mono fun u w' ⟨x,c1,c2,c3⟩=>⟨x,c1,c2,hw.1.step c2,(hw.2.step c2).app c3⟩,fun x=>(h x).out⟩
theorem lxA0(obj:Obj)(hg:Wants ops o a)(h1:∀w,KS V f0 w->(execOp a.eval o).run P w=.ok (.value (mkOf o w.heap.size)) (w.alloc obj))(h:∀R,Lx P V B f0 ops Q ks rest (Has B R obj::fs) (a.put o.dst (mkOf o R))):Lx P V B f0 ops Q (3::ks) (o::rest) fs a:=by
  refine⟨?_⟩
  show mStep _ _ _ _ 3 o _ a _
  unfold mStep;rw[if_pos hg];refine⟨obj,h1,fun R=>?_⟩;rw[Cls.has];exact(h R).out
theorem lxS0(l':List (World->Prop))(hg:Wants ops o a)(h1:∀w,KS V f0 w->KS V fs w->Does P (fun u w'=>u=undef/\KS V f0 w'/\KS V l' w') ((execOp a.eval o).run P w))(h:Lx P V B f0 ops Q ks rest l' (a.put o.dst undef)):Lx P V B f0 ops Q (4::ks) (o::rest) fs a:=by
  refine⟨?_⟩
  show mStep _ _ _ _ 4 o _ a _
  unfold mStep;rw[if_pos hg];exact⟨Cls V f0 l',Cls.clos _ _ _,fun w hw=>hw.1,fun w hw=>h1 w hw.1 hw.2,h.out⟩
theorem lxEnd(h:∀w,KS V fs w->Q a w):Lx P V B f0 ops Q ks [] fs a:=⟨by cases ks<;>exact fun w hw=>h w hw.2⟩
theorem lx_to_M{kd:Nat->Nat}{ks0:List Nat}(hkd:∀i,kd i=ks0.getD i 0)(hlen:ops.size<=ks0.length):∀(l:List Oper) (k:Nat) (S:World->Prop) (a:Act),(∀j,l[j]?=ops[k+j]?)->wpLx P V B f0 ops Q (ks0.drop k) l S a->wpM P (KS V f0) B ops kd Q (List.range' k l.length) S a
  |[],k,S,a,_,h=>by cases hk:ks0.drop k<;>(rw[hk]at h;exact h)
  | o ::l,k,S,a,hl,h=>by
    have h0:ops[k]?=some o:=by simpa using(hl 0).symm
    have hks:k<ks0.length:=Nat.lt_of_lt_of_le (Array.getElem?_eq_some_iff.1 h0).1 hlen
    have hdrop:ks0.drop k=ks0.getD k 0::ks0.drop (k+1):=by
      rw[List.drop_eq_getElem_cons hks];simp[hks]
    rw[hdrop]at h;rw[List.length_cons,List.range'_succ];unfold wpM;rw[h0];dsimp only;rw[hkd]
    have hk:∀S' a',wpLx P V B f0 ops Q (ks0.drop (k+1)) l S' a'->wpM P (KS V f0) B ops kd Q (List.range' (k+1) l.length) S' a':=fun S' a' h'=>
      lx_to_M hkd hlen l (k+1) S' a' (fun j=>by have:=hl (j+1);simpa[Nat.add_assoc,Nat.add_comm 1 j]using this) h'
    change mStep P (KS V f0) B ops (ks0.getD k 0) o S a (wpLx P V B f0 ops Q (ks0.drop (k+1)) l)at h
    generalize ks0.getD k 0=kk at h;unfold mStep at h⊢
    split
    . rename_i hw
      rw[if_pos hw]at h
      rcases kk with _|_|_|_|_|kk
      . obtain⟨v,h1,h2⟩:=h;exact⟨v,h1,hk _ _ h2⟩
      . obtain⟨v,h1,h2⟩:=h;exact⟨v,h1,hk _ _ h2⟩
      . obtain⟨α,hα,f,S',h1,h2,h3,h4⟩:=h;exact⟨α,hα,f,S',h1,h2,h3,fun x=>hk _ _ (h4 x)⟩
      . obtain⟨obj,h1,h2⟩:=h;exact⟨obj,h1,fun R=>hk _ _ (h2 R)⟩
      . obtain⟨S',h1,h2,h3,h4⟩:=h;exact⟨S',h1,h2,h3,hk _ _ h4⟩
      obtain⟨α,hα,f,S',h1,h2,h3,h4⟩:=h;exact⟨α,hα,f,S',h1,h2,h3,fun x=>hk _ _ (h4 x)⟩
    rename_i hw
    rw[if_neg hw]at h;exact hk _ _ h
end
theorem wp_region_floatB{id:Nat}{Q:Exit->Act->World->Prop}{a:Act}{w:World}{l:List Oper}(V:World)(B:Nat)(f0 fs:List (World->Prop))(ks:List Nat)(hm:P.follows .mixedOrders=true)
    (hn:Region.noSelect l.toArray=true) (hlen:(l.length==ks.length)=true) (hst:floatB .any l.toArray ks=true) (hB:∀w,KS V f0 w->B<=w.heap.size) (hS0:KS V f0 w.drew) (hS:KS V fs w.drew) (h:Lx P V B f0 l.toArray (fun a w=>Q .normal a w) ks l fs a):
    (Code.region id l.toArray true).wp P Q a w:=by
  have hlen':l.length=ks.length:=by simpa using hlen
  refine wp_region_any hm ?_
  refine wpAny_of_M (P0:=KS V f0) (base:=B) (kd:=fun i=>ks.getD i 0) (ks:=ks) (fun _=>rfl) (Q:=fun a w=>Q .normal a w) (fun _ _ h=>h) hS0 hB (Region.noSelect_spec hn) hst _ _ (List.range' 0 l.length) (Cls V f0 fs) a _ (fun i=>?_) List.pairwise_lt_range' (by simp) (fun j o hj ht=>?_) (Cls.clos _ _ _) (fun w hw=>hw.1) ⟨hS0,hS⟩
    (lx_to_M (ops:=l.toArray) (ks0:=ks) (fun _=>rfl) (by simp[hlen']) l 0 _ a (by simp) (by simpa using h.out)) (by simp)
  . rw[List.mem_range'_1];constructor
    . intro hi;have hlt:i<l.length:=by omega
      simp[hlt]
    intro hi;have:=hi.1;simp at this;omega
  have hlt:j<l.toArray.size:=(Array.getElem?_eq_some_iff.1 hj).1;simp at hlt;simp[hlt]at ht
theorem wp_region_float0{id:Nat}{Q:Exit->Act->World->Prop}{a:Act}{w:World}{l:List Oper}(V:World)(f0 fs:List (World->Prop))(ks:List Nat)(hm:P.follows .mixedOrders=true)
    (hn:Region.noSelect l.toArray=true) (hlen:(l.length==ks.length)=true) (hst:floatB .any l.toArray ks=true) (hS0:KS V f0 w.drew) (hS:KS V fs w.drew) (h:Lx P V V.heap.size f0 l.toArray (fun a w=>Q .normal a w) ks l fs a):
    (Code.region id l.toArray true).wp P Q a w:=wp_region_floatB V V.heap.size f0 fs ks hm hn hlen hst (fun _ hw=>hw.old.size) hS0 hS h
theorem KS.nil{V w:World}{l:List (World->Prop)}(h:KS V l w):KS V [] w:=⟨h.old,fun _ h=>absurd h List.not_mem_nil⟩
theorem wp_region_float{id:Nat}{Q:Exit->Act->World->Prop}{a:Act}{w:World}{l:List Oper}(V:World)(fs:List (World->Prop))(ks:List Nat)(hm:P.follows .mixedOrders=true)
    (hn:Region.noSelect l.toArray=true) (hlen:(l.length==ks.length)=true) (hst:floatB .any l.toArray ks=true) (hS:KS V fs w.drew) (h:Lx P V V.heap.size [] l.toArray (fun a w=>Q .normal a w) ks l fs a):
    (Code.region id l.toArray true).wp P Q a w:=wp_region_float0 V [] fs ks hm hn hlen hst hS.nil hS h
end
/-! Steps that stand often.-/
theorem zs0{P Q:Prop}(q:Q)(pq:Q->P:=by intro q;(apply lexF rfl;(· intro _;go_simp;(try go_bits);exact⟨rfl,rfl⟩);simp only[Act.put,List.setIfInBounds_toArray,List.set_cons_zero,List.set_cons_succ]);exact q):P:=pq q
theorem zs1{P Q:Prop}(q:Q)(pq:Q->P:=by intro q;(first|(apply lexN (j:=2) (d:=83) (b:=false) rfl rfl rfl rfl;simp only[Act.put,List.setIfInBounds_toArray,List.set_cons_zero,List.set_cons_succ])|(apply lexN' (j:=2) (d:=83) (b:=false) rfl rfl rfl;simp only[Act.put,List.setIfInBounds_toArray,List.set_cons_zero,List.set_cons_succ])|(apply lexFg (j:=2) (d:=83) (b:=false) rfl rfl rfl rfl;(· intro _;go_simp;(try go_bits);exact⟨rfl,rfl⟩);simp only[Act.put,List.setIfInBounds_toArray,List.set_cons_zero,List.set_cons_succ]));exact q):P:=pq q
theorem zs2{P Q:Prop}(q:Q)(pq:Q->P:=by intro q;(apply lexH rfl;(· intro w' hw';have hcc:=cellsBelow hw';go_simp;(try go_bits);exact⟨rfl,hw'⟩);simp only[Act.put,List.setIfInBounds_toArray,List.set_cons_zero,List.set_cons_succ]);exact q):P:=pq q
theorem zs3{P Q:Prop}(q:Q)(pq:Q->P:=by intro q;(apply lxF0 (wants0 rfl);(· intro w' h0;have hw':=h0.old;go_simp;(try go_bits);exact⟨rfl,rfl⟩);simp only[Act.put,List.setIfInBounds_toArray,List.set_cons_zero,List.set_cons_succ]);exact q):P:=pq q
theorem zs4{P Q:Prop}(q:Q)(pq:Q->P:=by intro q;(simp only[Act.put,List.setIfInBounds_toArray,List.set_cons_zero,List.set_cons_succ]);exact q):P:=pq q
theorem zs5{P Q:Prop}(q:Q)(pq:Q->P:=by intro q;(apply lxF0 (wants0 rfl);(· intro w' h0;have hw':=h0.old;have hcc:=cellsBelow hw';go_simp;(try go_bits);exact⟨rfl,rfl⟩);simp only[Act.put,List.setIfInBounds_toArray,List.set_cons_zero,List.set_cons_succ]);exact q):P:=pq q
theorem zs6{P Q:Prop}(q:Q)(pq:Q->P:=by intro q;(first|(apply lexN (j:=2) (d:=83) (b:=false) rfl rfl rfl rfl;simp only[Act.put,List.setIfInBounds_toArray,List.set_cons_zero,List.set_cons_succ])|(apply lexN' (j:=2) (d:=83) (b:=false) rfl rfl rfl;simp only[Act.put,List.setIfInBounds_toArray,List.set_cons_zero,List.set_cons_succ])|(apply lexHg (j:=2) (d:=83) (b:=false) rfl rfl rfl rfl;(· intro w' hw';have hcc:=cellsBelow hw';go_simp;(try go_bits);exact⟨rfl,hw'⟩);simp only[Act.put,List.setIfInBounds_toArray,List.set_cons_zero,List.set_cons_succ]));exact q):P:=pq q
theorem zs7{P Q:Prop}(q:Q)(pq:Q->P:=by intro q;(first|(apply lexN (j:=2) (d:=13) (b:=false) rfl rfl rfl rfl;simp only[Act.put,List.setIfInBounds_toArray,List.set_cons_zero,List.set_cons_succ])|(apply lexN' (j:=2) (d:=13) (b:=false) rfl rfl rfl;simp only[Act.put,List.setIfInBounds_toArray,List.set_cons_zero,List.set_cons_succ])|(apply lexHg (j:=2) (d:=13) (b:=false) rfl rfl rfl rfl;(· intro w' hw';have hcc:=cellsBelow hw';go_simp;(try go_bits);exact⟨rfl,hw'⟩);simp only[Act.put,List.setIfInBounds_toArray,List.set_cons_zero,List.set_cons_succ]));exact q):P:=pq q
theorem zsm{P:Prop}(p:P:=by repeat (first|exact List.mem_cons_self ..|apply List.mem_cons_of_mem)):P:=p
end Go.Proofs.YtjhaedfpigebdaaGreatDoor
namespace Go.Proofs.YtjhaedfpigebdaaGreatDoor
open Go.RowKit
open Go.Lib (decDigits)
section
def B32:Nat:=4294967296
theorem b32:B32=4294967296:=rfl
theorem b32_2:2<=B32:=by decide
structure DigIn(W:World)(g:Nat)(ds:List Nat):Prop where
  lt:g<W.heap.size
  at0:∀k (h:k<ds.length),W.cell? ⟨g,k,none⟩=some (.int .u32 (ds[k]:Int))
theorem DigIn.below{W W':World}{g:Nat}{ds:List Nat}(h:DigIn W g ds)(hb:Below W.heap.size W W'):DigIn W' g ds:=
  ⟨Nat.lt_of_lt_of_le h.lt hb.size,fun k hk=>(hb.cell (p:=⟨g,k,none⟩) h.lt).trans (h.at0 k hk)⟩
theorem DigIn.take{W:World}{g:Nat}{ds:List Nat}(h:DigIn W g ds)(n:Nat):DigIn W g (ds.take n):=
  ⟨h.lt,fun k hk=>by rw[List.length_take]at hk;rw[h.at0 k (by omega)];simp⟩
def DigV(W:World)(s:Value)(ds:List Nat):Prop:=(ds=[]/\ ∃p c,s=.slice p 0 c)\/ ∃g c,s=.slice (some ⟨g,0,none⟩) ds.length c/\DigIn W g ds/\ds.length<=c/\c<=9223372036854775807
theorem DigV.below{W W':World}{s:Value}{ds:List Nat}(h:DigV W s ds)(hb:Below W.heap.size W W'):DigV W' s ds:=
  h.imp id fun⟨g,c,e,t,hc⟩=>⟨g,c,e,t.below hb,hc⟩
def NatV(W:World)(v:Value)(n:Nat):Prop:=(n=0/\v=.agg #[.slice none 0 0])\/(n≠0/\ ∃g c,v=.agg #[.slice (some ⟨g,0,none⟩) (digs B32 n).length c]/\DigIn W g (digs B32 n)/\(digs B32 n).length<=c/\c<=9223372036854775807)
theorem NatV.below{W W':World}{v:Value}{n:Nat}(h:NatV W v n)(hb:Below W.heap.size W W'):NatV W' v n:=
  h.imp id fun⟨h0,g,c,e,t,hc⟩=>⟨h0,g,c,e,t.below hb,hc⟩
theorem NatV.zero(W:World):NatV W (.agg #[.slice none 0 0]) 0:=.inl ⟨rfl,rfl⟩
theorem NatV.dig{W:World}{v:Value}{n:Nat}(h:NatV W v n):∃p c,v=.agg #[.slice p (digs B32 n).length c]/\DigV W (.slice p (digs B32 n).length c) (digs B32 n):=by
  rcases h with⟨rfl,rfl⟩|⟨_,g,c,rfl,t,hc⟩
  . rw[digs_zero];exact⟨none,0,rfl,.inl ⟨rfl,_,_,rfl⟩⟩
  exact⟨_,c,rfl,.inr ⟨g,c,rfl,t,hc⟩⟩
theorem digs_last_ne{n:Nat}(h:n≠0):digs B32 n≠[]:=fun e=>h ((digs_eq_nil b32_2).1 e)
set_option maxHeartbeats 400000 in
theorem isZero_any(v:Value)(n:Nat)(w:World)(hv:NatV w v n):
    Calls Tryz.prog 55 #[v] w fun e w'=>e=.returned (.bool (n==0))/\Below w.heap.size w w':=by
  rcases hv with⟨rfl,rfl⟩|⟨h0,g,c,rfl,hd,_⟩
  . go_enter Tryz.func55,Tryz.ntmps55;go_wp2;go_ret;exact⟨rfl,(Below.refl _ _).alloc (Nat.le_refl _) _⟩
  have hl:0<(digs B32 n).length:=List.length_pos_iff.2 (digs_last_ne h0);have hq:((((digs B32 n).length:Nat):Int)==0)=false:=by rw[beq_eq_false_iff_ne];omega
  have HN:=hid (show(n==0)=false by simpa using h0);clear h0;go_enter Tryz.func55,Tryz.ntmps55;go_wp2;go_ret;exact⟨by rw[HN.out];rfl,(Below.refl _ _).alloc (Nat.le_refl _) _⟩
theorem trim_take_zero{ds:List Nat}{k:Nat}(hk:k+1<=ds.length)(h:ds[k]=0):trimD (ds.take (k+1))=trimD (ds.take k):=by
  rw[List.take_succ_eq_append_getElem (by omega),h,trimD_zero]
theorem trim_take_last{ds:List Nat}{k:Nat}(hk:k+1<=ds.length)(h:ds[k]≠0):trimD (ds.take (k+1))=ds.take (k+1):=by
  rw[List.take_succ_eq_append_getElem (by omega),trimD_last h]
theorem natv_of{W:World}{g:Nat}{ds:List Nat}(hd:DigIn W g ds)(hlt:∀d∈ds,d<B32)(k:Nat)(hk:k+1<=ds.length)(h:trimD ds=ds.take (k+1))(hm:ds.length<=9223372036854775807):
    NatV W (.agg #[.slice (some ⟨g,0,none⟩) (k+1) (k+1)]) (val B32 ds):=by
  have e:digs B32 (val B32 ds)=ds.take (k+1):=by rw[digs_val b32_2 hlt,h]
  have hl:(ds.take (k+1)).length=k+1:=by rw[List.length_take];omega
  refine .inr ⟨fun h0=>?_,g,k+1,?_,?_,?_,by omega⟩
  . rw[h0,digs_zero]at e;rw[<-e]at hl;simp at hl
  . rw[e,hl]
  . rw[e];exact hd.take _
  rw[e,hl];exact Nat.le_refl _
set_option maxRecDepth 100000 in
set_option maxHeartbeats 1000000 in
theorem trim_any(s:Value)(ds:List Nat)(w:World)(hs:DigV w s ds)(hlt:∀d∈ds,d<B32)(hl:ds.length<=1000000):
    Calls Tryz.prog 104 #[s] w fun e w'=> ∃v,e=.returned v/\NatV w' v (val B32 ds)/\Below w.heap.size w w':=by
  rcases hs with⟨rfl,p,c,rfl⟩|⟨g,c,rfl,hd,hc,hc2⟩
  . go_enter Tryz.func104,Tryz.ntmps104;go_wp2;go_loop [3] (fun n=>n=.int .i64 0) (fun _=>0)
    case atStart=>rfl
    obtain rfl:=hrel;go_wp2;have hc:=cell_box1 (heap_new w (.cells #[.slice none 0 0] 68));refine bodyPost_ret (v:=.agg #[.slice none 0 0]) (by simp[results,Tryz.results104,go_sem,hc]) rfl ⟨_,rfl,NatV.zero _,(Below.refl _ _).alloc (Nat.le_refl _) _⟩
  have HLT:=hid hlt;have hgl:=hd.lt;clear hlt;go_enter Tryz.func104,Tryz.ntmps104;go_wp2_with fail;go_loop [3] (fun n=> ∃k:Nat,k<=ds.length/\n=.int .i64 k/\Hid (trimD ds=trimD (ds.take k))) (fun n=>(intOf n).toNat)
  case atStart=>exact⟨ds.length,Nat.le_refl _,rfl,hid (by rw[List.take_length])⟩
  obtain⟨k,hk,rfl,HT⟩:=hrel
  by_cases hk0:k=0
  . subst hk0;have h0:val B32 ds=0:=(val_eq_zero b32_2).2 (by rw[HT.out];rfl);have H0:=hid h0;clear h0;go_wp2;have hc:=cell_box1 (heap_new w (.cells #[.slice none 0 0] 68));refine bodyPost_ret (v:=.agg #[.slice none 0 0]) (by simp[results,Tryz.results104,go_sem,hc]) rfl ⟨_,rfl,?_,(Below.refl _ _).alloc (Nat.le_refl _) _⟩;rw[H0.out];exact NatV.zero _
  obtain⟨j,rfl⟩:∃j,k=j+1:=⟨k-1,by omega⟩;have hj:j<ds.length:=by omega
  have g0:=hd.at0 j hj;have q1:(((j+1:Nat):Int)==0)=false:=by rw[beq_eq_false_iff_ne];omega
  by_cases hz:ds[j]=0
  . rw[hz]at g0;have HZ:=hid (trim_take_zero hk hz);clear hz;go_wp2;go_round
    case rel=>exact⟨j,by omega,by go_num,hid (HT.out.trans HZ.out)⟩
    case measure=>simp[intOf]
  have q2:(((ds[j]:Nat):Int)==0)=false:=by rw[beq_eq_false_iff_ne];omega
  have HZ:=hid (trim_take_last hk hz);clear hz;go_wp2;have hW:=(Below.refl w.heap.size w).alloc (Nat.le_refl _) (.cells #[.slice (some ⟨g,0,none⟩) (j+1) (j+1)] 68);have hcl:=cell_box1 (heap_new w (.cells #[.slice (some ⟨g,0,none⟩) (j+1) (j+1)] 68));refine bodyPost_ret (v:=.agg #[.slice (some ⟨g,0,none⟩) (j+1) (j+1)]) (by simp[results,Tryz.results104,go_sem,hcl]) rfl ⟨_,rfl,?_,hW⟩;exact natv_of (hd.below hW) HLT.out j hk (HT.out.trans HZ.out) (by omega)
theorem dig_two(a b:Nat)(w:World)(t:TypeId):DigV (w.alloc (.cells #[.int .u32 (a:Int),.int .u32 (b:Int)] t)) (.slice (some ⟨w.heap.size,0,none⟩) 2 2) [a,b]:=by
  refine .inr ⟨w.heap.size,2,rfl,⟨by simp,fun k hk=>?_⟩,by simp,by omega⟩;have h:=heap_new w (.cells #[.int .u32 (a:Int),.int .u32 (b:Int)] t)
  match k,hk with
  |0,_=>unfold World.cell?;rw[h];rfl
  |1,_=>unfold World.cell?;rw[h];rfl
theorem NatV.store{W:World}{v:Value}{n R:Nat}{p:Option Addr}{l c:Nat}(h:NatV W v n)(hR:W.cell? ⟨R,0,none⟩=some (.slice p l c))(u:Value):NatV (W.setCell ⟨R,0,none⟩ u) v n:=by
  refine h.imp id fun⟨h0,g,c,e,t,hc⟩=>⟨h0,g,c,e,⟨by simpa[World.setCell]using t.lt,fun k hk=>?_⟩,hc⟩
  have hne:g≠R:=fun e=>by
    subst e;have:=t.at0 0 (by omega);rw[hR]at this;cases this
  rw[<-t.at0 k hk];exact World.cell?_of_block (w:=W) (Below.heap_setCell _ _ _ _ hne)
set_option maxHeartbeats 1000000 in
theorem of_any(n:Nat)(w:World)(hn:n<18446744073709551616):
    Calls Tryz.prog 83 #[.int .u64 (n:Int)] w fun e w'=> ∃v,e=.returned v/\NatV w' v n/\Below w.heap.size w w':=by
  have HT:=hid (fun(w1:World) (h:DigV w1 (.slice (some ⟨w.heap.size+1,0,none⟩) 2 2) [n%B32,n/B32])=>trim_any _ _ w1 h (by
    intro d hd;have:=b32;simp only[List.mem_cons,List.not_mem_nil,or_false]at hd
    rcases hd with rfl|rfl
    . exact Nat.mod_lt _ (by omega)
    exact Nat.div_lt_of_lt_mul (by rw[b32];omega)) (by simp))
  go_enter Tryz.func83,Tryz.ntmps83;go_wp2_with fail;have hval:val B32 [n%B32,n/B32]=n:=by simp only[val];have:=Nat.mod_add_div n B32;omega
  obtain⟨W1,hW1,hR1,hb1,hd1⟩:∃W1,W1=(w.alloc (.cells #[.slice none 0 0] 68)).alloc (.cells #[.int .u32 ((n:Int)%4294967296),.int .u32 ((n:Int)/4294967296)] 132)/\W1.heap[w.heap.size]?=some (.cells #[.slice none 0 0] 68)/\Below w.heap.size w W1/\DigV W1 (.slice (some ⟨w.heap.size+1,0,none⟩) 2 2) [n%B32,n/B32]:=by
    refine⟨_,rfl,(Below.heap_alloc _ _ _ (by simp)).trans (heap_new w _),((Below.refl _ w).alloc (Nat.le_refl _) _).alloc (by simp) _,?_⟩;have:=dig_two (n%B32) (n/B32) (w.alloc (.cells #[.slice none 0 0] 68)) 132;rw[World.size_alloc]at this;exact this
  rw[<-hW1];have hs1:w.heap.size<W1.heap.size:=by rw[hW1];simp;omega
  clear hW1;go_wp2_with (go_at_call 104;refine(HT.out _ hd1).mono ?_;clear HT;rintro e w2 ⟨v,rfl,hv,hw2⟩;rw[hval]at hv;obtain⟨p,c,rfl,_⟩:=hv.dig;have hR2:=(hw2.block _ hs1).trans hR1;have hc2:=cell_box1 hR2;have hf2:=free_box1 hR2);have hc3:=res_store hR2 (.slice p (digs B32 n).length c);refine bodyPost_ret (v:=.agg #[.slice p (digs B32 n).length c]) (by simp[results,Tryz.results83,go_sem,hc3]) rfl ⟨_,rfl,hv.store hc2 _,?_⟩;exact(hb1.trans (hw2.mono (by omega))).setCell (p:=⟨w.heap.size,0,none⟩) (Nat.le_refl _) _
theorem digs_one{n:Nat}(h0:n≠0)(h:n<B32):digs B32 n=[n]:=by
  rw[digs_pos b32_2 h0,Nat.mod_eq_of_lt h,Nat.div_eq_of_lt h,digs_zero]
theorem digs_two{n:Nat}(h0:B32<=n)(h:n<18446744073709551616):digs B32 n=[n%B32,n/B32]:=by
  have hb:=b32;have h1:n/B32≠0:=by have:=Nat.div_pos h0 (by omega);omega
  rw[digs_pos b32_2 (by omega),digs_one h1 (Nat.div_lt_of_lt_mul (by rw[hb];omega))]
theorem digs_three{n:Nat}(h:18446744073709551616<=n):3<=(digs B32 n).length:=digs_len_ge b32_2 2 n (by rw[b32];omega)
def u64V(n:Nat):Value:=.tuple #[.int .u64 (if n<18446744073709551616 then(n:Int)else 0),.bool (decide (n<18446744073709551616))]
theorem u64_or(n:Nat)(h:n<18446744073709551616):bits BinOp.or IntKind.u64 (((n/B32:Nat):Int)*4294967296) ((n%B32:Nat):Int)=(n:Int):=by
  have hb:=b32;have h1:n%B32<2^32:=by have:=Nat.mod_lt n (show 0<B32 by omega);omega
  have h2:n/B32<4294967296:=Nat.div_lt_of_lt_mul (by rw[hb];omega);have e1:((n/B32:Nat):Int)*4294967296=((n/B32*4294967296:Nat):Int):=by omega
  rw[e1,u64_or_nat _ _ (by omega) (by omega)];have e2:n/B32*4294967296=2^32*(n/B32):=by omega
  rw[e2, <-Nat.two_pow_add_eq_or_of_lt h1];have:=Nat.mod_add_div n B32;rw[hb]at this⊢;omega
set_option maxRecDepth 100000 in
set_option maxHeartbeats 1000000 in
theorem uint64_any(v:Value)(n:Nat)(w:World)(hv:NatV w v n):
    Calls Tryz.prog 151 #[v] w fun e w'=>e=.returned (u64V n)/\Below w.heap.size w w':=by
  rcases hv with⟨rfl,rfl⟩|⟨h0,g,c,rfl,hd,_⟩
  . go_enter Tryz.func151,Tryz.ntmps151;go_wp2;go_ret2;exact⟨rfl,(Below.refl _ _).alloc (Nat.le_refl _) _⟩
  have hgl:=hd.lt
  by_cases h1:n<B32
  . have hl:=digs_one h0 h1;have HE:=hid (show u64V n=.tuple #[.int .u64 (n:Int),.bool true] by have:=b32;unfold u64V;rw[if_pos (by omega),decide_eq_true (by omega)]);rw[hl]at hd⊢;have g0:=hd.at0 0 (by simp);simp only[List.getElem_cons_zero]at g0;have q:=b32;have q1:(n:Int)<4294967296:=by omega
    clear hd hl h0 h1 q;go_enter Tryz.func151,Tryz.ntmps151;go_wp2;go_ret2;exact⟨by rw[HE.out];rfl,(Below.refl _ _).alloc (Nat.le_refl _) _⟩
  by_cases h2:n<18446744073709551616
  . have hl:=digs_two (by omega) h2;have HE:=hid (show u64V n=.tuple #[.int .u64 (n:Int),.bool true] by unfold u64V;rw[if_pos h2,decide_eq_true h2]);rw[hl]at hd⊢;have g0:=hd.at0 0 (by simp);have g1:=hd.at0 1 (by simp);simp only[List.getElem_cons_zero,List.getElem_cons_succ]at g0 g1;have hor:=hid (u64_or n h2);have hb:=b32;have q1:n/B32<4294967296:=Nat.div_lt_of_lt_mul (by rw[hb];omega);have q2:n%B32<4294967296:=by have:=Nat.mod_lt n (show 0<B32 by omega);omega
    obtain⟨hi,hhi⟩:∃x,n/B32=x:=⟨_,rfl⟩;obtain⟨lo,hlo⟩:∃x,n%B32=x:=⟨_,rfl⟩;rw[hhi]at q1 g1 hor⊢;rw[hlo]at q2 g0 hor⊢;clear hd hl h0 h1 h2 hb hhi hlo;go_enter Tryz.func151,Tryz.ntmps151;go_upto_region 7 with(fail);obtain⟨W1,hW1,hsz,kB,hWb⟩:=box1_head (.slice (some ⟨g,0,none⟩) 2 c) 68 w;have g0':=(hWb.cell (p:=⟨g,0,none⟩) hgl).trans g0;have g1':=(hWb.cell (p:=⟨g,1,none⟩) hgl).trans g1;have hb1:w.heap.size<W1.heap.size:=by omega
    have hb2:g<W1.heap.size:=by omega
    have d0:=cell_box1 kB;rw[<-hW1];clear hW1 g0 g1 hsz;refine wp_region_staged (fun w'=>Below W1.heap.size W1 w') [0,1,0,1,0,0,0,1,0,1,0,0,0,0] (by kernel_rfl) (by kernel_rfl) (by kernel_rfl) (by exact(Below.refl _ _).drew) ?_;refine zs0 ?_;refine zs2 ?_;refine zs0 ?_;refine zs2 ?_
    iterate 3 (refine zs0 ?_)
    refine zs2 ?_;refine zs0 ?_;refine zs2 ?_
    iterate 4 (refine zs0 ?_)
    refine lexEnd (fun w2 hw2=>?_);go_wp2;rw[hor.out];go_ret2;exact⟨by rw[HE.out];rfl,hWb.trans (hw2.mono (by omega))⟩
  have hl:=digs_three (Nat.le_of_not_lt h2);have HE:=hid (show u64V n=.tuple #[.int .u64 0,.bool false] by unfold u64V;rw[if_neg h2,decide_eq_false h2]);obtain⟨l,hl2⟩:∃l,(digs B32 n).length=l:=⟨_,rfl⟩;rw[hl2]at hl⊢;have q0:((l:Int)==0)=false:=by rw[beq_eq_false_iff_ne];omega
  have q1:((l:Int)==1)=false:=by rw[beq_eq_false_iff_ne];omega
  have q2:((l:Int)==2)=false:=by rw[beq_eq_false_iff_ne];omega
  clear hd h0 h1 h2 hl2;go_enter Tryz.func151,Tryz.ntmps151;go_wp2;go_ret2;exact⟨by rw[HE.out];rfl,(Below.refl _ _).alloc (Nat.le_refl _) _⟩
def bitsN(n:Nat):Nat:=if h:n=0 then 0 else bitsN (n/2)+1
termination_by n
decreasing_by omega
theorem bitsN_zero:bitsN 0=0:=by rw[bitsN];simp
theorem bitsN_pos{n:Nat}(h:n≠0):bitsN n=bitsN (n/2)+1:=by rw[bitsN,dif_neg h]
theorem bitLen_bits(f x:Nat)(h:x<2^f):Lib.bitLenAux f x=bitsN x:=by
  induction f generalizing x with
  | zero=>
    have h1:x=0:=by simpa using h
    rw[h1,bitsN_zero];rfl
  | succ f ih=>
    unfold Lib.bitLenAux
    by_cases hx:x=0
    . subst hx;rw[bitsN_zero];simp
    rw[if_neg hx,bitsN_pos hx,ih (x/2) (by rw[Nat.pow_succ]at h;omega)];omega
def cmpN(n m:Nat):Int:=if n<m then-1 else if m<n then 1 else 0
theorem cmpN_lt{n m:Nat}(h:n<m):cmpN n m= -1:=if_pos h
theorem cmpN_gt{n m:Nat}(h:m<n):cmpN n m=1:=by unfold cmpN;rw[if_neg (by omega),if_pos h]
theorem cmpN_eq(n:Nat):cmpN n n=0:=by unfold cmpN;rw[if_neg (by omega),if_neg (by omega)]
theorem val_lt_at{B:Nat}(hB:2<=B){ds es:List Nat}(hd:∀d∈ds,d<B){k:Nat}(h1:k<ds.length)(h2:k<es.length)(hl:ds.length=es.length)(ht:ds.drop (k+1)=es.drop (k+1))(h:ds[k]<es[k]):val B ds<val B es:=by
  have e1:=val_take_drop (B:=B) ds k (by omega);have e2:=val_take_drop (B:=B) es k (by omega);rw[List.drop_eq_getElem_cons h1]at e1;rw[List.drop_eq_getElem_cons h2, <-ht]at e2;simp only[val]at e1 e2
  have h3:val B (ds.take k)<B^k:=by
    have:=val_lt hB (l:=ds.take k) (fun d hd'=>hd d (List.mem_of_mem_take hd'))
    rwa [List.length_take,Nat.min_eq_left (by omega)]at this
  generalize val B (ds.drop (k+1))=X at e1 e2;have h4:B^k*(ds[k]+B*X+1)<=B^k*(es[k]+B*X):=Nat.mul_le_mul_left _ (by omega);rw[Nat.mul_add (B^k) (ds[k]+B*X) 1]at h4;omega
theorem drop_same{ds es:List Nat}{k:Nat}(h1:k<ds.length)(h2:k<es.length)(ht:ds.drop (k+1)=es.drop (k+1))(h:ds[k]=es[k]):ds.drop k=es.drop k:=by
  rw[List.drop_eq_getElem_cons h1,List.drop_eq_getElem_cons h2,ht,h]
set_option maxHeartbeats 1000000 in
theorem cmp_len(p q:Option Addr)(l m c d:Nat)(w:World)(h:l≠m)(_hl:l<=1000000)(_hm:m<=1000000):
    Calls Tryz.prog 116 #[.agg #[.slice p l c],.agg #[.slice q m d]] w fun e w'=>e=.returned (.int .i64 (if l<m then-1 else 1))/\Below w.heap.size w w':=by
  have hne:((l:Int)==(m:Int))=false:=by rw[beq_eq_false_iff_ne];omega
  have hne2:((l:Int) !=(m:Int))=true:=by rw[bne_iff_ne];omega
  by_cases hlt:l<m
  . skip
    go_enter Tryz.func116,Tryz.ntmps116;go_upto_region 1 with(fail);obtain⟨W1,hW1,hsz,kA,kB,hWb⟩:=box2_head (.slice p l c) (.slice q m d) 68 68 w;rw[<-hW1];have hb1:w.heap.size<W1.heap.size:=by omega
    have hb2:w.heap.size+1<W1.heap.size:=by omega
    have d0:=cell_box1 kA;have d1:=cell_box1 kB;clear hW1 hsz h;refine wp_region_staged (fun w'=>Below W1.heap.size W1 w') [0,1,0,1,0,0] (by kernel_rfl) (by kernel_rfl) (by kernel_rfl) (by exact(Below.refl _ _).drew) ?_;refine zs0 ?_;refine zs2 ?_;refine zs0 ?_;refine zs2 ?_
    iterate 2 (refine zs0 ?_)
    refine lexEnd (fun w2 hw2=>?_);go_wp2;go_ret;exact⟨rfl,hWb.trans (hw2.mono (by omega))⟩
  skip
  have hge:¬(l:Int)<(m:Int):=by omega
  go_enter Tryz.func116,Tryz.ntmps116;go_upto_region 1 with(fail);obtain⟨W1,hW1,hsz,kA,kB,hWb⟩:=box2_head (.slice p l c) (.slice q m d) 68 68 w;rw[<-hW1];have hb1:w.heap.size<W1.heap.size:=by omega
  have hb2:w.heap.size+1<W1.heap.size:=by omega
  have d0:=cell_box1 kA;have d1:=cell_box1 kB;clear hW1 hsz h;refine wp_region_staged (fun w'=>Below W1.heap.size W1 w') [0,1,0,1,0,0] (by kernel_rfl) (by kernel_rfl) (by kernel_rfl) (by exact(Below.refl _ _).drew) ?_;refine zs0 ?_;refine zs2 ?_;refine zs0 ?_;refine zs2 ?_
  iterate 2 (refine zs0 ?_)
  refine lexEnd (fun w2 hw2=>?_);go_wp2;go_ret;exact⟨rfl,hWb.trans (hw2.mono (by omega))⟩
set_option maxHeartbeats 1000000 in
theorem cmp_zero(w:World):
    Calls Tryz.prog 116 #[.agg #[.slice none 0 0],.agg #[.slice none 0 0]] w fun e w'=>e=.returned (.int .i64 0)/\Below w.heap.size w w':=by
  go_enter Tryz.func116,Tryz.ntmps116;go_upto_region 1 with(fail);obtain⟨W1,hW1,hsz,kA,kB,hWb⟩:=box2_head (.slice none 0 0) (.slice none 0 0) 68 68 w;rw[<-hW1];have hb1:w.heap.size<W1.heap.size:=by omega
  have hb2:w.heap.size+1<W1.heap.size:=by omega
  have d0:=cell_box1 kA;have d1:=cell_box1 kB;clear hW1 hsz;refine wp_region_staged (fun w'=>Below W1.heap.size W1 w') [0,1,0,1,0,0] (by kernel_rfl) (by kernel_rfl) (by kernel_rfl) (by exact(Below.refl _ _).drew) ?_;refine zs0 ?_;refine zs2 ?_;refine zs0 ?_;refine zs2 ?_
  iterate 2 (refine zs0 ?_)
  refine lexEnd (fun w2 hw2=>?_);go_wp2;go_loop [7] (fun i=>i=.int .i64 (-1)) (fun _=>0)
  case atStart=>rfl
  obtain rfl:=hrel;go_wp2;go_ret;exact⟨rfl,hWb.trans (hw2.mono (by omega))⟩
set_option maxRecDepth 100000 in
set_option maxHeartbeats 1000000 in
theorem cmp_same(g g' c c':Nat)(ds es:List Nat)(w:World)(hd:DigIn w g ds)(he:DigIn w g' es)(hl:ds.length=es.length)(h1:∀d∈ds,d<B32)(h2:∀d∈es,d<B32)(hlen:ds.length<=1000000):
    Calls Tryz.prog 116 #[.agg #[.slice (some ⟨g,0,none⟩) ds.length c],.agg #[.slice (some ⟨g',0,none⟩) ds.length c']] w fun e w'=>e=.returned (.int .i64 (cmpN (val B32 ds) (val B32 es)))/\Below w.heap.size w w':=by
  have H1:=hid h1;have H2:=hid h2;have HL:=hid hl;have hgl:=hd.lt;have hgl':=he.lt;clear h1 h2 hl;go_enter Tryz.func116,Tryz.ntmps116;go_upto_region 1 with(fail);obtain⟨W1,hW1,hsz,kA,kB,hWb⟩:=box2_head (.slice (some ⟨g,0,none⟩) ds.length c) (.slice (some ⟨g',0,none⟩) ds.length c') 68 68 w;have hd1:=hd.below hWb;have he1:=he.below hWb;rw[<-hW1];have hb1:w.heap.size<W1.heap.size:=by omega
  have hb2:w.heap.size+1<W1.heap.size:=by omega
  have hb3:g<W1.heap.size:=by omega
  have hb4:g'<W1.heap.size:=by omega
  have d0:=cell_box1 kA;have d1:=cell_box1 kB;clear hW1 hsz;refine wp_region_staged (fun w'=>Below W1.heap.size W1 w') [0,1,0,1,0,0] (by kernel_rfl) (by kernel_rfl) (by kernel_rfl) (by exact(Below.refl _ _).drew) ?_;refine zs0 ?_;refine zs2 ?_;refine zs0 ?_;refine zs2 ?_
  iterate 2 (refine zs0 ?_)
  refine lexEnd (fun w2 hw2=>?_);clear d0 d1;go_wp2_with fail;go_loopw [7] (fun i wr=> ∃k:Nat,k<=ds.length/\i=.int .i64 ((k:Int)-1)/\Hid (ds.drop k=es.drop k)/\Below W1.heap.size W1 wr) (fun i _=>(intOf i+1).toNat)
  case atStart=>exact⟨ds.length,Nat.le_refl _,rfl,hid (by have:=HL.out;rw[List.drop_length,this,List.drop_length]),hw2⟩
  clear hw2;obtain⟨k,hk,rfl,HD,hbw⟩:=hrel
  by_cases hk0:k=0
  . subst hk0;have HE:=hid (show cmpN (val B32 ds) (val B32 es)=0 by have:=HD.out;simp only[List.drop_zero]at this;rw[this];exact cmpN_eq _);go_wp2;go_ret;exact⟨by rw[HE.out];rfl,hWb.trans (hbw.mono (by omega))⟩
  obtain⟨j,rfl⟩:∃j,k=j+1:=⟨k-1,by omega⟩;have hj:j<ds.length:=by omega
  have hj':j<es.length:=by have:=HL.out;omega
  have ei:(((j+1:Nat):Int)-1)=(j:Int):=by omega
  rw[ei];clear ei;have g0:=hd1.at0 j hj;have g1:=he1.at0 j hj';have q0:0<=(j:Int):=by omega
  go_upto_region 9 with(fail);refine wp_region_staged (fun w'=>Below W1.heap.size W1 w') [0,0,0,1,0,0,0,1,0] (by kernel_rfl) (by kernel_rfl) (by kernel_rfl) (by exact hbw.drew) ?_
  rcases Nat.lt_trichotomy ds[j] es[j]with hc|hc|hc
  . have HE:=hid (cmpN_lt (val_lt_at b32_2 H1.out hj hj' HL.out HD.out hc));have hlt:((ds[j]:Nat):Int)<((es[j]:Nat):Int):=by omega
    clear hc
    iterate 3 (refine zs0 ?_)
    refine zs2 ?_
    iterate 3 (refine zs0 ?_)
    refine zs2 ?_;refine zs0 ?_;refine lexEnd (fun w3 hw3=>?_);go_wp2;go_ret;exact⟨by rw[HE.out];rfl,hWb.trans (hw3.mono (by omega))⟩
  . have HE:=hid (drop_same hj hj' HD.out hc);rw[<-hc]at g1;clear hc
    iterate 3 (refine zs0 ?_)
    refine zs2 ?_
    iterate 3 (refine zs0 ?_)
    refine zs2 ?_;refine zs0 ?_;refine lexEnd (fun w3 hw3=>?_);go_upto_region 11 with(fail);refine wp_region_staged (fun w'=>Below W1.heap.size W1 w') [0,0,0,1,0,0,0,1,0] (by kernel_rfl) (by kernel_rfl) (by kernel_rfl) (by exact hw3.drew) ?_
    iterate 3 (refine zs0 ?_)
    refine zs2 ?_
    iterate 3 (refine zs0 ?_)
    refine zs2 ?_;refine zs0 ?_;refine lexEnd (fun w4 hw4=>?_);go_wp2;go_roundw
    case rel=>exact⟨j,by omega,rfl,HE,hw4⟩
    case measure=>simp[intOf]
  have HE:=hid (cmpN_gt (val_lt_at b32_2 H2.out hj' hj HL.out.symm HD.out.symm hc));have hlt:((es[j]:Nat):Int)<((ds[j]:Nat):Int):=by omega
  have hge:¬((ds[j]:Nat):Int)<((es[j]:Nat):Int):=by omega
  clear hc
  iterate 3 (refine zs0 ?_)
  refine zs2 ?_
  iterate 3 (refine zs0 ?_)
  refine zs2 ?_;refine zs0 ?_;refine lexEnd (fun w3 hw3=>?_);go_upto_region 11 with(fail);refine wp_region_staged (fun w'=>Below W1.heap.size W1 w') [0,0,0,1,0,0,0,1,0] (by kernel_rfl) (by kernel_rfl) (by kernel_rfl) (by exact hw3.drew) ?_
  iterate 3 (refine zs0 ?_)
  refine zs2 ?_
  iterate 3 (refine zs0 ?_)
  refine zs2 ?_;refine zs0 ?_;refine lexEnd (fun w4 hw4=>?_);go_wp2;go_ret;exact⟨by rw[HE.out];rfl,hWb.trans (hw4.mono (by omega))⟩
theorem cmp_any(v u:Value)(n m:Nat)(w:World)(hv:NatV w v n)(hu:NatV w u m)(h1:(digs B32 n).length<=1000000)(h2:(digs B32 m).length<=1000000):
    Calls Tryz.prog 116 #[v,u] w fun e w'=>e=.returned (.int .i64 (cmpN n m))/\Below w.heap.size w w':=by
  by_cases hl:(digs B32 n).length=(digs B32 m).length
  . rcases hv with⟨rfl,rfl⟩|⟨h0,g,c,rfl,hd,_⟩
    . have hm:m=0:=by
        rw[digs_zero]at hl;exact(digs_eq_nil b32_2).1 (List.eq_nil_of_length_eq_zero hl.symm)
      subst hm
      rcases hu with⟨_,rfl⟩|⟨h0,_⟩
      . exact cmp_zero w
      exact absurd rfl h0
    rcases hu with⟨rfl,rfl⟩|⟨h0',g',c',rfl,hd',_⟩
    . rw[digs_zero]at hl;exact absurd (List.eq_nil_of_length_eq_zero hl) (digs_last_ne h0)
    have:=cmp_same g g' c c' _ _ w hd hd' hl (digs_lt b32_2 n) (digs_lt b32_2 m) h1;rw[val_digs b32_2,val_digs b32_2,hl]at this;rw[hl];exact this
  obtain⟨p,c,rfl,_⟩:=hv.dig;obtain⟨q,d,rfl,_⟩:=hu.dig;refine(cmp_len p q _ _ c d w hl h1 h2).mono fun e w' ⟨he,hb⟩=>⟨?_,hb⟩
  rw[he]
  by_cases hlt:(digs B32 n).length<(digs B32 m).length
  . rw[if_pos hlt,cmpN_lt (digs_len_mono b32_2 hlt)]
  rw[if_neg hlt,cmpN_gt (digs_len_mono b32_2 (by omega))]
def uCell(x:Nat):Value:=.int .u32 (x:Int)
def Arr(W:World)(D:Nat)(xs:List Nat):Prop:=W.heap[D]?=some (.cells (xs.map uCell).toArray 132 (0,0))
theorem Arr.lt{W:World}{D:Nat}{xs:List Nat}(h:Arr W D xs):D<W.heap.size:=(Array.getElem?_eq_some_iff.1 h).1
theorem Arr.cell{W:World}{D:Nat}{xs:List Nat}(h:Arr W D xs)(k:Nat)(hk:k<xs.length):W.cell? ⟨D,k,none⟩=some (.int .u32 (xs[k]:Int)):=by
  unfold World.cell?;rw[show W.heap[(⟨D,k,none⟩:Addr).block]?=_ from h];simp[hk,uCell]
theorem Arr.free{W:World}{D:Nat}{xs:List Nat}(h:Arr W D xs):∀o,W.frozen? ⟨D,o,none⟩=false:=by
  intro o;unfold World.frozen?;rw[show W.heap[(⟨D,o,none⟩:Addr).block]?=_ from h];simp
theorem Arr.dig{W:World}{D:Nat}{xs:List Nat}(h:Arr W D xs):DigIn W D xs:=⟨h.lt,h.cell⟩
theorem Arr.below{W W':World}{D:Nat}{xs:List Nat}(h:Arr W D xs)(hb:Below W.heap.size W W'):Arr W' D xs:=(hb.block _ h.lt).trans h
theorem Arr.store{W:World}{D:Nat}{xs:List Nat}(h:Arr W D xs)(k v:Nat):Arr (W.setCell ⟨D,k,none⟩ (.int .u32 (v:Int))) D (xs.set k v):=by
  unfold Arr;rw[heap_setCell_at h];simp[List.map_set,uCell]
theorem infoU:(Tryz.prog.info? 132).map (fun i=>(i.zero,i.size,i.bytes))=some (some (.int .u32 0),1,4):=by kernel_rfl
theorem arr_made{W:World}{base g n:Nat}(h:W.ownsRow base 132 1 (.slice (some ⟨g,0,none⟩) n n) n (madeCells (Value.int .u32 0).cells (n*1)).toList):Arr W g (List.replicate n 0):=by
  rcases h.2 with⟨e,_⟩|⟨g',cap,cur,e,_,hg,_,_,hs,ht⟩
  . cases e
  injection e with e1 _ e3
  injection e1 with e1
  injection e1 with e1
  subst e1 e3
  have h1:cur.toList=List.replicate n (Value.int .u32 0):=by
    have h2:(madeCells (Value.int .u32 0).cells (n*1)).toList=List.replicate n (.int .u32 0):=by
      rw[Nat.mul_one];exact toList_madeCells_one _ n
    rw[h2,List.take_of_length_le (by rw[Array.length_toList,hs];omega)]at ht;exact ht
  unfold Arr;rw[hg]
  congr 2
  rw[<-Array.toArray_toList (xs:=cur),h1,List.map_replicate];rfl
def DigP(W:World)(P:Option Addr)(ds:List Nat):Prop:=ds≠[]-> ∃g,P=some ⟨g,0,none⟩/\DigIn W g ds
theorem NatV.digp{W:World}{v:Value}{n:Nat}(h:NatV W v n):∃P c,v=.agg #[.slice P (digs B32 n).length c]/\DigP W P (digs B32 n):=by
  rcases h with⟨rfl,rfl⟩|⟨_,g,c,rfl,t,hc⟩
  . rw[digs_zero];exact⟨none,0,rfl,fun h=>absurd rfl h⟩
  exact⟨_,c,rfl,fun _=>⟨g,rfl,t⟩⟩
theorem DigP.at{W:World}{P:Option Addr}{ds:List Nat}(h:DigP W P ds){k:Nat}(hk:k<ds.length):∃g,P=some ⟨g,0,none⟩/\DigIn W g ds:=h fun e=>by subst e;cases hk
theorem DigP.below{W W':World}{P:Option Addr}{ds:List Nat}(h:DigP W P ds)(hb:Below W.heap.size W W'):DigP W' P ds:=fun hn=>by
  obtain⟨g,e,t⟩:=h hn;exact⟨g,e,t.below hb⟩
theorem take_set{xs:List Nat}{k v:Nat}(hk:k<xs.length):(xs.set k v).take (k+1)=xs.take k++[v]:=by
  rw[List.take_succ_eq_append_getElem (by simpa using hk)];simp[List.take_set_of_le]
theorem val_take_set{B:Nat}{xs:List Nat}{k v:Nat}(hk:k<xs.length):val B ((xs.set k v).take (k+1))=val B (xs.take k)+B^k*v:=by
  rw[take_set hk,val_snoc,List.length_take,Nat.min_eq_left (by omega)]
theorem val_take_succ{B:Nat}{xs:List Nat}{k:Nat}(hk:k<xs.length):val B (xs.take (k+1))=val B (xs.take k)+B^k*xs[k]:=by
  rw[List.take_succ_eq_append_getElem hk,val_snoc,List.length_take,Nat.min_eq_left (by omega)]
theorem all_set{B:Nat}{xs:List Nat}{k v:Nat}(h:∀x∈xs,x<B)(hv:v<B):∀x∈xs.set k v,x<B:=fun x hx=>by
  rcases List.mem_or_eq_of_mem_set hx with h1|h1
  . exact h x h1
  rw[h1];exact hv
set_option maxHeartbeats 400000 in
theorem add32_any(x y c:Nat)(w:World)(hx:x<=4294967295)(hy:y<=4294967295)(hc:c<=1):
    Calls Tryz.prog 149 #[.int .u32 (x:Int),.int .u32 (y:Int),.int .u32 (c:Int)] w fun e w'=>e=.returned (.tuple #[.int .u32 (((x+y+c)%4294967296:Nat):Int),.int .u32 (((x+y+c)/4294967296:Nat):Int)])/\w=w':=by
  go_enter Tryz.func149,Tryz.ntmps149;go_wp2;go_ret2;exact⟨by congr 3<;>(simp only[List.cons.injEq];refine⟨?_,?_,trivial⟩<;>(show Value.int .u32 _=Value.int .u32 _;congr 1<;>omega)),rfl⟩
structure AddAt(W0:World)(D:Nat)(ds es:List Nat)(k cy:Nat)(wr:World):Prop where
  arr:∃xs:List Nat,Arr wr D xs/\xs.length=ds.length+1/\(∀x∈xs,x<B32)/\val B32 (xs.take k)+B32^k*cy=val B32 (ds.take k)+val B32 (es.take k)
  old:Below D W0 wr
  cy1:cy<=1
theorem add_step{W0 wr:World}{D:Nat}{ds es:List Nat}{k cy x y:Nat}(h:AddAt W0 D ds es k cy wr)(hk:k<ds.length)(hx:ds[k]=x)(hy:val B32 (es.take (k+1))=val B32 (es.take k)+B32^k*y)(hx1:x<=4294967295)(hy1:y<=4294967295):
    AddAt W0 D ds es (k+1) ((x+y+cy)/4294967296) (wr.setCell ⟨D,k,none⟩ (.int .u32 (((x+y+cy)%4294967296:Nat):Int))):=by
  have hcy:=h.cy1;obtain⟨⟨xs,h1,h2,h3,h4⟩,h5,h6⟩:=h;refine⟨⟨xs.set k ((x+y+cy)%4294967296),h1.store _ _,by simpa using h2,all_set h3 (by rw[b32];omega),?_⟩,h5.setCell (p:=⟨D,k,none⟩) (Nat.le_refl _) _,by omega⟩;have hp:B32^(k+1)=B32^k*4294967296:=by rw[Nat.pow_succ,b32]
  rw[val_take_set (by omega),val_take_succ hk,hy,hx,hp];generalize B32^k=p at*
  have e:p*(x+y+cy)=p*((x+y+cy)%4294967296)+p*4294967296*((x+y+cy)/4294967296):=by
    rw[Nat.mul_assoc, <-Nat.mul_add,Nat.mod_add_div]
  rw[Nat.mul_add,Nat.mul_add]at e;omega
theorem es_here{es:List Nat}{k:Nat}(h:k<es.length):val B32 (es.take (k+1))=val B32 (es.take k)+B32^k*es[k]:=val_take_succ h
theorem es_gone{es:List Nat}{k:Nat}(h:es.length<=k):val B32 (es.take (k+1))=val B32 (es.take k)+B32^k*0:=by
  rw[List.take_of_length_le (by omega),List.take_of_length_le h];simp
theorem box3_head(s s':Value)(w:World):∃W1,W1=((w.alloc (.cells #[s] 68)).alloc (.cells #[s'] 68)).alloc (.cells #[.slice none 0 0] 68)/\W1.heap.size=w.heap.size+3/\W1.heap[w.heap.size]?=some (.cells #[s] 68)/\W1.heap[w.heap.size+1]?=some (.cells #[s'] 68)/\
    W1.heap[w.heap.size+1+1]?=some (.cells #[.slice none 0 0] 68)/\Below w.heap.size w W1:=by
  obtain⟨W0,h0,h1,h2,h3,h4⟩:=box2_head s s' 68 68 w;refine⟨_,rfl,by simp,?_,?_,?_,?_⟩
  . rw[<-h0];exact(Below.heap_alloc _ _ _ (by omega)).trans h2
  . rw[<-h0];exact(Below.heap_alloc _ _ _ (by omega)).trans h3
  . rw[<-h0];have:=heap_new W0 (.cells #[.slice none 0 0] 68);rw[h1]at this;exact this
  rw[<-h0];exact h4.alloc (by omega) _
theorem box_swap{w W0:World}{x y r:Value}{t:TypeId}(k0:W0.heap[w.heap.size]?=some (.cells #[x] t))(k1:W0.heap[w.heap.size+1]?=some (.cells #[y] t))(k2:W0.heap[w.heap.size+1+1]?=some (.cells #[r] t))(hb:Below w.heap.size w W0):
    ∃W1,W1=(W0.setCell ⟨w.heap.size,0,none⟩ y).setCell ⟨w.heap.size+1,0,none⟩ x/\W1.heap[w.heap.size]?=some (.cells #[y] t)/\W1.heap[w.heap.size+1]?=some (.cells #[x] t)/\W1.heap[w.heap.size+1+1]?=some (.cells #[r] t)/\Below w.heap.size w W1/\W1.heap.size=W0.heap.size:=by
  refine⟨_,rfl,?_,?_,?_,?_,?_⟩
  . rw[setCell_far _ (by omega)];exact box_store k0 y
  . exact box_store (by rw[setCell_far _ (by omega)];exact k1) x
  . rw[setCell_far _ (by omega),setCell_far _ (by omega)];exact k2
  . exact(hb.setCell (p:=⟨w.heap.size,0,none⟩) (Nat.le_refl _) _).setCell (p:=⟨w.heap.size+1,0,none⟩) (by show _<=w.heap.size+1;omega) _
  simp[World.setCell]
theorem trim_arr{w:World}{D:Nat}{xs:List Nat}(h:Arr w D xs)(hb:∀x∈xs,x<B32)(hl:xs.length<=1000000):
    Calls Tryz.prog 104 #[.slice (some ⟨D,0,none⟩) xs.length xs.length] w fun e w'=> ∃p c,e=.returned (.agg #[.slice p (digs B32 (val B32 xs)).length c])/\NatV w' (.agg #[.slice p (digs B32 (val B32 xs)).length c]) (val B32 xs)/\Below w.heap.size w w':=
  (trim_any _ xs w (.inr ⟨D,_,rfl,h.dig,Nat.le_refl _,by omega⟩) hb hl).mono fun e w' ⟨v,h1,h2,h3⟩=>by
    obtain⟨p,c,rfl,_⟩:=h2.dig;exact⟨p,c,h1,h2,h3⟩
set_option maxRecDepth 100000 in
set_option maxHeartbeats 2000000 in
theorem add_core(P Q:Option Addr)(c c':Nat)(ds es:List Nat)(w:World)(hd:DigP w P ds)(he:DigP w Q es)(h1:∀d∈ds,d<B32)(h2:∀d∈es,d<B32)(hl:ds.length<1000000)(hle:es.length<=ds.length):
    Calls Tryz.prog 138 #[.agg #[.slice P ds.length c],.agg #[.slice Q es.length c']] w fun e w'=> ∃v,e=.returned v/\NatV w' v (val B32 ds+val B32 es)/\Below w.heap.size w w':=by
  obtain⟨i0,hi,hz0,hz1,hz2⟩:=info_parts infoU;have H1:=hid h1;have H2:=hid h2;have hge:¬(ds.length:Int)<(es.length:Int):=by omega
  clear h1 h2;go_enter Tryz.func138,Tryz.ntmps138;go_upto_region 1 with(fail);obtain⟨W1,hW1,hsz,kA,kB,kR,hWb⟩:=box3_head (.slice P ds.length c) (.slice Q es.length c') w;have hd1:=hd.below hWb;have he1:=he.below hWb;rw[<-hW1];have b1:w.heap.size<W1.heap.size:=by omega
  have b2:w.heap.size+1<W1.heap.size:=by omega
  have b3:w.heap.size+1+1<W1.heap.size:=by omega
  clear hW1 hsz hd he;have a0:=cell_box1 kA;have a1:=cell_box1 kB;go_wp2_with (at_make;refine wpList_make_full _ rfl _ _ _ rfl W1.heap.size 132 i0 _ 1 Tryz.underlying66 hi hz0 hz1 _ _ _ _ (ds.length+1) rfl rfl (by simp) (by simp) (by rw[hz2];omega) (by unfold maxLen;omega) (Nat.le_refl _) ?_;intro w2 hown hgr;have hb2:Below W1.heap.size W1 w2:=(Below.refl _ W1).grown hgr (Nat.le_refl _) (by simp);have hA:=arr_made hown;clear hown hgr;have hcc:=cellsBelow hb2);clear hcc;have hA0:AddAt W1 W1.heap.size ds es 0 0 w2:=⟨⟨_,hA,by simp,fun x hx=>by rw[List.eq_of_mem_replicate hx,b32];omega,by simp[val]⟩,hb2,by omega⟩;clear hA hb2;go_loopw [6,27] (fun cy i wr=> ∃k cn:Nat,k<=ds.length/\i=.int .i64 k/\cy=.int .u32 (cn:Int)/\AddAt W1 W1.heap.size ds es k cn wr) (fun _ i _=>ds.length-(intOf i).toNat)
  case atStart=>exact⟨0,0,Nat.zero_le _,rfl,rfl,hA0⟩
  clear hA0;obtain⟨k,cn,hk,rfl,rfl,hat⟩:=hrel;have hcc:=cellsBelow hat.old
  by_cases hlt:k<ds.length
  . obtain⟨g,rfl,hdg⟩:=hd1.at hlt;have hgl:=hdg.lt;have g0:=hdg.at0 k hlt;have hx1:ds[k]<=4294967295:=by have:=H1.out _ (List.getElem_mem hlt);rw[b32]at this;omega
    obtain⟨x,hx⟩:∃x,ds[k]=x:=⟨_,rfl⟩;rw[hx]at g0 hx1;have HX:=hid hx;have hcy:=hat.cy1;obtain⟨xs,hxs,hxl,_⟩:=hat.arr;have hfr:=hxs.free;have c0:=hxs.cell k (by omega);clear hx
    by_cases hlt2:k<es.length
    . obtain⟨g',rfl,heg⟩:=he1.at hlt2;have hgl':=heg.lt;have g1:=heg.at0 k hlt2;have hy1:es[k]<=4294967295:=by have:=H2.out _ (List.getElem_mem hlt2);rw[b32]at this;omega
      have HS:=hid (add_step hat hlt HX.out (es_here hlt2) hx1 hy1);obtain⟨y,hy⟩:∃y,es[k]=y:=⟨_,rfl⟩;rw[hy]at g1 hy1 HS;clear hy;go_wp2_with (go_at_call 149;refine(add32_any x y cn _ hx1 hy1 hcy).mono ?_;rintro e w' ⟨rfl,rfl⟩);go_roundw
      case rel=>exact⟨k+1,_,by omega,by go_num,rfl,HS.out⟩
      case measure=>simp[intOf];omega
    have HS:=hid (add_step hat hlt HX.out (es_gone (Nat.le_of_not_lt hlt2)) hx1 (by omega:0<=4294967295));have hge2:¬(k:Int)<(es.length:Int):=by omega
    go_wp2_with (go_at_call 149;refine(add32_any x 0 cn _ hx1 (by omega) hcy).mono ?_;rintro e w' ⟨rfl,rfl⟩);go_roundw
    case rel=>exact⟨k+1,_,by omega,by go_num,rfl,HS.out⟩
    case measure=>simp[intOf];omega
  obtain rfl:k=ds.length:=by omega
  obtain⟨xs,hxs,hxl,hxb,hxv⟩:=hat.arr;have hfr:=hxs.free;have c0:=hxs.cell ds.length (by omega);have hold:=hat.old;clear hcc;have hcc:=cellsBelow hold
  have HV:=hid (show val B32 (xs.set ds.length cn)=val B32 ds+val B32 es by
    have e1:=val_take_set (B:=B32) (v:=cn) (show ds.length<xs.length by omega);rw[List.take_of_length_le (by rw[List.length_set];omega)]at e1;rw[e1,hxv,List.take_length,List.take_of_length_le (l:=es) hle])
  have hxs':=hxs.store ds.length cn;have hb':=hold.setCell (p:=⟨W1.heap.size,ds.length,none⟩) (Nat.le_refl _) (.int .u32 (cn:Int));have HT:=hid (trim_arr hxs' (all_set hxb (by have:=hat.cy1;rw[b32];omega)) (by simp;omega));have hl':(xs.set ds.length cn).length=ds.length+1:=by simp[hxl]
  rw[HV.out,hl']at HT;clear hxv hat;go_wp2_with (go_at_call 104;refine HT.out.mono ?_;clear HT;rintro e w3 ⟨p,c3,rfl,hv,hw3⟩;have hb3:=hb'.trans (hw3.mono hb'.size);have hR2:=(hb3.block _ b3).trans kR;have hc2:=cell_box1 hR2;have hf2:=free_box1 hR2);have hc3:=res_store hR2 (.slice p (digs B32 (val B32 ds+val B32 es)).length c3);refine bodyPost_ret (v:=.agg #[.slice p (digs B32 (val B32 ds+val B32 es)).length c3]) (by simp[results,Tryz.results138,go_sem,hc3]) rfl ⟨_,rfl,hv.store hc2 _,?_⟩;exact(hWb.trans (hb3.mono (by omega))).setCell (p:=⟨w.heap.size+1+1,0,none⟩) (by show _<=w.heap.size+1+1;omega) _
set_option maxRecDepth 100000 in
set_option maxHeartbeats 2000000 in
theorem add_swap(P Q:Option Addr)(c c':Nat)(ds es:List Nat)(w:World)(hd:DigP w P ds)(he:DigP w Q es)(h1:∀d∈ds,d<B32)(h2:∀d∈es,d<B32)(hl:ds.length<1000000)(hlt0:es.length<ds.length):
    Calls Tryz.prog 138 #[.agg #[.slice Q es.length c'],.agg #[.slice P ds.length c]] w fun e w'=> ∃v,e=.returned v/\NatV w' v (val B32 ds+val B32 es)/\Below w.heap.size w w':=by
  obtain⟨i0,hi,hz0,hz1,hz2⟩:=info_parts infoU;have H1:=hid h1;have H2:=hid h2;have hle:es.length<=ds.length:=by omega
  clear h1 h2;go_enter Tryz.func138,Tryz.ntmps138;go_upto_region 1 with(fail);obtain⟨W0,hW0,hsz,kA0,kB0,kR0,hWb0⟩:=box3_head (.slice Q es.length c') (.slice P ds.length c) w;rw[<-hW0];have b1:w.heap.size<W0.heap.size:=by omega
  have b2:w.heap.size+1<W0.heap.size:=by omega
  have b3:w.heap.size+1+1<W0.heap.size:=by omega
  clear hW0 hsz;have a00:=cell_box1 kA0;have a10:=cell_box1 kB0;have f00:=free_box1 kA0;have f10:=free_box1 kB0;have hne:w.heap.size+1≠w.heap.size:=by omega
  have hne':w.heap.size≠w.heap.size+1:=by omega
  have hlti:(es.length:Int)<(ds.length:Int):=by omega
  go_upto_region 3 with(fail);obtain⟨W1,hW1,kA,kB,kR,hWb,hsz⟩:=box_swap kA0 kB0 kR0 hWb0;rw[<-hW1];have hd1:=hd.below hWb;have he1:=he.below hWb;rw[<-hsz]at b1 b2 b3;clear hW1 hsz hd he a00 a10 f00 f10 kA0 kB0 kR0 hWb0;have a0:=cell_box1 kA;have a1:=cell_box1 kB;go_wp2_with (at_make;refine wpList_make_full _ rfl _ _ _ rfl W1.heap.size 132 i0 _ 1 Tryz.underlying66 hi hz0 hz1 _ _ _ _ (ds.length+1) rfl rfl (by simp) (by simp) (by rw[hz2];omega) (by unfold maxLen;omega) (Nat.le_refl _) ?_;intro w2 hown hgr;have hb2:Below W1.heap.size W1 w2:=(Below.refl _ W1).grown hgr (Nat.le_refl _) (by simp);have hA:=arr_made hown;clear hown hgr;have hcc:=cellsBelow hb2);clear hcc;have hA0:AddAt W1 W1.heap.size ds es 0 0 w2:=⟨⟨_,hA,by simp,fun x hx=>by rw[List.eq_of_mem_replicate hx,b32];omega,by simp[val]⟩,hb2,by omega⟩;clear hA hb2;go_loopw [6,27] (fun cy i wr=> ∃k cn:Nat,k<=ds.length/\i=.int .i64 k/\cy=.int .u32 (cn:Int)/\AddAt W1 W1.heap.size ds es k cn wr) (fun _ i _=>ds.length-(intOf i).toNat)
  case atStart=>exact⟨0,0,Nat.zero_le _,rfl,rfl,hA0⟩
  clear hA0;obtain⟨k,cn,hk,rfl,rfl,hat⟩:=hrel;have hcc:=cellsBelow hat.old
  by_cases hlt:k<ds.length
  . obtain⟨g,rfl,hdg⟩:=hd1.at hlt;have hgl:=hdg.lt;have g0:=hdg.at0 k hlt;have hx1:ds[k]<=4294967295:=by have:=H1.out _ (List.getElem_mem hlt);rw[b32]at this;omega
    obtain⟨x,hx⟩:∃x,ds[k]=x:=⟨_,rfl⟩;rw[hx]at g0 hx1;have HX:=hid hx;have hcy:=hat.cy1;obtain⟨xs,hxs,hxl,_⟩:=hat.arr;have hfr:=hxs.free;have c0:=hxs.cell k (by omega);clear hx
    by_cases hlt2:k<es.length
    . obtain⟨g',rfl,heg⟩:=he1.at hlt2;have hgl':=heg.lt;have g1:=heg.at0 k hlt2;have hy1:es[k]<=4294967295:=by have:=H2.out _ (List.getElem_mem hlt2);rw[b32]at this;omega
      have HS:=hid (add_step hat hlt HX.out (es_here hlt2) hx1 hy1);obtain⟨y,hy⟩:∃y,es[k]=y:=⟨_,rfl⟩;rw[hy]at g1 hy1 HS;clear hy;go_wp2_with (go_at_call 149;refine(add32_any x y cn _ hx1 hy1 hcy).mono ?_;rintro e w' ⟨rfl,rfl⟩);go_roundw
      case rel=>exact⟨k+1,_,by omega,by go_num,rfl,HS.out⟩
      case measure=>simp[intOf];omega
    have HS:=hid (add_step hat hlt HX.out (es_gone (Nat.le_of_not_lt hlt2)) hx1 (by omega:0<=4294967295));have hge2:¬(k:Int)<(es.length:Int):=by omega
    go_wp2_with (go_at_call 149;refine(add32_any x 0 cn _ hx1 (by omega) hcy).mono ?_;rintro e w' ⟨rfl,rfl⟩);go_roundw
    case rel=>exact⟨k+1,_,by omega,by go_num,rfl,HS.out⟩
    case measure=>simp[intOf];omega
  obtain rfl:k=ds.length:=by omega
  obtain⟨xs,hxs,hxl,hxb,hxv⟩:=hat.arr;have hfr:=hxs.free;have c0:=hxs.cell ds.length (by omega);have hold:=hat.old;clear hcc;have hcc:=cellsBelow hold
  have HV:=hid (show val B32 (xs.set ds.length cn)=val B32 ds+val B32 es by
    have e1:=val_take_set (B:=B32) (v:=cn) (show ds.length<xs.length by omega);rw[List.take_of_length_le (by rw[List.length_set];omega)]at e1;rw[e1,hxv,List.take_length,List.take_of_length_le (l:=es) hle])
  have hxs':=hxs.store ds.length cn;have hb':=hold.setCell (p:=⟨W1.heap.size,ds.length,none⟩) (Nat.le_refl _) (.int .u32 (cn:Int));have HT:=hid (trim_arr hxs' (all_set hxb (by have:=hat.cy1;rw[b32];omega)) (by simp;omega));have hl':(xs.set ds.length cn).length=ds.length+1:=by simp[hxl]
  rw[HV.out,hl']at HT;clear hxv hat;go_wp2_with (go_at_call 104;refine HT.out.mono ?_;clear HT;rintro e w3 ⟨p,c3,rfl,hv,hw3⟩;have hb3:=hb'.trans (hw3.mono hb'.size);have hR2:=(hb3.block _ b3).trans kR;have hc2:=cell_box1 hR2;have hf2:=free_box1 hR2);have hc3:=res_store hR2 (.slice p (digs B32 (val B32 ds+val B32 es)).length c3);refine bodyPost_ret (v:=.agg #[.slice p (digs B32 (val B32 ds+val B32 es)).length c3]) (by simp[results,Tryz.results138,go_sem,hc3]) rfl ⟨_,rfl,hv.store hc2 _,?_⟩;exact(hWb.trans (hb3.mono (by omega))).setCell (p:=⟨w.heap.size+1+1,0,none⟩) (by show _<=w.heap.size+1+1;omega) _
theorem add_any(v u:Value)(n m:Nat)(w:World)(hv:NatV w v n)(hu:NatV w u m)(h1:(digs B32 n).length<1000000)(h2:(digs B32 m).length<1000000):
    Calls Tryz.prog 138 #[v,u] w fun e w'=> ∃x,e=.returned x/\NatV w' x (n+m)/\Below w.heap.size w w':=by
  obtain⟨P,c,rfl,hp⟩:=hv.digp;obtain⟨Q,c',rfl,hq⟩:=hu.digp
  by_cases hle:(digs B32 m).length<=(digs B32 n).length
  . have:=add_core P Q c c' _ _ w hp hq (digs_lt b32_2 n) (digs_lt b32_2 m) h1 hle
    rwa [val_digs b32_2,val_digs b32_2]at this
  have:=add_swap Q P c' c _ _ w hq hp (digs_lt b32_2 m) (digs_lt b32_2 n) h2 (by omega)
  rwa [val_digs b32_2,val_digs b32_2,Nat.add_comm m n]at this
theorem not_bit(x:Nat):(4294967295^^^x).testBit 31= !x.testBit 31:=by
  rw[Nat.testBit_xor,show Nat.testBit 4294967295 31=true from by decide];simp
theorem bit_top(v:Nat)(hv:v<4294967296):v/2147483648=if v.testBit 31 then 1 else 0:=by
  rw[Nat.testBit_eq_decide_div_mod_eq]
  by_cases h:v/2^31%2=1
  . simp only[h,decide_true,if_true];omega
  simp only[h,decide_false,Bool.false_eq_true,if_false];omega
theorem borrow_bit(x y b:Nat)(hx:x<4294967296)(hy:y<4294967296)(hb:b<=1):
    (((4294967295^^^x)&&&y)|||((4294967295^^^(x^^^y))&&&((x+4294967296-y-b)%4294967296)))/2147483648=if x<y+b then 1 else 0:=by
  have hd:(x+4294967296-y-b)%4294967296<4294967296:=Nat.mod_lt _ (by omega);have hxy:x^^^y<4294967296:=Nat.xor_lt_two_pow (n:=32) hx hy;rw[bit_top _ (Nat.or_lt_two_pow (n:=32) (Nat.and_lt_two_pow _ hy) (Nat.and_lt_two_pow _ hd)),Nat.testBit_or,Nat.testBit_and,Nat.testBit_and,not_bit,not_bit,Nat.testBit_xor];generalize hdd:(x+4294967296-y-b)%4294967296=d at*;simp only[Nat.testBit_eq_decide_div_mod_eq]
  by_cases h1:x/2^31%2=1<;>by_cases h2:y/2^31%2=1<;>by_cases h3:d/2^31%2=1<;>simp[h1,h2,h3]<;>omega
def borrowI(x y:Int)(d:Int):Int:=bits BinOp.or IntKind.u32 (bits BinOp.and IntKind.u32 (bits BinOp.xor IntKind.u32 IntKind.u32.max x) y) (bits BinOp.and IntKind.u32 (bits BinOp.xor IntKind.u32 IntKind.u32.max (bits BinOp.xor IntKind.u32 x y)) d)/2147483648
theorem borrow_nat(x y b:Nat)(hx:x<4294967296)(hy:y<4294967296)(hb:b<=1):borrowI x y (((x:Int)-y-b)%4294967296)=((if x<y+b then 1 else 0:Nat):Int):=by
  have hd:(x+4294967296-y-b)%4294967296<4294967296:=Nat.mod_lt _ (by omega);have hxy:x^^^y<4294967296:=Nat.xor_lt_two_pow (n:=32) hx hy;have hm:∀z:Nat,z<4294967296->4294967295^^^z<4294967296:=fun z hz=>Nat.xor_lt_two_pow (n:=32) (by omega) hz
  have h:=borrow_bit x y b hx hy hb;have e:((x:Int)-y-b)%4294967296=(((x+4294967296-y-b)%4294967296:Nat):Int):=by omega
  have em:IntKind.u32.max=((4294967295:Nat):Int):=by decide
  unfold borrowI;rw[e,em,u32_xor_nat _ _ (by omega) hx,u32_and_nat _ _ (hm _ hx) hy,u32_xor_nat _ _ hx hy,u32_xor_nat _ _ (by omega) hxy,u32_and_nat _ _ (hm _ hxy) hd,u32_or_nat _ _ (Nat.and_lt_two_pow (n:=32) _ hy) (Nat.and_lt_two_pow (n:=32) _ hd), <-h];omega
set_option maxHeartbeats 1000000 in
theorem sub32_raw(x y b:Nat)(w:World)(_hx:x<=4294967295)(_hy:y<=4294967295)(_hb:b<=1):
    Calls Tryz.prog 150 #[.int .u32 (x:Int),.int .u32 (y:Int),.int .u32 (b:Int)] w fun e w'=>e=.returned (.tuple #[.int .u32 (((x:Int)-y-b)%4294967296),.int .u32 (borrowI x y (((x:Int)-y-b)%4294967296))])/\w=w':=by
  go_enter Tryz.func150,Tryz.ntmps150;go_wp2;go_ret2;exact⟨rfl,rfl⟩
theorem sub32_any(x y b:Nat)(w:World)(hx:x<=4294967295)(hy:y<=4294967295)(hb:b<=1):
    Calls Tryz.prog 150 #[.int .u32 (x:Int),.int .u32 (y:Int),.int .u32 (b:Int)] w fun e w'=>e=.returned (.tuple #[.int .u32 (((x+4294967296-y-b)%4294967296:Nat):Int),.int .u32 ((if x<y+b then 1 else 0:Nat):Int)])/\w=w':=
  (sub32_raw x y b w hx hy hb).mono fun e w' ⟨h1,h2⟩=>⟨by
    rw[h1,borrow_nat x y b (by omega) (by omega) hb,show((x:Int)-y-b)%4294967296=(((x+4294967296-y-b)%4294967296:Nat):Int) by omega],h2⟩
structure SubAt(W0:World)(D:Nat)(ds es:List Nat)(k b:Nat)(wr:World):Prop where
  arr:∃xs:List Nat,Arr wr D xs/\xs.length=ds.length/\(∀x∈xs,x<B32)/\val B32 (xs.take k)+val B32 (es.take k)=val B32 (ds.take k)+B32^k*b
  old:Below D W0 wr
  b1:b<=1
theorem sub_step{W0 wr:World}{D:Nat}{ds es:List Nat}{k b x y:Nat}(h:SubAt W0 D ds es k b wr)(hk:k<ds.length)(hx:ds[k]=x)(hy:val B32 (es.take (k+1))=val B32 (es.take k)+B32^k*y)(hx1:x<=4294967295)(hy1:y<=4294967295):
    SubAt W0 D ds es (k+1) (if x<y+b then 1 else 0) (wr.setCell ⟨D,k,none⟩ (.int .u32 (((x+4294967296-y-b)%4294967296:Nat):Int))):=by
  have hcy:=h.b1;obtain⟨⟨xs,h1,h2,h3,h4⟩,h5,h6⟩:=h;refine⟨⟨xs.set k ((x+4294967296-y-b)%4294967296),h1.store _ _,by simpa using h2,all_set h3 (by rw[b32];omega),?_⟩,h5.setCell (p:=⟨D,k,none⟩) (Nat.le_refl _) _,by split<;>omega⟩;have hp:B32^(k+1)=B32^k*4294967296:=by rw[Nat.pow_succ,b32]
  rw[val_take_set (by omega),val_take_succ hk,hy,hx,hp];generalize B32^k=p at*
  by_cases hlt:x<y+b
  . rw[if_pos hlt,show(x+4294967296-y-b)%4294967296=x+4294967296-y-b by omega]
    have e:p*(x+4294967296-y-b)+p*y+p*b=p*x+p*4294967296:=by
      rw[<-Nat.mul_add, <-Nat.mul_add, <-Nat.mul_add];congr 1;omega
    omega
  rw[if_neg hlt,show(x+4294967296-y-b)%4294967296=x-y-b by omega]
  have e:p*(x-y-b)+p*y+p*b=p*x:=by
    rw[<-Nat.mul_add, <-Nat.mul_add];congr 1;omega
  omega
set_option maxRecDepth 100000 in
set_option maxHeartbeats 2000000 in
theorem sub_core(P Q:Option Addr)(c c':Nat)(ds es:List Nat)(w:World)(hd:DigP w P ds)(he:DigP w Q es)(h1:∀d∈ds,d<B32)(h2:∀d∈es,d<B32)(hl:ds.length<1000000)(hle:es.length<=ds.length)(hcmp:∀w1,Below w.heap.size w w1->Calls Tryz.prog 116 #[.agg #[.slice P ds.length c],.agg #[.slice Q es.length c']] w1 fun e w'=> ∃j:Int,0<=j/\e=.returned (.int .i64 j)/\Below w1.heap.size w1 w')(hv:val B32 es<=val B32 ds):
    Calls Tryz.prog 139 #[.agg #[.slice P ds.length c],.agg #[.slice Q es.length c']] w fun e w'=> ∃v,e=.returned (.tuple #[v,.int .i64 0])/\NatV w' v (val B32 ds-val B32 es)/\Below w.heap.size w w':=by
  obtain⟨i0,hi,hz0,hz1,hz2⟩:=info_parts infoU;have H1:=hid h1;have H2:=hid h2;have HC:=hid hcmp;have HVL:=hid hv;clear h1 h2 hcmp hv;go_enter Tryz.func139,Tryz.ntmps139;go_upto_region 1 with(fail);obtain⟨W0,hW0,hsz,kA0,kB0,kR0,hWb0⟩:=box3_head (.slice P ds.length c) (.slice Q es.length c') w;rw[<-hW0];have b1:w.heap.size<W0.heap.size:=by omega
  have b2:w.heap.size+1<W0.heap.size:=by omega
  have b3:w.heap.size+1+1<W0.heap.size:=by omega
  clear hW0 hsz;have a00:=cell_box1 kA0;have a10:=cell_box1 kB0;have HCW:=hid (HC.out W0 hWb0);go_upto_region 3 with(go_at_call 116;refine HCW.out.mono ?_;clear HCW;rintro e W1 ⟨j,hj,rfl,hw1⟩;have hjn:¬(j<0):=(by omega));have kA:=(hw1.block _ b1).trans kA0;have kB:=(hw1.block _ b2).trans kB0;have kR:=(hw1.block _ b3).trans kR0;have hWb:=hWb0.trans (hw1.mono hWb0.size);have hd1:=hd.below hWb;have he1:=he.below hWb;have hs1:=hw1.size;replace b1:=Nat.lt_of_lt_of_le b1 hs1;replace b2:=Nat.lt_of_lt_of_le b2 hs1;replace b3:=Nat.lt_of_lt_of_le b3 hs1;clear hd he a00 a10 kA0 kB0 kR0 hWb0 HC hw1 hs1;have a0:=cell_box1 kA;have a1:=cell_box1 kB;go_wp2_with (at_make;refine wpList_make_full _ rfl _ _ _ rfl W1.heap.size 132 i0 _ 1 Tryz.underlying66 hi hz0 hz1 _ _ _ _ ds.length rfl rfl (by simp) (by simp) (by rw[hz2];omega) (by unfold maxLen;omega) (Nat.le_refl _) ?_;intro w2 hown hgr;have hb2:Below W1.heap.size W1 w2:=(Below.refl _ W1).grown hgr (Nat.le_refl _) (by simp);have hA:=arr_made hown;clear hown hgr;have hcc:=cellsBelow hb2);clear hcc;have hA0:SubAt W1 W1.heap.size ds es 0 0 w2:=⟨⟨_,hA,by simp,fun x hx=>by rw[List.eq_of_mem_replicate hx,b32];omega,by simp[val]⟩,hb2,by omega⟩;clear hA hb2;go_loopw [7,23] (fun cy i wr=> ∃k cn:Nat,k<=ds.length/\i=.int .i64 k/\cy=.int .u32 (cn:Int)/\SubAt W1 W1.heap.size ds es k cn wr) (fun _ i _=>ds.length-(intOf i).toNat)
  case atStart=>exact⟨0,0,Nat.zero_le _,rfl,rfl,hA0⟩
  clear hA0;obtain⟨k,cn,hk,rfl,rfl,hat⟩:=hrel;have hcc:=cellsBelow hat.old
  by_cases hlt:k<ds.length
  . obtain⟨g,rfl,hdg⟩:=hd1.at hlt;have hgl:=hdg.lt;have g0:=hdg.at0 k hlt;have hx1:ds[k]<=4294967295:=by have:=H1.out _ (List.getElem_mem hlt);rw[b32]at this;omega
    obtain⟨x,hx⟩:∃x,ds[k]=x:=⟨_,rfl⟩;rw[hx]at g0 hx1;have HX:=hid hx;have hcy:=hat.b1;obtain⟨xs,hxs,hxl,_⟩:=hat.arr;have hfr:=hxs.free;have c0:=hxs.cell k (by omega);clear hx
    by_cases hlt2:k<es.length
    . obtain⟨g',rfl,heg⟩:=he1.at hlt2;have hgl':=heg.lt;have g1:=heg.at0 k hlt2;have hy1:es[k]<=4294967295:=by have:=H2.out _ (List.getElem_mem hlt2);rw[b32]at this;omega
      have HS:=hid (sub_step hat hlt HX.out (es_here hlt2) hx1 hy1);obtain⟨y,hy⟩:∃y,es[k]=y:=⟨_,rfl⟩;rw[hy]at g1 hy1 HS;clear hy;obtain⟨bb,hbb⟩:∃bb,(if x<y+cn then 1 else 0)=bb:=⟨_,rfl⟩;have HB:=hid (sub32_any x y cn);rw[hbb]at HS HB;clear hbb;go_wp2_with (go_at_call 150;refine(HB.out _ hx1 hy1 hcy).mono ?_;clear HB;rintro e w' ⟨rfl,rfl⟩);go_roundw
      case rel=>exact⟨k+1,_,by omega,by go_num,rfl,HS.out⟩
      case measure=>simp[intOf];omega
    have HS:=hid (sub_step hat hlt HX.out (es_gone (Nat.le_of_not_lt hlt2)) hx1 (by omega:0<=4294967295));have hge2:¬(k:Int)<(es.length:Int):=by omega
    obtain⟨bb,hbb⟩:∃bb,(if x<0+cn then 1 else 0)=bb:=⟨_,rfl⟩;have HB:=hid (sub32_any x 0 cn);rw[hbb]at HS HB;clear hbb;go_wp2_with (go_at_call 150;refine(HB.out _ hx1 (by omega) hcy).mono ?_;clear HB;rintro e w' ⟨rfl,rfl⟩);go_roundw
    case rel=>exact⟨k+1,_,by omega,by go_num,rfl,HS.out⟩
    case measure=>simp[intOf];omega
  obtain rfl:k=ds.length:=by omega
  obtain⟨xs,hxs,hxl,hxb,hxv⟩:=hat.arr;have hold:=hat.old;have hcc:=cellsBelow hold
  have HV:=hid (show val B32 xs=val B32 ds-val B32 es by
    have hvl:=HVL.out;have hb1:=hat.b1;rw[<-hxl,List.take_length,hxl,List.take_length,List.take_of_length_le (l:=es) hle]at hxv;have h3:=val_lt b32_2 hxb;rw[hxl]at h3;generalize B32^ds.length=p at*
    match cn,hb1 with
    |0,_=>omega
    |1,_=>omega)
  have HT:=hid (trim_arr hxs hxb (by omega));rw[HV.out,hxl]at HT;clear hxv hat;go_wp2_with (go_at_call 104;refine HT.out.mono ?_;clear HT;rintro e w3 ⟨p,c3,rfl,hv,hw3⟩;have hb3:=hold.trans (hw3.mono hold.size);have hR2:=(hb3.block _ b3).trans kR;have hc2:=cell_box1 hR2;have hf2:=free_box1 hR2);have hc3:=res_store hR2 (.slice p (digs B32 (val B32 ds-val B32 es)).length c3);refine bodyPost_ret (v:=.tuple #[.agg #[.slice p (digs B32 (val B32 ds-val B32 es)).length c3],.int .i64 0]) (by simp[results,Tryz.results139,go_sem,hc3]) rfl ⟨_,rfl,hv.store hc2 _,?_⟩;exact(hWb.trans (hb3.mono (by omega))).setCell (p:=⟨w.heap.size+1+1,0,none⟩) (by show _<=w.heap.size+1+1;omega) _
set_option maxHeartbeats 1000000 in
theorem sub_err(v u:Value)(n m:Nat)(w:World)(hv:NatV w v n)(hu:NatV w u m)(h1:(digs B32 n).length<1000000)(h2:(digs B32 m).length<1000000)(hlt:n<m):
    Calls Tryz.prog 139 #[v,u] w fun e w'=>e=.returned (.tuple #[.agg #[.slice none 0 0],.int .i64 2])/\Below w.heap.size w w':=by
  have HC:=hid (fun w1 (hb:Below w.heap.size w w1)=>cmp_any v u n m w1 (hv.below hb) (hu.below hb) (by omega) (by omega));rw[cmpN_lt hlt]at HC;obtain⟨P,c,rfl,hp⟩:=hv.digp;obtain⟨Q,c',rfl,hq⟩:=hu.digp;clear hp hq hv hu hlt;go_enter Tryz.func139,Tryz.ntmps139;go_upto_region 1 with(fail);obtain⟨W0,hW0,hsz,kA0,kB0,kR0,hWb0⟩:=box3_head (.slice P (digs B32 n).length c) (.slice Q (digs B32 m).length c') w;rw[<-hW0];have b1:w.heap.size<W0.heap.size:=by omega
  have b2:w.heap.size+1<W0.heap.size:=by omega
  have b3:w.heap.size+1+1<W0.heap.size:=by omega
  clear hW0 hsz;have a00:=cell_box1 kA0;have a10:=cell_box1 kB0;have HCW:=hid (HC.out W0 hWb0);go_wp2_with (go_at_call 116;refine HCW.out.mono ?_;clear HCW;rintro e W1 ⟨rfl,hw1⟩;have kR:=(hw1.block _ b3).trans kR0;have a2:=cell_box1 kR;have f2:=free_box1 kR);have hc3:=res_store kR (.slice none 0 0);refine bodyPost_ret (v:=.tuple #[.agg #[.slice none 0 0],.int .i64 2]) (by simp[results,Tryz.results139,go_sem,hc3]) rfl ⟨rfl,?_⟩;exact(hWb0.trans (hw1.mono hWb0.size)).setCell (p:=⟨w.heap.size+1+1,0,none⟩) (by show _<=w.heap.size+1+1;omega) _
theorem digs_mono{n m:Nat}(h:m<=n):(digs B32 m).length<=(digs B32 n).length:=
  Nat.le_of_not_lt fun hlt=>absurd (digs_len_mono b32_2 hlt) (by omega)
theorem sub_any(v u:Value)(n m:Nat)(w:World)(hv:NatV w v n)(hu:NatV w u m)(h1:(digs B32 n).length<1000000)(h2:(digs B32 m).length<1000000):
    Calls Tryz.prog 139 #[v,u] w fun e w'=> ∃x,e=.returned (.tuple #[x,.int .i64 (if n<m then 2 else 0)])/\NatV w' x (n-m)/\Below w.heap.size w w':=by
  by_cases hlt:n<m
  . rw[if_pos hlt];refine(sub_err v u n m w hv hu h1 h2 hlt).mono fun e w' ⟨h1,h2⟩=>⟨_,h1,?_,h2⟩
    rw[Nat.sub_eq_zero_of_le (by omega)];exact NatV.zero _
  rw[if_neg hlt]
  have hc:∀w1,Below w.heap.size w w1->Calls Tryz.prog 116 #[v,u] w1 fun e w'=> ∃j:Int,0<=j/\e=.returned (.int .i64 j)/\Below w1.heap.size w1 w':=fun w1 hb=>
    (cmp_any v u n m w1 (hv.below hb) (hu.below hb) (by omega) (by omega)).mono fun e w' ⟨h1,h2⟩=>⟨cmpN n m,by unfold cmpN;rw[if_neg hlt];split<;>omega,h1,h2⟩
  obtain⟨P,c,rfl,hp⟩:=hv.digp;obtain⟨Q,c',rfl,hq⟩:=hu.digp;have:=sub_core P Q c c' _ _ w hp hq (digs_lt b32_2 n) (digs_lt b32_2 m) h1 (digs_mono (by omega)) hc (by rw[val_digs b32_2,val_digs b32_2];omega)
  rwa [val_digs b32_2,val_digs b32_2]at this
structure MulAt(W0:World)(D:Nat)(ds es:List Nat)(i:Nat)(wr:World):Prop where
  arr:∃xs:List Nat,Arr wr D xs/\xs.length=ds.length+es.length/\(∀x∈xs,x<B32)/\val B32 (xs.take (i+es.length))=val B32 (ds.take i)*val B32 es
  old:Below D W0 wr
structure MulIn(W0:World)(D:Nat)(ds es:List Nat)(i x k cy:Nat)(wr:World):Prop where
  arr:∃xs xs0:List Nat,Arr wr D xs/\xs.length=ds.length+es.length/\(∀x∈xs,x<B32)/\xs0.length=xs.length/\val B32 (xs0.take (i+es.length))=val B32 (ds.take i)*val B32 es/\
    xs.drop (i+k)=xs0.drop (i+k)/\val B32 (xs.take (i+k))+B32^(i+k)*cy=val B32 (xs0.take (i+k))+B32^i*(x*val B32 (es.take k))
  old:Below D W0 wr
  cy1:cy<=4294967295
theorem arr_inj{W:World}{D:Nat}{xs ys:List Nat}(h:Arr W D xs)(h':Arr W D ys):xs=ys:=by
  unfold Arr at h h';rw[h]at h';have e:=congrArg (fun o=>match o with|some (Obj.cells c _ _)=>c.toList|_=>[]) h';simp only at e;refine List.map_inj_right (f:=uCell) (fun a b hab=>?_)|>.1 e
  unfold uCell at hab
  injection hab with _ hab
  exact_mod_cast hab
theorem MulAt.start{W0 wr:World}{D:Nat}{ds es:List Nat}{i:Nat}(h:MulAt W0 D ds es i wr)(x:Nat):MulIn W0 D ds es i x 0 0 wr:=by
  obtain⟨⟨xs,h1,h2,h3,h4⟩,h5⟩:=h;exact⟨⟨xs,xs,h1,h2,h3,rfl,h4,rfl,by simp[val]⟩,h5,by omega⟩
theorem mul_bound{cn x y d:Nat}(hc:cn<=4294967295)(hx:x<=4294967295)(hy:y<=4294967295)(hd:d<=4294967295):cn+(x*y+d)<=18446744073709551615:=by
  have:x*y<=4294967295*4294967295:=Nat.mul_le_mul hx hy;omega
theorem MulIn.step{W0 wr:World}{D:Nat}{ds es:List Nat}{i x k cn y d:Nat}(h:MulIn W0 D ds es i x k cn wr)(hk:k<es.length)(hi:i<ds.length)(hy:es[k]=y)(hx1:x<=4294967295)(hy1:y<=4294967295)(hd:∀xs,Arr wr D xs-> ∀h:i+k<xs.length,xs[i+k]=d)(hd1:d<=4294967295):
    MulIn W0 D ds es i x (k+1) ((cn+(x*y+d))/4294967296) (wr.setCell ⟨D,i+k,none⟩ (.int .u32 (((cn+(x*y+d))%4294967296:Nat):Int))):=by
  have hcy:=h.cy1;obtain⟨⟨xs,xs0,h1,h2,h3,h4,h5,h6,h7⟩,h8,h9⟩:=h;have hlt:i+k<xs.length:=by omega
  have hlt0:i+k<xs0.length:=by omega
  have hdd:=hd xs h1 hlt
  have hd0:xs0[i+k]=d:=by
    rw[List.drop_eq_getElem_cons hlt,List.drop_eq_getElem_cons hlt0]at h6;rw[<-hdd];exact(List.cons.inj h6).1.symm
  have hb:=mul_bound hcy hx1 hy1 hd1;refine⟨⟨xs.set (i+k) ((cn+(x*y+d))%4294967296),xs0,h1.store _ _,by simpa using h2,all_set h3 (by rw[b32];omega),by simpa using h4,h5,?_,?_⟩,h8.setCell (p:=⟨D,i+k,none⟩) (Nat.le_refl _) _,by omega⟩
  . rw[<-Nat.add_assoc,List.drop_set_of_lt (by omega)];rw[List.drop_eq_getElem_cons hlt,List.drop_eq_getElem_cons hlt0]at h6;exact(List.cons.inj h6).2
  rw[<-Nat.add_assoc,val_take_set hlt,val_take_succ hlt0,val_take_succ hk,hd0,hy,Nat.pow_succ,Nat.mul_add x,Nat.mul_add (B32^i)];have e1:B32^i*(x*(B32^k*y))=B32^(i+k)*(x*y):=by rw[Nat.pow_add];ac_rfl
  rw[e1];generalize B32^(i+k)=p at*;rw[Nat.mul_assoc p B32]
  have e2:p*((cn+(x*y+d))%4294967296)+p*(B32*((cn+(x*y+d))/4294967296))=p*cn+(p*(x*y)+p*d):=by
    rw[<-Nat.mul_add,b32,Nat.mod_add_div,Nat.mul_add,Nat.mul_add]
  omega
theorem MulIn.done{W0 wr:World}{D:Nat}{ds es:List Nat}{i x cn:Nat}(h:MulIn W0 D ds es i x es.length cn wr)(hi:i<ds.length)(hx:ds[i]=x):
    MulAt W0 D ds es (i+1) (wr.setCell ⟨D,i+es.length,none⟩ (.int .u32 (cn:Int))):=by
  have hcy:=h.cy1;obtain⟨⟨xs,xs0,h1,h2,h3,h4,h5,h6,h7⟩,h8,h9⟩:=h;refine⟨⟨xs.set (i+es.length) cn,h1.store _ _,by simpa using h2,all_set h3 (by rw[b32];omega),?_⟩,h8.setCell (p:=⟨D,i+es.length,none⟩) (Nat.le_refl _) _⟩;rw[show i+1+es.length=i+es.length+1 by omega,val_take_set (by omega),h7,h5,val_take_succ hi,hx,List.take_length,Nat.add_mul,Nat.mul_assoc]
set_option maxRecDepth 100000 in
set_option maxHeartbeats 2000000 in
theorem mul_core(P Q:Option Addr)(c c':Nat)(ds es:List Nat)(w:World)(hd:DigP w P ds)(he:DigP w Q es)(h1:∀d∈ds,d<B32)(h2:∀d∈es,d<B32)(hl:ds.length+es.length<=1000000)(hz:∀w1,Below w.heap.size w w1->Calls Tryz.prog 55 #[.agg #[.slice P ds.length c]] w1 fun e w'=>e=.returned (.bool false)/\Below w1.heap.size w1 w')(hz':∀w1,Below w.heap.size w w1->Calls Tryz.prog 55 #[.agg #[.slice Q es.length c']] w1 fun e w'=>e=.returned (.bool false)/\Below w1.heap.size w1 w'):
    Calls Tryz.prog 115 #[.agg #[.slice P ds.length c],.agg #[.slice Q es.length c']] w fun e w'=> ∃v,e=.returned v/\NatV w' v (val B32 ds*val B32 es)/\Below w.heap.size w w':=by
  obtain⟨i0,hi,hz0,hz1,hz2⟩:=info_parts infoU;have H1:=hid h1;have H2:=hid h2;have HZ:=hid hz;have HZ':=hid hz';clear h1 h2 hz hz';go_enter Tryz.func115,Tryz.ntmps115;go_upto_region 1 with(fail);obtain⟨W0,hW0,hsz,kA0,kB0,kR0,hWb0⟩:=box3_head (.slice P ds.length c) (.slice Q es.length c') w;rw[<-hW0];have b1:w.heap.size<W0.heap.size:=by omega
  have b2:w.heap.size+1<W0.heap.size:=by omega
  have b3:w.heap.size+1+1<W0.heap.size:=by omega
  clear hW0 hsz;have a00:=cell_box1 kA0;have a10:=cell_box1 kB0;refine wp_region_text (fun w'=>Below W0.heap.size W0 w') [1,1,0,1,1,0] (by exact Below.refl _ _) ?_;have hsub:∀w',Below W0.heap.size W0 w'->Below w.heap.size w w':=fun w' h=>hWb0.trans (h.mono hWb0.size)
  refine zs2 ?_;apply lexH rfl
  . intro w' hw';go_simp;(try go_bits);refine(HZ.out _ (hsub _ hw')).mono ?_;rintro e w1 ⟨rfl,hw1⟩;exact⟨_,rfl,rfl,hw'.trans (hw1.mono hw'.size)⟩
  refine zs4 ?_;refine zs0 ?_;refine zs7 ?_;apply lexHg (j:=2) (d:=13) (b:=false) rfl rfl rfl rfl
  . intro w' hw';go_simp;(try go_bits);refine(HZ'.out _ (hsub _ hw')).mono ?_;rintro e w1 ⟨rfl,hw1⟩;exact⟨_,rfl,rfl,hw'.trans (hw1.mono hw'.size)⟩
  refine zs4 ?_;refine zs0 ?_;refine lexEnd (fun W1 hw1=>?_);have kA:=(hw1.block _ b1).trans kA0;have kB:=(hw1.block _ b2).trans kB0;have kR:=(hw1.block _ b3).trans kR0;have hWb:=hWb0.trans (hw1.mono hWb0.size);have hd1:=hd.below hWb;have he1:=he.below hWb;have hs1:=hw1.size;replace b1:=Nat.lt_of_lt_of_le b1 hs1;replace b2:=Nat.lt_of_lt_of_le b2 hs1;replace b3:=Nat.lt_of_lt_of_le b3 hs1;clear hd he a00 a10 kA0 kB0 kR0 hWb0 HZ HZ' hw1 hs1 hsub;have a0:=cell_box1 kA;have a1:=cell_box1 kB;go_wp2_with (at_make;refine wpList_make_full _ rfl _ _ _ rfl W1.heap.size 132 i0 _ 1 Tryz.underlying66 hi hz0 hz1 _ _ _ _ (ds.length+es.length) rfl rfl (by simp) (by simp) (by rw[hz2];omega) (by unfold maxLen;omega) (Nat.le_refl _) ?_;intro w2 hown hgr;have hb2:Below W1.heap.size W1 w2:=(Below.refl _ W1).grown hgr (Nat.le_refl _) (by simp);have hA:=arr_made hown;clear hown hgr;have hcc:=cellsBelow hb2);clear hcc;have hA0:MulAt W1 W1.heap.size ds es 0 w2:=⟨⟨_,hA,by simp,fun x hx=>by rw[List.eq_of_mem_replicate hx,b32];omega,by simp[val,val_replicate]⟩,hb2⟩;clear hA hb2;go_loopw [29] (fun i wr=> ∃k:Nat,k<=ds.length/\i=.int .i64 k/\MulAt W1 W1.heap.size ds es k wr) (fun i _=>ds.length-(intOf i).toNat)
  case atStart=>exact⟨0,Nat.zero_le _,rfl,hA0⟩
  clear hA0;obtain⟨i,hk,rfl,hat⟩:=hrel;have hold:=hat.old;have hcc:=cellsBelow hold
  by_cases hlt:i<ds.length
  . obtain⟨g,rfl,hdg⟩:=hd1.at hlt;have hgl:=hdg.lt;have g0:=hdg.at0 i hlt;have hx1:ds[i]<=4294967295:=by have:=H1.out _ (List.getElem_mem hlt);rw[b32]at this;omega
    obtain⟨x,hx⟩:∃x,ds[i]=x:=⟨_,rfl⟩;rw[hx]at g0 hx1;have HX:=hid hx;have HIN:=hid (hat.start x);clear hx hat;go_upto_region 9 with(fail);clear hcc hold;go_loopw [8,37] (fun cy i' wr=> ∃k cn:Nat,k<=es.length/\i'=.int .i64 k/\cy=.int .u64 (cn:Int)/\MulIn W1 W1.heap.size ds es i x k cn wr) (fun _ i' _=>es.length-(intOf i').toNat)
    case atStart=>exact⟨0,0,Nat.zero_le _,rfl,rfl,HIN.out⟩
    clear HIN;obtain⟨k,cn,hk2,rfl,rfl,hat⟩:=hrel;have hold:=hat.old;have hcc:=cellsBelow hold;have hcy:=hat.cy1
    by_cases hlt2:k<es.length
    . obtain⟨g',rfl,heg⟩:=he1.at hlt2;have hgl':=heg.lt;have g1:=heg.at0 k hlt2;have hy1:es[k]<=4294967295:=by have:=H2.out _ (List.getElem_mem hlt2);rw[b32]at this;omega
      obtain⟨y,hy⟩:∃y,es[k]=y:=⟨_,rfl⟩;obtain⟨xs,_,hxs,hxl,hxb,_⟩:=hat.arr;have hfr:=hxs.free;have hik:i+k<xs.length:=by omega
      have c0:=hxs.cell (i+k) hik;have hd1':xs[i+k]<=4294967295:=by have:=hxb _ (List.getElem_mem hik);rw[b32]at this;omega
      obtain⟨d,hdd⟩:∃d,xs[i+k]=d:=⟨_,rfl⟩;rw[hy]at g1 hy1;rw[hdd]at c0 hd1'
      have HS:=hid (hat.step hlt2 hlt hy hx1 hy1 (fun xs' h' hl'=>by
        have e:xs'=xs:=arr_inj h' hxs;subst e;exact hdd) hd1')
      have hmb:=mul_bound hcy hx1 hy1 hd1';have hmb0:0<=(x:Int)*(y:Int):=Int.mul_nonneg (by omega) (by omega)
      have hmb1:(cn:Int)+((x:Int)*(y:Int)+(d:Int))<=18446744073709551615:=by
        have e1:((x*y:Nat):Int)=(x:Int)*(y:Int):=Int.natCast_mul x y;omega
      clear hy hdd hat hmb;go_upto_region 12 with(fail);go_upto_region 13 with(fail);obtain⟨t,ht,ht2⟩:∃t:Nat,cn+(x*y+d)=t/\(cn:Int)+((x:Int)*(y:Int)+(d:Int))=(t:Int):=⟨_,rfl,by simp only[Int.natCast_add,Int.natCast_mul]⟩;rw[ht]at HS;rw[ht2];rw[ht2]at hmb1;clear ht ht2 hmb0;go_wp2;go_roundw
      case rel=>exact⟨k+1,t/4294967296,by omega,by go_num,rfl,HS.out⟩
      case measure=>simp[intOf];omega
    obtain rfl:k=es.length:=by omega
    obtain⟨xs,_,hxs,hxl,hxb,_⟩:=hat.arr;have hfr:=hxs.free;have hik:i+es.length<xs.length:=by omega
    have c0:=hxs.cell (i+es.length) hik;have HS:=hid (hat.done hlt HX.out);clear hat;go_wp2;go_roundw
    case rel=>exact⟨i+1,by omega,by go_num,HS.out⟩
    case measure=>simp[intOf];omega
  obtain rfl:i=ds.length:=by omega
  obtain⟨xs,hxs,hxl,hxb,hxv⟩:=hat.arr;have HT:=hid (trim_arr hxs hxb (by omega));rw[<-hxl,List.take_length,List.take_length]at hxv;rw[hxv,hxl]at HT;clear hxv hat;go_wp2_with (go_at_call 104;refine HT.out.mono ?_;clear HT;rintro e w3 ⟨p,c3,rfl,hv,hw3⟩;have hb3:=hold.trans (hw3.mono hold.size);have hR2:=(hb3.block _ b3).trans kR;have hc2:=cell_box1 hR2;have hf2:=free_box1 hR2);have hc3:=res_store hR2 (.slice p (digs B32 (val B32 ds*val B32 es)).length c3);refine bodyPost_ret (v:=.agg #[.slice p (digs B32 (val B32 ds*val B32 es)).length c3]) (by simp[results,Tryz.results115,go_sem,hc3]) rfl ⟨_,rfl,hv.store hc2 _,?_⟩;exact(hWb.trans (hb3.mono (by omega))).setCell (p:=⟨w.heap.size+1+1,0,none⟩) (by show _<=w.heap.size+1+1;omega) _
set_option maxHeartbeats 1000000 in
theorem mul_zero1(P Q:Option Addr)(c c' l m:Nat)(w:World)(hz:∀w1,Below w.heap.size w w1->Calls Tryz.prog 55 #[.agg #[.slice P l c]] w1 fun e w'=>e=.returned (.bool true)/\Below w1.heap.size w1 w'):
    Calls Tryz.prog 115 #[.agg #[.slice P l c],.agg #[.slice Q m c']] w fun e w'=>e=.returned (.agg #[.slice none 0 0])/\Below w.heap.size w w':=by
  have HZ:=hid hz;clear hz;go_enter Tryz.func115,Tryz.ntmps115;go_upto_region 1 with(fail);obtain⟨W0,hW0,hsz,kA0,kB0,kR0,hWb0⟩:=box3_head (.slice P l c) (.slice Q m c') w;rw[<-hW0];have b1:w.heap.size<W0.heap.size:=by omega
  have b2:w.heap.size+1<W0.heap.size:=by omega
  have b3:w.heap.size+1+1<W0.heap.size:=by omega
  clear hW0 hsz;have a00:=cell_box1 kA0;have a10:=cell_box1 kB0;refine wp_region_text (fun w'=>Below W0.heap.size W0 w') [1,1,0,1,1,0] (by exact Below.refl _ _) ?_;have hsub:∀w',Below W0.heap.size W0 w'->Below w.heap.size w w':=fun w' h=>hWb0.trans (h.mono hWb0.size)
  refine zs2 ?_;apply lexH rfl
  . intro w' hw';go_simp;(try go_bits);refine(HZ.out _ (hsub _ hw')).mono ?_;rintro e w1 ⟨rfl,hw1⟩;exact⟨_,rfl,rfl,hw'.trans (hw1.mono hw'.size)⟩
  refine zs4 ?_;refine zs0 ?_
  iterate 2 (refine zs7 ?_)
  refine zs0 ?_;refine lexEnd (fun W1 hw1=>?_);have kR:=(hw1.block _ b3).trans kR0;have a2:=cell_box1 kR;have f2:=free_box1 kR;have hWb:=hWb0.trans (hw1.mono hWb0.size);have hs1:=hw1.size;replace b3:=Nat.lt_of_lt_of_le b3 hs1;clear a00 a10 kA0 kB0 kR0 hWb0 hw1 hs1 hsub;go_wp2;have hc3:=res_store kR (.slice none 0 0);refine bodyPost_ret (v:=.agg #[.slice none 0 0]) (by simp[results,Tryz.results115,go_sem,hc3]) rfl ⟨rfl,?_⟩;exact hWb.setCell (p:=⟨w.heap.size+1+1,0,none⟩) (by show _<=w.heap.size+1+1;omega) _
set_option maxHeartbeats 1000000 in
theorem mul_zero2(P Q:Option Addr)(c c' l m:Nat)(w:World)(hz:∀w1,Below w.heap.size w w1->Calls Tryz.prog 55 #[.agg #[.slice P l c]] w1 fun e w'=>e=.returned (.bool false)/\Below w1.heap.size w1 w')(hz':∀w1,Below w.heap.size w w1->Calls Tryz.prog 55 #[.agg #[.slice Q m c']] w1 fun e w'=>e=.returned (.bool true)/\Below w1.heap.size w1 w'):
    Calls Tryz.prog 115 #[.agg #[.slice P l c],.agg #[.slice Q m c']] w fun e w'=>e=.returned (.agg #[.slice none 0 0])/\Below w.heap.size w w':=by
  have HZ:=hid hz;have HZ':=hid hz';clear hz hz';go_enter Tryz.func115,Tryz.ntmps115;go_upto_region 1 with(fail);obtain⟨W0,hW0,hsz,kA0,kB0,kR0,hWb0⟩:=box3_head (.slice P l c) (.slice Q m c') w;rw[<-hW0];have b1:w.heap.size<W0.heap.size:=by omega
  have b2:w.heap.size+1<W0.heap.size:=by omega
  have b3:w.heap.size+1+1<W0.heap.size:=by omega
  clear hW0 hsz;have a00:=cell_box1 kA0;have a10:=cell_box1 kB0;refine wp_region_text (fun w'=>Below W0.heap.size W0 w') [1,1,0,1,1,0] (by exact Below.refl _ _) ?_;have hsub:∀w',Below W0.heap.size W0 w'->Below w.heap.size w w':=fun w' h=>hWb0.trans (h.mono hWb0.size)
  refine zs2 ?_;apply lexH rfl
  . intro w' hw';go_simp;(try go_bits);refine(HZ.out _ (hsub _ hw')).mono ?_;rintro e w1 ⟨rfl,hw1⟩;exact⟨_,rfl,rfl,hw'.trans (hw1.mono hw'.size)⟩
  refine zs4 ?_;refine zs0 ?_;refine zs7 ?_;apply lexHg (j:=2) (d:=13) (b:=false) rfl rfl rfl rfl
  . intro w' hw';go_simp;(try go_bits);refine(HZ'.out _ (hsub _ hw')).mono ?_;rintro e w1 ⟨rfl,hw1⟩;exact⟨_,rfl,rfl,hw'.trans (hw1.mono hw'.size)⟩
  refine zs4 ?_;refine zs0 ?_;refine lexEnd (fun W1 hw1=>?_);have kR:=(hw1.block _ b3).trans kR0;have a2:=cell_box1 kR;have f2:=free_box1 kR;have hWb:=hWb0.trans (hw1.mono hWb0.size);have hs1:=hw1.size;replace b3:=Nat.lt_of_lt_of_le b3 hs1;clear a00 a10 kA0 kB0 kR0 hWb0 hw1 hs1 hsub;go_wp2;have hc3:=res_store kR (.slice none 0 0);refine bodyPost_ret (v:=.agg #[.slice none 0 0]) (by simp[results,Tryz.results115,go_sem,hc3]) rfl ⟨rfl,?_⟩;exact hWb.setCell (p:=⟨w.heap.size+1+1,0,none⟩) (by show _<=w.heap.size+1+1;omega) _
theorem mul_any(v u:Value)(n m:Nat)(w:World)(hv:NatV w v n)(hu:NatV w u m)(hl:(digs B32 n).length+(digs B32 m).length<=1000000):
    Calls Tryz.prog 115 #[v,u] w fun e w'=> ∃x,e=.returned x/\NatV w' x (n*m)/\Below w.heap.size w w':=by
  have hz:=fun w1 (hb:Below w.heap.size w w1)=>isZero_any v n w1 (hv.below hb)
  have hz':=fun w1 (hb:Below w.heap.size w w1)=>isZero_any u m w1 (hu.below hb)
  obtain⟨P,c,rfl,hp⟩:=hv.digp;obtain⟨Q,c',rfl,hq⟩:=hu.digp
  by_cases h0:n=0
  . subst h0;refine(mul_zero1 P Q c c' _ _ w hz).mono fun e w' ⟨h1,h2⟩=>⟨_,h1,?_,h2⟩
    rw[Nat.zero_mul];exact NatV.zero _
  rw[show(n==0)=false by simpa using h0]at hz
  by_cases h1:m=0
  . subst h1;refine(mul_zero2 P Q c c' _ _ w hz hz').mono fun e w' ⟨h1,h2⟩=>⟨_,h1,?_,h2⟩
    rw[Nat.mul_zero];exact NatV.zero _
  rw[show(m==0)=false by simpa using h1]at hz';have:=mul_core P Q c c' _ _ w hp hq (digs_lt b32_2 n) (digs_lt b32_2 m) hl hz hz'
  rwa [val_digs b32_2,val_digs b32_2]at this
theorem div_or(h l:Nat)(hh:h<=4294967295)(hl:l<=4294967295):bits BinOp.or IntKind.u64 ((h:Int)*4294967296) (l:Int)=((h*4294967296+l:Nat):Int):=by
  have e1:(h:Int)*4294967296=((h*4294967296:Nat):Int):=by omega
  rw[e1,u64_or_nat _ _ (by omega) (by omega)];have e2:h*4294967296=2^32*h:=by omega
  rw[e2, <-Nat.two_pow_add_eq_or_of_lt (show l<2^32 by omega)]
set_option maxHeartbeats 1000000 in
theorem div32_any(h l y:Nat)(w:World)(hh:h<y)(hl:l<=4294967295)(hy:y<=4294967295):
    Calls Tryz.prog 103 #[.int .u32 (h:Int),.int .u32 (l:Int),.int .u32 (y:Int)] w fun e w'=>e=.returned (.tuple #[.int .u32 (((h*4294967296+l)/y:Nat):Int),.int .u32 (((h*4294967296+l)%y:Nat):Int)])/\Below w.heap.size w w':=by
  have q0:((y:Int)==0)=false:=by rw[beq_eq_false_iff_ne];omega
  have q1:((y:Int) !=0)=true:=by rw[bne_iff_ne];omega
  have q2:¬((y:Int)<=(h:Int)):=by omega
  have hq:(h*4294967296+l)/y<4294967296:=Nat.div_lt_of_lt_mul (by
    have:=Nat.mul_le_mul_right 4294967296 (show h+1<=y from hh);omega)
  have hr:(h*4294967296+l)%y<y:=Nat.mod_lt _ (by omega);obtain⟨t,ht,ht2⟩:∃t:Nat,h*4294967296+l=t/\(h:Int)*4294967296+(l:Int)=(t:Int):=⟨_,rfl,by omega⟩;have hor:=div_or h l (by omega) hl;rw[ht]at hor;rw[ht]at hq hr;rw[ht];have hq1:(t:Int)/(y:Int)<4294967296:=by have e:(t:Int)/(y:Int)=((t/y:Nat):Int):=rfl;omega
  have hr1:(t:Int)%(y:Int)<4294967296:=by have e:(t:Int)%(y:Int)=((t%y:Nat):Int):=rfl;omega
  have hq2:0<=(t:Int)/(y:Int):=Int.natCast_nonneg (t/y);have hr2:0<=(t:Int)%(y:Int):=Int.natCast_nonneg (t%y);have hy0:¬y=0:=by omega
  clear ht ht2 hq hr;go_enter Tryz.func103,Tryz.ntmps103;go_upto_region 4 with(fail);refine wp_region_staged (fun w'=>Below w.heap.size w w') [0,0,0,0,0,0,0,0,0,0,0,0] (by kernel_rfl) (by kernel_rfl) (by kernel_rfl) (by exact(Below.refl _ _).drew) ?_
  iterate 12 (refine zs0 ?_)
  refine lexEnd (fun w2 hw2=>?_);go_wp2;go_ret2;exact⟨rfl,hw2⟩
theorem val_drop{B:Nat}{ds:List Nat}{j:Nat}(hj:j<ds.length):val B (ds.drop j)=ds[j]+B*val B (ds.drop (j+1)):=by
  rw[List.drop_eq_getElem_cons hj];rfl
theorem val_drop_set{B:Nat}{xs:List Nat}{j v:Nat}(hj:j<xs.length):val B ((xs.set j v).drop j)=v+B*val B (xs.drop (j+1)):=by
  rw[val_drop (by simpa using hj),List.getElem_set_self,List.drop_set_of_lt (by omega)]
structure DivAt(W0:World)(D:Nat)(ds:List Nat)(b k r:Nat)(wr:World):Prop where
  arr:∃xs:List Nat,Arr wr D xs/\xs.length=ds.length/\(∀x∈xs,x<B32)/\val B32 (ds.drop k)=b*val B32 (xs.drop k)+r
  old:Below D W0 wr
  rb:r<b
theorem DivAt.step{W0 wr wr':World}{D:Nat}{ds:List Nat}{b j r x:Nat}(h:DivAt W0 D ds b (j+1) r wr)(hw:Below wr.heap.size wr wr')(hj:j<ds.length)(hx:ds[j]=x)(hx1:x<=4294967295)(hb:b<=4294967295):
    DivAt W0 D ds b j ((r*4294967296+x)%b) (wr'.setCell ⟨D,j,none⟩ (.int .u32 (((r*4294967296+x)/b:Nat):Int))):=by
  have hrb:=h.rb;obtain⟨⟨xs,h1,h2,h3,h4⟩,h5,h6⟩:=h
  have hq:(r*4294967296+x)/b<4294967296:=Nat.div_lt_of_lt_mul (by
    have:=Nat.mul_le_mul_right 4294967296 (show r+1<=b from hrb);omega)
  refine⟨⟨xs.set j ((r*4294967296+x)/b),(h1.below hw).store _ _,by simpa using h2,all_set h3 (by rw[b32];exact hq),?_⟩,(h5.trans (hw.mono (Nat.le_of_lt h1.lt))).setCell (p:=⟨D,j,none⟩) (Nat.le_refl _) _,Nat.mod_lt _ (by omega)⟩;rw[val_drop hj,val_drop_set (by omega),h4,hx];have e:=Nat.div_add_mod (r*4294967296+x) b;rw[b32,Nat.mul_add 4294967296,Nat.mul_add b,Nat.mul_left_comm];omega
set_option maxRecDepth 100000 in
set_option maxHeartbeats 2000000 in
theorem divs_core(P:Option Addr)(c b:Nat)(ds:List Nat)(w:World)(hd:DigP w P ds)(h1:∀d∈ds,d<B32)(hl:ds.length<=1000000)(hb0:0<b)(hb1:b<=4294967295):
    Calls Tryz.prog 78 #[.agg #[.slice P ds.length c],.int .u32 (b:Int)] w fun e w'=> ∃v,e=.returned (.tuple #[v,.int .u32 ((val B32 ds%b:Nat):Int)])/\NatV w' v (val B32 ds/b)/\Below w.heap.size w w':=by
  obtain⟨i0,hi,hz0,hz1,hz2⟩:=info_parts infoU;have H1:=hid h1;clear h1;go_enter Tryz.func78,Tryz.ntmps78;go_upto_region 1 with(fail);obtain⟨W1,hW1,hsz,kA,kR,hWb⟩:=box2_head (.slice P ds.length c) (.slice none 0 0) 68 68 w;rw[<-hW1];have b1:w.heap.size<W1.heap.size:=by omega
  have b3:w.heap.size+1<W1.heap.size:=by omega
  have hd1:=hd.below hWb;clear hW1 hsz hd;have a0:=cell_box1 kA;go_wp2_with (at_make;refine wpList_make_full _ rfl _ _ _ rfl W1.heap.size 132 i0 _ 1 Tryz.underlying66 hi hz0 hz1 _ _ _ _ ds.length rfl rfl (by simp) (by simp) (by rw[hz2];omega) (by unfold maxLen;omega) (Nat.le_refl _) ?_;intro w2 hown hgr;have hb2:Below W1.heap.size W1 w2:=(Below.refl _ W1).grown hgr (Nat.le_refl _) (by simp);have hA:=arr_made hown;clear hown hgr;have hcc:=cellsBelow hb2);clear hcc
  have hA0:DivAt W1 W1.heap.size ds b ds.length 0 w2:=⟨⟨_,hA,by simp,fun x hx=>by rw[List.eq_of_mem_replicate hx,b32];omega,by
    rw[List.drop_length,List.drop_eq_nil_of_le (by simp)];simp[val]⟩,hb2,hb0⟩
  clear hA hb2;go_loopw [7,8] (fun r i wr=> ∃k rn:Nat,k<=ds.length/\i=.int .i64 ((k:Int)-1)/\r=.int .u32 (rn:Int)/\DivAt W1 W1.heap.size ds b k rn wr) (fun _ i _=>(intOf i+1).toNat)
  case atStart=>exact⟨ds.length,0,Nat.le_refl _,rfl,rfl,hA0⟩
  clear hA0;obtain⟨k,rn,hk,rfl,rfl,hat⟩:=hrel;have hold:=hat.old;have hcc:=cellsBelow hold
  by_cases hk0:k=0
  . subst hk0;obtain⟨xs,hxs,hxl,hxb,hxv⟩:=hat.arr;rw[List.drop_zero,List.drop_zero]at hxv;have hrb:=hat.rb;have e1:val B32 ds/b=val B32 xs:=by rw[hxv,Nat.mul_add_div hb0,Nat.div_eq_of_lt hrb,Nat.add_zero]
    have e2:val B32 ds%b=rn:=by rw[hxv,Nat.mul_add_mod,Nat.mod_eq_of_lt hrb]
    have HE:=hid e1;have HE2:=hid e2;have HT:=hid (trim_arr hxs hxb (by omega));rw[hxl]at HT;clear hxv hat e1 e2;go_wp2_with (go_at_call 104;refine HT.out.mono ?_;clear HT;rintro e w3 ⟨p,c3,rfl,hv,hw3⟩;have hb3:=hold.trans (hw3.mono hold.size);have hR2:=(hb3.block _ b3).trans kR;have hc2:=cell_box1 hR2;have hf2:=free_box1 hR2);have hc3:=res_store hR2 (.slice p (digs B32 (val B32 xs)).length c3);refine bodyPost_ret (v:=.tuple #[.agg #[.slice p (digs B32 (val B32 xs)).length c3],.int .u32 (rn:Int)]) (by simp[results,Tryz.results78,go_sem,hc3]) rfl ⟨_,by rw[HE2.out],by rw[HE.out];exact hv.store hc2 _,?_⟩;exact(hWb.trans (hb3.mono (by omega))).setCell (p:=⟨w.heap.size+1,0,none⟩) (by show _<=w.heap.size+1;omega) _
  obtain⟨j,rfl⟩:∃j,k=j+1:=⟨k-1,by omega⟩;have hj:j<ds.length:=by omega
  have ei:(((j+1:Nat):Int)-1)=(j:Int):=by omega
  rw[ei];clear ei;obtain⟨g,rfl,hdg⟩:=hd1.at hj;have hgl:=hdg.lt;have g0:=hdg.at0 j hj;have q0:0<=(j:Int):=by omega
  have hx1:ds[j]<=4294967295:=by have:=H1.out _ (List.getElem_mem hj);rw[b32]at this;omega
  obtain⟨x,hx⟩:∃x,ds[j]=x:=⟨_,rfl⟩;rw[hx]at g0 hx1;have HS:=hid (fun wr' hw=>hat.step (wr':=wr') hw hj hx hx1 hb1);have hrb:=hat.rb;obtain⟨xs,hxs,hxl,hxb,_⟩:=hat.arr;have hxl':j<xs.length:=by omega
  clear hx;go_wp2_with (go_at_call 103;refine(div32_any rn x b _ hrb hx1 hb1).mono ?_;rintro e w3 ⟨rfl,hw3⟩;have hx3:=hxs.below hw3;have hfr:=hx3.free;have c0:=hx3.cell j hxl';clear hx3);go_roundw
  case rel=>exact⟨j,_,by omega,rfl,rfl,HS.out _ hw3⟩
  case measure=>simp[intOf]
theorem divs_any(v:Value)(n b:Nat)(w:World)(hv:NatV w v n)(hl:(digs B32 n).length<=1000000)(hb0:0<b)(hb1:b<=4294967295):
    Calls Tryz.prog 78 #[v,.int .u32 (b:Int)] w fun e w'=> ∃x,e=.returned (.tuple #[x,.int .u32 ((n%b:Nat):Int)])/\NatV w' x (n/b)/\Below w.heap.size w w':=by
  obtain⟨P,c,rfl,hp⟩:=hv.digp;have:=divs_core P c b _ w hp (digs_lt b32_2 n) hl hb0 hb1
  rwa [val_digs b32_2]at this
end
end Go.Proofs.YtjhaedfpigebdaaGreatDoor
