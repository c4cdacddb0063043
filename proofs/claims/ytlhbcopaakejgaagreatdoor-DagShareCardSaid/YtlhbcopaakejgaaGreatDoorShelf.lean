/-
  DERIVED: THE SHELF's CONTRACTS AT THIS DUMP, IN PLAIN WORDS (tools/lay-plain.mjs out of 'TryzShelf.lean', which tools/lay-shelf.mjs wrote): THE SAME DECLARATIONS UNDER THE SAME NAMES: 'import', 'namespace', 'open', 'def', 'theorem' AND NOTHING ELSE: no command of the shelf's: FOR A HAND-IN. Each laying: the table of numbers ('.._ren') and one theorem, a field a fact of the dump's own or the kernel's comparison; each contract: ONE APPLICATION.
-/

import Derived.Shelf.Strings.Builder1
import Derived.Shelf.Strings.Builder2
import Derived.Shelf.Small.Bits
import Derived.Shelf.Small.Wraps
import Derived.Shelf.Strings.BuilderF
import Derived.Shelf.Strings.BuilderK
import Derived.Shelf.Strings.Builder2Cap
import Derived.Shelf.Strconv.Itoa0
import Derived.Shelf.Strconv.Itoa1
import Derived.Shelf.LaysM
import Derived.Shelf.Strconv.Itoa2
import Derived.Shelf.Strconv.Itoa3
import Derived.Shelf.Strings.Prefix
import Derived.Shelf.Bits.Mul64
import Derived.Shelf.Strings.Repeat
import Derived.Shelf.Strings.BuilderCap
import Derived.Shelf.Slices.Reverse
import Derived.Ground.Names2Prog
import Derived.Shelf.Slices.SearchI
import Derived.Shelf.Slices.Cells
import Derived.Ground.SlgnProg
import Derived.Shelf.SlicesE.Reverse
import Derived.Ground.SlsfProg
import Derived.Shelf.SlSortCmp.Insertion
import Derived.Shelf.SlSortCmp.SiftDown1
import Derived.Shelf.SlSortCmp.HeapSort1
import Derived.Shelf.SlSortCmp.Insertion1
import Derived.Shelf.SlSortCmp.Median1
import Derived.Shelf.SlSortCmp.Pivot1
import Derived.Shelf.SlSortCmp.ReverseRange1
import Derived.Shelf.SlSortCmp.PartialInsertion1
import Derived.Shelf.SlSortCmp.PartitionEqual1
import Derived.Shelf.SlSortCmp.Partition1
import Derived.Shelf.SlSortCmp.Pdq1
import Derived.Shelf.SlSortCmp.Whole1
import Derived.Shelf.SlSortCmp.NoneTotal
import Derived.Test.YtlhbcopaakejgaaGreatDoorProg
namespace Go.Proofs
open Go.Shelf
def Tryz.lays169_ren:Go.Shelf.Ren:=⟨fun|169=>72|n=>n,fun|70=>111|9=>9|0=>0|72=>114|37=>112|127=>151|3=>3|5=>5|n=>n,fun|n=>n⟩
theorem Tryz.lays169:Go.Proofs.Lays.n169 Tryz.prog Tryz.lays169_ren:={
  mixed:=by kernel_rfl
  f169:=Tryz.func72.trans (congrArg some (by kernel_rfl))
  t0:=Tryz.underlying0
  a0:=Tryz.isAgg0
  z0:=Tryz.sizeOf0
  v0:=Tryz.zeroValue0
  t3:=Tryz.underlying3
  a3:=Tryz.isAgg3
  z3:=Tryz.sizeOf3
  v3:=Tryz.zeroValue3
  t9:=Tryz.underlying9
  a9:=Tryz.isAgg9
  z9:=Tryz.sizeOf9
  v9:=Tryz.zeroValue9
  t37:=Tryz.underlying112
  a37:=Tryz.isAgg112
  z37:=Tryz.sizeOf112
  v37:=Tryz.zeroValue112
  t70:=Tryz.underlying111
  a70:=Tryz.isAgg111
  z70:=Tryz.sizeOf111
  v70:=Tryz.zeroValue111
  t72:=Tryz.underlying114
  a72:=Tryz.isAgg114
  z72:=Tryz.sizeOf114
  v72:=Tryz.zeroValue114
  t127:=Tryz.underlying151
  a127:=Tryz.isAgg151
  z127:=Tryz.sizeOf151
  v127:=Tryz.zeroValue151}
theorem Tryz.Builder_Extra_169:Builder.Extra Tryz.prog Tryz.lays169_ren:={
  sizeBuilder:=by kernel_rfl
  liesBuilder:=by kernel_rfl
  t5:=Tryz.underlying5
  a5:=Tryz.isAgg5
  z5:=Tryz.sizeOf5
  v5:=Tryz.zeroValue5
  infoByte:=by kernel_rfl
  cellsByte:=by kernel_rfl
  sizeByte:=by kernel_rfl
  neB5:=by decide}
open Go.RowKit in
theorem Tryz.Builder_String_any(B b:Nat)(l:List UInt8)(w:World)(h:Lib.IsBuilder 114 5 B b (Lib.byteCells l) w)(hBw:B≤w.heap.size):
    Calls Tryz.prog 72 #[.pointer (some ⟨b,0,none⟩)] w fun e w'=>e=.returned (.string ⟨l.toArray⟩)∧Below B w w':=Any.Builder_String_any Tryz.lays169 Tryz.Builder_Extra_169 B b l w h hBw
def Tryz.lays133_ren:Go.Shelf.Ren:=⟨fun|133=>141|128=>123|n=>n,fun|51=>106|3=>3|4=>4|46=>132|5=>5|9=>9|n=>n,fun|n=>n⟩
theorem Tryz.lays133:Go.Proofs.Lays.n133 Tryz.prog Tryz.lays133_ren:={
  mixed:=by kernel_rfl
  f128:=Tryz.func123.trans (congrArg some (by kernel_rfl))
  f133:=Tryz.func141.trans (congrArg some (by kernel_rfl))
  t3:=Tryz.underlying3
  a3:=Tryz.isAgg3
  z3:=Tryz.sizeOf3
  v3:=Tryz.zeroValue3
  t4:=Tryz.underlying4
  a4:=Tryz.isAgg4
  z4:=Tryz.sizeOf4
  v4:=Tryz.zeroValue4
  t5:=Tryz.underlying5
  a5:=Tryz.isAgg5
  z5:=Tryz.sizeOf5
  v5:=Tryz.zeroValue5
  t9:=Tryz.underlying9
  a9:=Tryz.isAgg9
  z9:=Tryz.sizeOf9
  v9:=Tryz.zeroValue9
  t46:=Tryz.underlying132
  a46:=Tryz.isAgg132
  z46:=Tryz.sizeOf132
  v46:=Tryz.zeroValue132
  t51:=Tryz.underlying106
  a51:=Tryz.isAgg106
  z51:=Tryz.sizeOf106
  v51:=Tryz.zeroValue106}
theorem Tryz.bits_LeadingZeros32(x:Int)(w:World)(h0:0≤x)(h1:x≤4294967295):
    Calls Tryz.prog 141 #[.int .u32 x] w fun e w'=>e=.returned (.int .i64 (32-(Lib.bitLen x.toNat:Int)))∧w'=w:=Any.bits_LeadingZeros32 Tryz.lays133 x w h0 h1
def Tryz.laysM171_ren:Go.Shelf.Ren:=⟨fun|171=>69|243=>101|246=>132|283=>150|284=>151|285=>152|286=>153|129=>124|317=>158|318=>159|319=>160|320=>161|337=>162|338=>163|n=>n,fun|3=>3|9=>9|2=>2|4=>4|171=>194|0=>0|53=>127|37=>112|5=>5|173=>196|212=>205|51=>106|20=>20|213=>206|46=>132|232=>207|233=>208|n=>n,fun|17=>1|18=>3|19=>4|n=>n⟩
theorem Tryz.laysM171:Go.Proofs.LaysM.n171 Tryz.prog Tryz.laysM171_ren:={
  mixed:=by kernel_rfl
  f129:=Tryz.func124.trans (congrArg some (by kernel_rfl))
  f171:=Tryz.func69.trans (congrArg some (by kernel_rfl))
  f243:=Tryz.func101.trans (congrArg some (by kernel_rfl))
  f246:=Tryz.func132.trans (congrArg some (by kernel_rfl))
  f283:=Tryz.func150.trans (congrArg some (by kernel_rfl))
  f284:=Tryz.func151.trans (congrArg some (by kernel_rfl))
  f285:=Tryz.func152.trans (congrArg some (by kernel_rfl))
  f286:=Tryz.func153.trans (congrArg some (by kernel_rfl))
  f317:=Tryz.func158.trans (congrArg some (by kernel_rfl))
  f318:=Tryz.func159.trans (congrArg some (by kernel_rfl))
  f319:=Tryz.func160.trans (congrArg some (by kernel_rfl))
  f320:=Tryz.func161.trans (congrArg some (by kernel_rfl))
  f337:=Tryz.func162.trans (congrArg some (by kernel_rfl))
  f338:=Tryz.func163.trans (congrArg some (by kernel_rfl))
  t0:=Tryz.underlying0
  a0:=Tryz.isAgg0
  z0:=Tryz.sizeOf0
  v0:=Tryz.zeroValue0
  t2:=Tryz.underlying2
  a2:=Tryz.isAgg2
  z2:=Tryz.sizeOf2
  v2:=Tryz.zeroValue2
  t3:=Tryz.underlying3
  a3:=Tryz.isAgg3
  z3:=Tryz.sizeOf3
  v3:=Tryz.zeroValue3
  t4:=Tryz.underlying4
  a4:=Tryz.isAgg4
  z4:=Tryz.sizeOf4
  v4:=Tryz.zeroValue4
  t5:=Tryz.underlying5
  a5:=Tryz.isAgg5
  z5:=Tryz.sizeOf5
  v5:=Tryz.zeroValue5
  t9:=Tryz.underlying9
  a9:=Tryz.isAgg9
  z9:=Tryz.sizeOf9
  v9:=Tryz.zeroValue9
  t20:=Tryz.underlying20
  a20:=Tryz.isAgg20
  z20:=Tryz.sizeOf20
  v20:=Tryz.zeroValue20
  t37:=Tryz.underlying112
  a37:=Tryz.isAgg112
  z37:=Tryz.sizeOf112
  v37:=Tryz.zeroValue112
  t46:=Tryz.underlying132
  a46:=Tryz.isAgg132
  z46:=Tryz.sizeOf132
  v46:=Tryz.zeroValue132
  t51:=Tryz.underlying106
  a51:=Tryz.isAgg106
  z51:=Tryz.sizeOf106
  v51:=Tryz.zeroValue106
  t53:=Tryz.underlying127
  a53:=Tryz.isAgg127
  z53:=Tryz.sizeOf127
  v53:=Tryz.zeroValue127
  t171:=Tryz.underlying194
  a171:=Tryz.isAgg194
  z171:=Tryz.sizeOf194
  v171:=Tryz.zeroValue194
  t173:=Tryz.underlying196
  a173:=Tryz.isAgg196
  z173:=Tryz.sizeOf196
  v173:=Tryz.zeroValue196
  t212:=Tryz.underlying205
  a212:=Tryz.isAgg205
  z212:=Tryz.sizeOf205
  v212:=Tryz.zeroValue205
  t213:=Tryz.underlying206
  a213:=Tryz.isAgg206
  z213:=Tryz.sizeOf206
  t232:=Tryz.underlying207
  a232:=Tryz.isAgg207
  z232:=Tryz.sizeOf207
  v232:=Tryz.zeroValue207
  t233:=Tryz.underlying208
  a233:=Tryz.isAgg208
  z233:=Tryz.sizeOf208
  v233:=Tryz.zeroValue208
  g17:=by kernel_rfl
  g18:=by kernel_rfl
  g19:=by kernel_rfl
  i0:=by kernel_rfl
  i2:=by kernel_rfl
  i3:=by kernel_rfl
  i4:=by kernel_rfl
  i5:=by kernel_rfl
  i9:=by kernel_rfl
  i20:=by kernel_rfl
  i37:=by kernel_rfl
  i46:=by kernel_rfl
  i51:=by kernel_rfl
  i53:=by kernel_rfl
  i171:=by kernel_rfl
  i173:=by kernel_rfl
  i212:=by kernel_rfl
  i232:=by kernel_rfl
  i233:=by kernel_rfl
  m17:=by kernel_rfl
  m18:=by kernel_rfl
  m19:=by kernel_rfl}
open Go.RowKit Go.Sort Go.Lib in
theorem Tryz.strconv_Itoa(n:Int)(h0: -9223372036854775808≤n)(h1:n≤9223372036854775807)(w:World)(htab:Lib.TabIs Tryz.prog w "internal/strconv.uint64pow10" .u64 Lib.pow10Tab):
    Calls Tryz.prog 69 #[.int .i64 n] w fun e w'=>e=.returned (.string ⟨(Lib.itoa n).toArray⟩)∧ ∃k os,w'=grow (w.drewN k) os:=Any.strconv_Itoa Tryz.laysM171 n h0 h1 w htab
def Tryz.lays105_ren:Go.Shelf.Ren:=⟨fun|105=>70|212=>102|99=>103|165=>104|166=>71|170=>105|169=>72|263=>133|264=>134|206=>135|240=>106|241=>136|276=>137|277=>154|n=>n,fun|9=>9|3=>3|4=>4|20=>20|0=>0|46=>132|109=>146|5=>5|72=>114|76=>117|51=>106|146=>143|53=>127|148=>178|70=>111|37=>112|75=>116|127=>151|164=>180|80=>119|n=>n,fun|n=>n⟩
theorem Tryz.lays105:Go.Proofs.Lays.n105 Tryz.prog Tryz.lays105_ren:={
  mixed:=by kernel_rfl
  f99:=Tryz.func103.trans (congrArg some (by kernel_rfl))
  f105:=Tryz.func70.trans (congrArg some (by kernel_rfl))
  f165:=Tryz.func104.trans (congrArg some (by kernel_rfl))
  f166:=Tryz.func71.trans (congrArg some (by kernel_rfl))
  f169:=Tryz.func72.trans (congrArg some (by kernel_rfl))
  f170:=Tryz.func105.trans (congrArg some (by kernel_rfl))
  f206:=Tryz.func135.trans (congrArg some (by kernel_rfl))
  f212:=Tryz.func102.trans (congrArg some (by kernel_rfl))
  f240:=Tryz.func106.trans (congrArg some (by kernel_rfl))
  f241:=Tryz.func136.trans (congrArg some (by kernel_rfl))
  f263:=Tryz.func133.trans (congrArg some (by kernel_rfl))
  f264:=Tryz.func134.trans (congrArg some (by kernel_rfl))
  f276:=Tryz.func137.trans (congrArg some (by kernel_rfl))
  f277:=Tryz.func154.trans (congrArg some (by kernel_rfl))
  t0:=Tryz.underlying0
  a0:=Tryz.isAgg0
  z0:=Tryz.sizeOf0
  v0:=Tryz.zeroValue0
  t3:=Tryz.underlying3
  a3:=Tryz.isAgg3
  z3:=Tryz.sizeOf3
  v3:=Tryz.zeroValue3
  t4:=Tryz.underlying4
  a4:=Tryz.isAgg4
  z4:=Tryz.sizeOf4
  v4:=Tryz.zeroValue4
  t5:=Tryz.underlying5
  a5:=Tryz.isAgg5
  z5:=Tryz.sizeOf5
  v5:=Tryz.zeroValue5
  t9:=Tryz.underlying9
  a9:=Tryz.isAgg9
  z9:=Tryz.sizeOf9
  v9:=Tryz.zeroValue9
  t20:=Tryz.underlying20
  a20:=Tryz.isAgg20
  z20:=Tryz.sizeOf20
  v20:=Tryz.zeroValue20
  t37:=Tryz.underlying112
  a37:=Tryz.isAgg112
  z37:=Tryz.sizeOf112
  v37:=Tryz.zeroValue112
  t46:=Tryz.underlying132
  a46:=Tryz.isAgg132
  z46:=Tryz.sizeOf132
  v46:=Tryz.zeroValue132
  t51:=Tryz.underlying106
  a51:=Tryz.isAgg106
  z51:=Tryz.sizeOf106
  v51:=Tryz.zeroValue106
  t53:=Tryz.underlying127
  a53:=Tryz.isAgg127
  z53:=Tryz.sizeOf127
  v53:=Tryz.zeroValue127
  t70:=Tryz.underlying111
  a70:=Tryz.isAgg111
  z70:=Tryz.sizeOf111
  v70:=Tryz.zeroValue111
  t72:=Tryz.underlying114
  a72:=Tryz.isAgg114
  z72:=Tryz.sizeOf114
  v72:=Tryz.zeroValue114
  t75:=Tryz.underlying116
  a75:=Tryz.isAgg116
  z75:=Tryz.sizeOf116
  v75:=Tryz.zeroValue116
  t76:=Tryz.underlying117
  a76:=Tryz.isAgg117
  z76:=Tryz.sizeOf117
  v76:=Tryz.zeroValue117
  t109:=Tryz.underlying146
  a109:=Tryz.isAgg146
  z109:=Tryz.sizeOf146
  v109:=Tryz.zeroValue146
  t127:=Tryz.underlying151
  a127:=Tryz.isAgg151
  z127:=Tryz.sizeOf151
  v127:=Tryz.zeroValue151
  t146:=Tryz.underlying143
  a146:=Tryz.isAgg143
  z146:=Tryz.sizeOf143
  v146:=Tryz.zeroValue143
  t148:=Tryz.underlying178
  a148:=Tryz.isAgg178
  z148:=Tryz.sizeOf178
  v148:=Tryz.zeroValue178
  t164:=Tryz.underlying180
  a164:=Tryz.isAgg180
  z164:=Tryz.sizeOf180
  v164:=Tryz.zeroValue180}
theorem Tryz.Builder_Extra_105:Builder.Extra Tryz.prog Tryz.lays105_ren:={
  sizeBuilder:=by kernel_rfl
  liesBuilder:=by kernel_rfl
  t5:=Tryz.underlying5
  a5:=Tryz.isAgg5
  z5:=Tryz.sizeOf5
  v5:=Tryz.zeroValue5
  infoByte:=by kernel_rfl
  cellsByte:=by kernel_rfl
  sizeByte:=by kernel_rfl
  neB5:=by decide}
open Go.RowKit Go.Lib in
theorem Tryz.strings_Repeat(s:ByteArray)(c:Nat)(w:World)(hc:c≤9223372036854775807)(hlen:s.size*c≤140737488355328):
    Calls Tryz.prog 70 #[.string s,.int .i64 c] w fun e w'=>e=.returned (.string ⟨(Lib.repeatL s.data.toList c).toArray⟩)∧Below w.heap.size w w':=Any.strings_Repeat Tryz.lays105 Tryz.Builder_Extra_105 s c w hc hlen
def Tryz.laysSlF6_f46_ren:Go.Shelf.Ren:=⟨fun|6=>46|15=>84|14=>83|28=>123|29=>124|20=>115|21=>116|22=>117|23=>118|24=>119|25=>120|26=>121|27=>122|46=>145|47=>146|48=>147|49=>148|50=>149|57=>157|n=>n,fun|22=>43|24=>3|25=>89|3=>3|39=>132|0=>0|53=>106|55=>127|4=>4|46=>166|45=>165|50=>158|5=>5|9=>9|66=>188|70=>192|76=>201|77=>202|n=>n,fun|n=>n⟩
theorem Tryz.laysSlF6_f46:Go.Proofs.SlLaysF.n6 Tryz.prog Tryz.laysSlF6_f46_ren:={
  mixed:=by kernel_rfl
  f6:=⟨Tryz.f46.name,by decide,Tryz.func46.trans (congrArg some (by kernel_rfl))⟩
  f14:=⟨Tryz.f83.name,by decide,Tryz.func83.trans (congrArg some (by kernel_rfl))⟩
  f15:=Tryz.func84.trans (congrArg some (by kernel_rfl))
  f20:=⟨Tryz.f115.name,by decide,Tryz.func115.trans (congrArg some (by kernel_rfl))⟩
  f21:=⟨Tryz.f116.name,by decide,Tryz.func116.trans (congrArg some (by kernel_rfl))⟩
  f22:=⟨Tryz.f117.name,by decide,Tryz.func117.trans (congrArg some (by kernel_rfl))⟩
  f23:=⟨Tryz.f118.name,by decide,Tryz.func118.trans (congrArg some (by kernel_rfl))⟩
  f24:=⟨Tryz.f119.name,by decide,Tryz.func119.trans (congrArg some (by kernel_rfl))⟩
  f25:=⟨Tryz.f120.name,by decide,Tryz.func120.trans (congrArg some (by kernel_rfl))⟩
  f26:=⟨Tryz.f121.name,by decide,Tryz.func121.trans (congrArg some (by kernel_rfl))⟩
  f27:=⟨Tryz.f122.name,by decide,Tryz.func122.trans (congrArg some (by kernel_rfl))⟩
  f28:=Tryz.func123.trans (congrArg some (by kernel_rfl))
  f29:=Tryz.func124.trans (congrArg some (by kernel_rfl))
  f46:=⟨Tryz.f145.name,by decide,Tryz.func145.trans (congrArg some (by kernel_rfl))⟩
  f47:=Tryz.func146.trans (congrArg some (by kernel_rfl))
  f48:=Tryz.func147.trans (congrArg some (by kernel_rfl))
  f49:=⟨Tryz.f148.name,by decide,Tryz.func148.trans (congrArg some (by kernel_rfl))⟩
  f50:=⟨Tryz.f149.name,by decide,Tryz.func149.trans (congrArg some (by kernel_rfl))⟩
  f57:=⟨Tryz.f157.name,by decide,Tryz.func157.trans (congrArg some (by kernel_rfl))⟩
  t0:=Tryz.underlying0
  a0:=Tryz.isAgg0
  z0:=Tryz.sizeOf0
  v0:=Tryz.zeroValue0
  t3:=Tryz.underlying3
  a3:=Tryz.isAgg3
  z3:=Tryz.sizeOf3
  v3:=Tryz.zeroValue3
  t4:=Tryz.underlying4
  a4:=Tryz.isAgg4
  z4:=Tryz.sizeOf4
  v4:=Tryz.zeroValue4
  t5:=Tryz.underlying5
  a5:=Tryz.isAgg5
  z5:=Tryz.sizeOf5
  v5:=Tryz.zeroValue5
  t9:=Tryz.underlying9
  a9:=Tryz.isAgg9
  z9:=Tryz.sizeOf9
  v9:=Tryz.zeroValue9
  t22:=Tryz.underlying43
  a22:=Tryz.isAgg43
  z22:=Tryz.sizeOf43
  v22:=Tryz.zeroValue43
  a24:=Tryz.isAgg3
  z24:=Tryz.sizeOf3
  t25:=Tryz.underlying89
  a25:=Tryz.isAgg89
  z25:=Tryz.sizeOf89
  v25:=Tryz.zeroValue89
  t39:=Tryz.underlying132
  a39:=Tryz.isAgg132
  z39:=Tryz.sizeOf132
  v39:=Tryz.zeroValue132
  t45:=Tryz.underlying165
  a45:=Tryz.isAgg165
  z45:=Tryz.sizeOf165
  v45:=Tryz.zeroValue165
  t46:=Tryz.underlying166
  a46:=Tryz.isAgg166
  z46:=Tryz.sizeOf166
  v46:=Tryz.zeroValue166
  t50:=Tryz.underlying158
  a50:=Tryz.isAgg158
  z50:=Tryz.sizeOf158
  v50:=Tryz.zeroValue158
  t53:=Tryz.underlying106
  a53:=Tryz.isAgg106
  z53:=Tryz.sizeOf106
  v53:=Tryz.zeroValue106
  t55:=Tryz.underlying127
  a55:=Tryz.isAgg127
  z55:=Tryz.sizeOf127
  v55:=Tryz.zeroValue127
  t66:=Tryz.underlying188
  a66:=Tryz.isAgg188
  z66:=Tryz.sizeOf188
  v66:=Tryz.zeroValue188
  t70:=Tryz.underlying192
  a70:=Tryz.isAgg192
  z70:=Tryz.sizeOf192
  v70:=Tryz.zeroValue192
  t76:=Tryz.underlying201
  a76:=Tryz.isAgg201
  z76:=Tryz.sizeOf201
  v76:=Tryz.zeroValue201
  t77:=Tryz.underlying202
  a77:=Tryz.isAgg202
  z77:=Tryz.sizeOf202
  v77:=Tryz.zeroValue202}
open Go.RowKit Go.Lib Go.Sort in
theorem Tryz.slices_SortFunc{α:Type}[Inhabited α](enc:α→Value)(h1:OneCell enc)(cf:α→α→Int)(hO:SWO (ltOf cf))(g:Nat)(cb:Array Value)(blk off cap:Nat)(d:Array α)(w:World)(eg:∀args w,(callFunc g args).run Tryz.prog w=.ok (.enter g args) w)(hcmp:CmpLays1 Tryz.prog g cb enc cf blk off d.size w)(hH:Holds enc w blk off d)(hblk:blk<w.heap.size)(hsz:d.size<4611686018427387904):
    Calls Tryz.prog 46 #[.slice (some ⟨blk,off,none⟩) d.size cap,.func (.func g) #[] cb] w fun e w'=>
      e=.returned (.tuple #[])∧ ∃d' n os,PermIn 0 d.size d d'∧SortedIn (ltOf cf) 0 d.size d'∧w'=sortWorld enc w blk off n d' os:=Any.slices_SortFunc Tryz.laysSlF6_f46 enc h1 cf hO g cb blk off cap d w eg hcmp hH hblk hsz
def Tryz.laysSlF06_f46_ren:Go.Shelf.Ren:=⟨fun|6=>46|15=>84|14=>83|28=>123|29=>124|20=>115|21=>116|22=>117|23=>118|24=>119|25=>120|26=>121|27=>122|46=>145|47=>146|48=>147|49=>148|50=>149|57=>157|n=>n,fun|22=>43|24=>3|25=>89|3=>3|39=>132|0=>0|53=>106|55=>127|4=>4|46=>166|45=>165|50=>158|5=>5|9=>9|66=>188|70=>192|76=>201|77=>202|n=>n,fun|n=>n⟩
theorem Tryz.laysSlF06_f46:Go.Proofs.SlLaysF0.n6 Tryz.prog Tryz.laysSlF06_f46_ren:={
  mixed:=by kernel_rfl
  f6:=⟨Tryz.f46.name,by decide,Tryz.func46.trans (congrArg some (by kernel_rfl))⟩
  f14:=⟨Tryz.f83.name,by decide,Tryz.func83.trans (congrArg some (by kernel_rfl))⟩
  f15:=Tryz.func84.trans (congrArg some (by kernel_rfl))
  f20:=⟨Tryz.f115.name,by decide,Tryz.func115.trans (congrArg some (by kernel_rfl))⟩
  f21:=⟨Tryz.f116.name,by decide,Tryz.func116.trans (congrArg some (by kernel_rfl))⟩
  f22:=⟨Tryz.f117.name,by decide,Tryz.func117.trans (congrArg some (by kernel_rfl))⟩
  f23:=⟨Tryz.f118.name,by decide,Tryz.func118.trans (congrArg some (by kernel_rfl))⟩
  f24:=⟨Tryz.f119.name,by decide,Tryz.func119.trans (congrArg some (by kernel_rfl))⟩
  f25:=⟨Tryz.f120.name,by decide,Tryz.func120.trans (congrArg some (by kernel_rfl))⟩
  f26:=⟨Tryz.f121.name,by decide,Tryz.func121.trans (congrArg some (by kernel_rfl))⟩
  f27:=⟨Tryz.f122.name,by decide,Tryz.func122.trans (congrArg some (by kernel_rfl))⟩
  f28:=Tryz.func123.trans (congrArg some (by kernel_rfl))
  f29:=Tryz.func124.trans (congrArg some (by kernel_rfl))
  f46:=⟨Tryz.f145.name,by decide,Tryz.func145.trans (congrArg some (by kernel_rfl))⟩
  f47:=Tryz.func146.trans (congrArg some (by kernel_rfl))
  f48:=Tryz.func147.trans (congrArg some (by kernel_rfl))
  f49:=⟨Tryz.f148.name,by decide,Tryz.func148.trans (congrArg some (by kernel_rfl))⟩
  f50:=⟨Tryz.f149.name,by decide,Tryz.func149.trans (congrArg some (by kernel_rfl))⟩
  f57:=⟨Tryz.f157.name,by decide,Tryz.func157.trans (congrArg some (by kernel_rfl))⟩
  t0:=Tryz.underlying0
  a0:=Tryz.isAgg0
  z0:=Tryz.sizeOf0
  v0:=Tryz.zeroValue0
  t3:=Tryz.underlying3
  a3:=Tryz.isAgg3
  z3:=Tryz.sizeOf3
  v3:=Tryz.zeroValue3
  t4:=Tryz.underlying4
  a4:=Tryz.isAgg4
  z4:=Tryz.sizeOf4
  v4:=Tryz.zeroValue4
  t5:=Tryz.underlying5
  a5:=Tryz.isAgg5
  z5:=Tryz.sizeOf5
  v5:=Tryz.zeroValue5
  t9:=Tryz.underlying9
  a9:=Tryz.isAgg9
  z9:=Tryz.sizeOf9
  v9:=Tryz.zeroValue9
  t22:=Tryz.underlying43
  a22:=Tryz.isAgg43
  z22:=Tryz.sizeOf43
  v22:=Tryz.zeroValue43
  t25:=Tryz.underlying89
  a25:=Tryz.isAgg89
  z25:=Tryz.sizeOf89
  v25:=Tryz.zeroValue89
  t39:=Tryz.underlying132
  a39:=Tryz.isAgg132
  z39:=Tryz.sizeOf132
  v39:=Tryz.zeroValue132
  t45:=Tryz.underlying165
  a45:=Tryz.isAgg165
  z45:=Tryz.sizeOf165
  v45:=Tryz.zeroValue165
  t46:=Tryz.underlying166
  a46:=Tryz.isAgg166
  z46:=Tryz.sizeOf166
  v46:=Tryz.zeroValue166
  t50:=Tryz.underlying158
  a50:=Tryz.isAgg158
  z50:=Tryz.sizeOf158
  v50:=Tryz.zeroValue158
  t53:=Tryz.underlying106
  a53:=Tryz.isAgg106
  z53:=Tryz.sizeOf106
  v53:=Tryz.zeroValue106
  t55:=Tryz.underlying127
  a55:=Tryz.isAgg127
  z55:=Tryz.sizeOf127
  v55:=Tryz.zeroValue127
  t66:=Tryz.underlying188
  a66:=Tryz.isAgg188
  z66:=Tryz.sizeOf188
  v66:=Tryz.zeroValue188
  t70:=Tryz.underlying192
  a70:=Tryz.isAgg192
  z70:=Tryz.sizeOf192
  v70:=Tryz.zeroValue192
  t76:=Tryz.underlying201
  a76:=Tryz.isAgg201
  z76:=Tryz.sizeOf201
  v76:=Tryz.zeroValue201
  t77:=Tryz.underlying202
  a77:=Tryz.isAgg202
  z77:=Tryz.sizeOf202
  v77:=Tryz.zeroValue202}
open Go.RowKit Go.Lib Go.Sort in
theorem Tryz.slices_SortFunc_none{α:Type}[Inhabited α](p:Option Addr)(cap:Nat)(fv:Value)(w:World):
    Calls Tryz.prog 46 #[.slice p 0 cap,fv] w fun e w'=>e=.returned (.tuple #[])∧w'=w:=AnyF.slices_SortFunc_none Tryz.laysSlF06_f46 p cap fv w
end Go.Proofs
