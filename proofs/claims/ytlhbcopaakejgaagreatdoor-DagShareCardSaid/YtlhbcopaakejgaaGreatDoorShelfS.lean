/-
  DERIVED: THE SHELF's CONTRACTS AT THIS DUMP, IN PLAIN WORDS (tools/lay-plain.mjs out of 'TryzShelfS0.lean', which tools/lay-shelf.mjs wrote): THE SAME DECLARATIONS UNDER THE SAME NAMES: 'import', 'namespace', 'open', 'def', 'theorem' AND NOTHING ELSE: no command of the shelf's: FOR A HAND-IN. Each laying: the table of numbers ('.._ren') and one theorem, a field a fact of the dump's own or the kernel's comparison; each contract: ONE APPLICATION.
-/

import Derived.Shelf.SlGeneric
import Derived.Shelf.SlSortCmp.NoneTotal
import Derived.Ground.SlsfProg
import Derived.Test.YtlhbcopaakejgaaGreatDoorProg
namespace Go.Proofs
open Go.Shelf
def Tryz.sortI_ren:Go.Shelf.Ren:=⟨fun|6=>46|15=>84|14=>83|28=>123|29=>124|20=>115|21=>116|22=>117|23=>118|24=>119|25=>120|26=>121|27=>122|46=>145|47=>146|48=>147|49=>148|50=>149|57=>157|n=>n,fun|22=>43|24=>3|25=>89|3=>3|39=>132|0=>0|53=>106|55=>127|4=>4|46=>166|45=>165|50=>158|5=>5|9=>9|66=>188|70=>192|76=>201|77=>202|n=>n,fun|n=>n⟩
theorem Tryz.sortI:Go.Proofs.SlLaysF.n6 Tryz.prog Tryz.sortI_ren:={
  mixed:=by kernel_rfl
  f6:=⟨Tryz.f46.name,by decide,Tryz.func46.trans (congrArg some (by kernel_rfl))⟩
  f14:=⟨Tryz.f83.name,by decide,Tryz.func83.trans (congrArg some (by kernel_rfl))⟩
  f15:=Tryz.func84.trans (congrArg some (by kernel_rfl))
  f20:=⟨Tryz.f115.name,by decide,Tryz.func115.trans (congrArg some (by kernel_rfl))⟩
  f21:=⟨Tryz.f116.name,by decide,Tryz.func116.trans (congrArg some (by kernel_rfl))⟩
  f22:=⟨Tryz.f117.name,by decide,Tryz.func117.trans (congrArg some (by kernel_rfl))⟩
  f23:=⟨Tryz.f118.name,by decide,Tryz.func118.trans (congrArg some (by kernel_rfl))⟩
  f24:=⟨Tryz.f119.name,by decide,Tryz.func119.trans (congrArg some (by kernel_rfl))⟩
  f25:=⟨Tryz.f120.name,by decide,Tryz.func120.trans (congrArg some (by kernel_rfl))⟩
  f26:=⟨Tryz.f121.name,by decide,Tryz.func121.trans (congrArg some (by kernel_rfl))⟩
  f27:=⟨Tryz.f122.name,by decide,Tryz.func122.trans (congrArg some (by kernel_rfl))⟩
  f28:=Tryz.func123.trans (congrArg some (by kernel_rfl))
  f29:=Tryz.func124.trans (congrArg some (by kernel_rfl))
  f46:=⟨Tryz.f145.name,by decide,Tryz.func145.trans (congrArg some (by kernel_rfl))⟩
  f47:=Tryz.func146.trans (congrArg some (by kernel_rfl))
  f48:=Tryz.func147.trans (congrArg some (by kernel_rfl))
  f49:=⟨Tryz.f148.name,by decide,Tryz.func148.trans (congrArg some (by kernel_rfl))⟩
  f50:=⟨Tryz.f149.name,by decide,Tryz.func149.trans (congrArg some (by kernel_rfl))⟩
  f57:=⟨Tryz.f157.name,by decide,Tryz.func157.trans (congrArg some (by kernel_rfl))⟩
  t0:=Tryz.underlying0
  a0:=Tryz.isAgg0
  z0:=Tryz.sizeOf0
  v0:=Tryz.zeroValue0
  t3:=Tryz.underlying3
  a3:=Tryz.isAgg3
  z3:=Tryz.sizeOf3
  v3:=Tryz.zeroValue3
  t4:=Tryz.underlying4
  a4:=Tryz.isAgg4
  z4:=Tryz.sizeOf4
  v4:=Tryz.zeroValue4
  t5:=Tryz.underlying5
  a5:=Tryz.isAgg5
  z5:=Tryz.sizeOf5
  v5:=Tryz.zeroValue5
  t9:=Tryz.underlying9
  a9:=Tryz.isAgg9
  z9:=Tryz.sizeOf9
  v9:=Tryz.zeroValue9
  t22:=Tryz.underlying43
  a22:=Tryz.isAgg43
  z22:=Tryz.sizeOf43
  v22:=Tryz.zeroValue43
  a24:=Tryz.isAgg3
  z24:=Tryz.sizeOf3
  t25:=Tryz.underlying89
  a25:=Tryz.isAgg89
  z25:=Tryz.sizeOf89
  v25:=Tryz.zeroValue89
  t39:=Tryz.underlying132
  a39:=Tryz.isAgg132
  z39:=Tryz.sizeOf132
  v39:=Tryz.zeroValue132
  t45:=Tryz.underlying165
  a45:=Tryz.isAgg165
  z45:=Tryz.sizeOf165
  v45:=Tryz.zeroValue165
  t46:=Tryz.underlying166
  a46:=Tryz.isAgg166
  z46:=Tryz.sizeOf166
  v46:=Tryz.zeroValue166
  t50:=Tryz.underlying158
  a50:=Tryz.isAgg158
  z50:=Tryz.sizeOf158
  v50:=Tryz.zeroValue158
  t53:=Tryz.underlying106
  a53:=Tryz.isAgg106
  z53:=Tryz.sizeOf106
  v53:=Tryz.zeroValue106
  t55:=Tryz.underlying127
  a55:=Tryz.isAgg127
  z55:=Tryz.sizeOf127
  v55:=Tryz.zeroValue127
  t66:=Tryz.underlying188
  a66:=Tryz.isAgg188
  z66:=Tryz.sizeOf188
  v66:=Tryz.zeroValue188
  t70:=Tryz.underlying192
  a70:=Tryz.isAgg192
  z70:=Tryz.sizeOf192
  v70:=Tryz.zeroValue192
  t76:=Tryz.underlying201
  a76:=Tryz.isAgg201
  z76:=Tryz.sizeOf201
  v76:=Tryz.zeroValue201
  t77:=Tryz.underlying202
  a77:=Tryz.isAgg202
  z77:=Tryz.sizeOf202
  v77:=Tryz.zeroValue202}
end Go.Proofs
