/-
  DERIVED: THE SHELF's CONTRACTS AT THIS DUMP, IN PLAIN WORDS (tools/lay-plain.mjs out of 'TrydShelfT.lean', which tools/lay-shelf.mjs wrote): THE SAME DECLARATIONS UNDER THE SAME NAMES: 'import', 'namespace', 'open', 'def', 'theorem' AND NOTHING ELSE: no command of the shelf's: FOR A HAND-IN. Each laying: the table of numbers ('.._ren') and one theorem, a field a fact of the dump's own or the kernel's comparison; each contract: ONE APPLICATION.
-/
import Derived.Shelf.SlGeneric
import Derived.Shelf.SlSortCmp.NoneTotal
import Derived.Ground.SlsfProg
import Derived.Test.YthkoaaneikhjjaaDoorProg
namespace Go.Proofs
open Go.Shelf
def Tryd.sortDem_ren : Go.Shelf.Ren := ⟨fun | 6 => 23 | 15 => 46 | 14 => 45 | 28 => 65 | 29 => 66 | 20 => 57 | 21 => 58 | 22 => 59 | 23 => 60 | 24 => 61 | 25 => 62 | 26 => 63 | 27 => 64 | 46 => 77 | 47 => 78 | 48 => 79 | 49 => 80 | 50 => 81 | 57 => 93 | n => n, fun | 22 => 22 | 24 => 25 | 25 => 47 | 3 => 3 | 39 => 76 | 0 => 0 | 53 => 92 | 55 => 81 | 4 => 4 | 46 => 86 | 45 => 85 | 50 => 43 | 5 => 5 | 9 => 9 | 66 => 105 | 70 => 109 | 76 => 122 | 77 => 123 | n => n, fun | n => n⟩
theorem Tryd.sortDem : Go.Proofs.SlLaysF0.n6 Tryd.prog Tryd.sortDem_ren := {
  mixed := by kernel_rfl
  f6 := ⟨Tryd.f23.name, by decide, Tryd.func23.trans (congrArg some (by kernel_rfl))⟩
  f14 := ⟨Tryd.f45.name, by decide, Tryd.func45.trans (congrArg some (by kernel_rfl))⟩
  f15 := Tryd.func46.trans (congrArg some (by kernel_rfl))
  f20 := ⟨Tryd.f57.name, by decide, Tryd.func57.trans (congrArg some (by kernel_rfl))⟩
  f21 := ⟨Tryd.f58.name, by decide, Tryd.func58.trans (congrArg some (by kernel_rfl))⟩
  f22 := ⟨Tryd.f59.name, by decide, Tryd.func59.trans (congrArg some (by kernel_rfl))⟩
  f23 := ⟨Tryd.f60.name, by decide, Tryd.func60.trans (congrArg some (by kernel_rfl))⟩
  f24 := ⟨Tryd.f61.name, by decide, Tryd.func61.trans (congrArg some (by kernel_rfl))⟩
  f25 := ⟨Tryd.f62.name, by decide, Tryd.func62.trans (congrArg some (by kernel_rfl))⟩
  f26 := ⟨Tryd.f63.name, by decide, Tryd.func63.trans (congrArg some (by kernel_rfl))⟩
  f27 := ⟨Tryd.f64.name, by decide, Tryd.func64.trans (congrArg some (by kernel_rfl))⟩
  f28 := Tryd.func65.trans (congrArg some (by kernel_rfl))
  f29 := Tryd.func66.trans (congrArg some (by kernel_rfl))
  f46 := ⟨Tryd.f77.name, by decide, Tryd.func77.trans (congrArg some (by kernel_rfl))⟩
  f47 := Tryd.func78.trans (congrArg some (by kernel_rfl))
  f48 := Tryd.func79.trans (congrArg some (by kernel_rfl))
  f49 := ⟨Tryd.f80.name, by decide, Tryd.func80.trans (congrArg some (by kernel_rfl))⟩
  f50 := ⟨Tryd.f81.name, by decide, Tryd.func81.trans (congrArg some (by kernel_rfl))⟩
  f57 := ⟨Tryd.f93.name, by decide, Tryd.func93.trans (congrArg some (by kernel_rfl))⟩
  t0 := Tryd.underlying0
  a0 := Tryd.isAgg0
  z0 := Tryd.sizeOf0
  v0 := Tryd.zeroValue0
  t3 := Tryd.underlying3
  a3 := Tryd.isAgg3
  z3 := Tryd.sizeOf3
  v3 := Tryd.zeroValue3
  t4 := Tryd.underlying4
  a4 := Tryd.isAgg4
  z4 := Tryd.sizeOf4
  v4 := Tryd.zeroValue4
  t5 := Tryd.underlying5
  a5 := Tryd.isAgg5
  z5 := Tryd.sizeOf5
  v5 := Tryd.zeroValue5
  t9 := Tryd.underlying9
  a9 := Tryd.isAgg9
  z9 := Tryd.sizeOf9
  v9 := Tryd.zeroValue9
  t22 := Tryd.underlying22
  a22 := Tryd.isAgg22
  z22 := Tryd.sizeOf22
  v22 := Tryd.zeroValue22
  t25 := Tryd.underlying47
  a25 := Tryd.isAgg47
  z25 := Tryd.sizeOf47
  v25 := Tryd.zeroValue47
  t39 := Tryd.underlying76
  a39 := Tryd.isAgg76
  z39 := Tryd.sizeOf76
  v39 := Tryd.zeroValue76
  t45 := Tryd.underlying85
  a45 := Tryd.isAgg85
  z45 := Tryd.sizeOf85
  v45 := Tryd.zeroValue85
  t46 := Tryd.underlying86
  a46 := Tryd.isAgg86
  z46 := Tryd.sizeOf86
  v46 := Tryd.zeroValue86
  t50 := Tryd.underlying43
  a50 := Tryd.isAgg43
  z50 := Tryd.sizeOf43
  v50 := Tryd.zeroValue43
  t53 := Tryd.underlying92
  a53 := Tryd.isAgg92
  z53 := Tryd.sizeOf92
  v53 := Tryd.zeroValue92
  t55 := Tryd.underlying81
  a55 := Tryd.isAgg81
  z55 := Tryd.sizeOf81
  v55 := Tryd.zeroValue81
  t66 := Tryd.underlying105
  a66 := Tryd.isAgg105
  z66 := Tryd.sizeOf105
  v66 := Tryd.zeroValue105
  t70 := Tryd.underlying109
  a70 := Tryd.isAgg109
  z70 := Tryd.sizeOf109
  v70 := Tryd.zeroValue109
  t76 := Tryd.underlying122
  a76 := Tryd.isAgg122
  z76 := Tryd.sizeOf122
  v76 := Tryd.zeroValue122
  t77 := Tryd.underlying123
  a77 := Tryd.isAgg123
  z77 := Tryd.sizeOf123
  v77 := Tryd.zeroValue123 }
end Go.Proofs
