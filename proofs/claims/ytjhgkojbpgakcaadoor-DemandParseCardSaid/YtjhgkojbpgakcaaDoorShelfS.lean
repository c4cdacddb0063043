/-
  DERIVED: THE SHELF's CONTRACTS AT THIS DUMP, IN PLAIN WORDS (tools/lay-plain.mjs out of 'TrydShelfS0.lean', which tools/lay-shelf.mjs wrote): THE SAME DECLARATIONS UNDER THE SAME NAMES: 'import', 'namespace', 'open', 'def', 'theorem' AND NOTHING ELSE: no command of the shelf's: FOR A HAND-IN. Each laying: the table of numbers ('.._ren') and one theorem, a field a fact of the dump's own or the kernel's comparison; each contract: ONE APPLICATION.
-/
import Derived.Shelf.SlGeneric
import Derived.Shelf.SlSortCmp.NoneTotal
import Derived.Ground.SlsfProg
import Derived.Test.YtjhgkojbpgakcaaDoorProg
namespace Go.Proofs
open Go.Shelf
def Tryd.sortDem_ren : Go.Shelf.Ren := ⟨fun | 6 => 31 | 15 => 45 | 14 => 44 | 28 => 65 | 29 => 66 | 20 => 57 | 21 => 58 | 22 => 59 | 23 => 60 | 24 => 61 | 25 => 62 | 26 => 63 | 27 => 64 | 46 => 78 | 47 => 79 | 48 => 80 | 49 => 81 | 50 => 82 | 57 => 90 | n => n, fun | 22 => 22 | 24 => 33 | 25 => 67 | 3 => 3 | 39 => 75 | 0 => 0 | 53 => 97 | 55 => 70 | 4 => 4 | 46 => 91 | 45 => 90 | 50 => 63 | 5 => 5 | 9 => 9 | 66 => 110 | 70 => 114 | 76 => 125 | 77 => 126 | n => n, fun | n => n⟩
theorem Tryd.sortDem : Go.Proofs.SlLaysF0.n6 Tryd.prog Tryd.sortDem_ren := {
  mixed := by kernel_rfl
  f6 := ⟨Tryd.f31.name, by decide, Tryd.func31.trans (congrArg some (by kernel_rfl))⟩
  f14 := ⟨Tryd.f44.name, by decide, Tryd.func44.trans (congrArg some (by kernel_rfl))⟩
  f15 := Tryd.func45.trans (congrArg some (by kernel_rfl))
  f20 := ⟨Tryd.f57.name, by decide, Tryd.func57.trans (congrArg some (by kernel_rfl))⟩
  f21 := ⟨Tryd.f58.name, by decide, Tryd.func58.trans (congrArg some (by kernel_rfl))⟩
  f22 := ⟨Tryd.f59.name, by decide, Tryd.func59.trans (congrArg some (by kernel_rfl))⟩
  f23 := ⟨Tryd.f60.name, by decide, Tryd.func60.trans (congrArg some (by kernel_rfl))⟩
  f24 := ⟨Tryd.f61.name, by decide, Tryd.func61.trans (congrArg some (by kernel_rfl))⟩
  f25 := ⟨Tryd.f62.name, by decide, Tryd.func62.trans (congrArg some (by kernel_rfl))⟩
  f26 := ⟨Tryd.f63.name, by decide, Tryd.func63.trans (congrArg some (by kernel_rfl))⟩
  f27 := ⟨Tryd.f64.name, by decide, Tryd.func64.trans (congrArg some (by kernel_rfl))⟩
  f28 := Tryd.func65.trans (congrArg some (by kernel_rfl))
  f29 := Tryd.func66.trans (congrArg some (by kernel_rfl))
  f46 := ⟨Tryd.f78.name, by decide, Tryd.func78.trans (congrArg some (by kernel_rfl))⟩
  f47 := Tryd.func79.trans (congrArg some (by kernel_rfl))
  f48 := Tryd.func80.trans (congrArg some (by kernel_rfl))
  f49 := ⟨Tryd.f81.name, by decide, Tryd.func81.trans (congrArg some (by kernel_rfl))⟩
  f50 := ⟨Tryd.f82.name, by decide, Tryd.func82.trans (congrArg some (by kernel_rfl))⟩
  f57 := ⟨Tryd.f90.name, by decide, Tryd.func90.trans (congrArg some (by kernel_rfl))⟩
  t0 := Tryd.underlying0
  a0 := Tryd.isAgg0
  z0 := Tryd.sizeOf0
  v0 := Tryd.zeroValue0
  t3 := Tryd.underlying3
  a3 := Tryd.isAgg3
  z3 := Tryd.sizeOf3
  v3 := Tryd.zeroValue3
  t4 := Tryd.underlying4
  a4 := Tryd.isAgg4
  z4 := Tryd.sizeOf4
  v4 := Tryd.zeroValue4
  t5 := Tryd.underlying5
  a5 := Tryd.isAgg5
  z5 := Tryd.sizeOf5
  v5 := Tryd.zeroValue5
  t9 := Tryd.underlying9
  a9 := Tryd.isAgg9
  z9 := Tryd.sizeOf9
  v9 := Tryd.zeroValue9
  t22 := Tryd.underlying22
  a22 := Tryd.isAgg22
  z22 := Tryd.sizeOf22
  v22 := Tryd.zeroValue22
  t25 := Tryd.underlying67
  a25 := Tryd.isAgg67
  z25 := Tryd.sizeOf67
  v25 := Tryd.zeroValue67
  t39 := Tryd.underlying75
  a39 := Tryd.isAgg75
  z39 := Tryd.sizeOf75
  v39 := Tryd.zeroValue75
  t45 := Tryd.underlying90
  a45 := Tryd.isAgg90
  z45 := Tryd.sizeOf90
  v45 := Tryd.zeroValue90
  t46 := Tryd.underlying91
  a46 := Tryd.isAgg91
  z46 := Tryd.sizeOf91
  v46 := Tryd.zeroValue91
  t50 := Tryd.underlying63
  a50 := Tryd.isAgg63
  z50 := Tryd.sizeOf63
  v50 := Tryd.zeroValue63
  t53 := Tryd.underlying97
  a53 := Tryd.isAgg97
  z53 := Tryd.sizeOf97
  v53 := Tryd.zeroValue97
  t55 := Tryd.underlying70
  a55 := Tryd.isAgg70
  z55 := Tryd.sizeOf70
  v55 := Tryd.zeroValue70
  t66 := Tryd.underlying110
  a66 := Tryd.isAgg110
  z66 := Tryd.sizeOf110
  v66 := Tryd.zeroValue110
  t70 := Tryd.underlying114
  a70 := Tryd.isAgg114
  z70 := Tryd.sizeOf114
  v70 := Tryd.zeroValue114
  t76 := Tryd.underlying125
  a76 := Tryd.isAgg125
  z76 := Tryd.sizeOf125
  v76 := Tryd.zeroValue125
  t77 := Tryd.underlying126
  a77 := Tryd.isAgg126
  z77 := Tryd.sizeOf126
  v77 := Tryd.zeroValue126 }
end Go.Proofs
