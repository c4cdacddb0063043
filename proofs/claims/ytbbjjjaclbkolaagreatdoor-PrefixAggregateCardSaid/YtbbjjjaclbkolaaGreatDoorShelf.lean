/-
  DERIVED: THE SHELF's CONTRACTS AT THIS DUMP, IN PLAIN WORDS (tools/lay-plain.mjs out of 'TryzShelf.lean', which tools/lay-shelf.mjs wrote): THE SAME DECLARATIONS UNDER THE SAME NAMES: 'import', 'namespace', 'open', 'def', 'theorem' AND NOTHING ELSE: no command of the shelf's: FOR A HAND-IN. Each laying: the table of numbers ('.._ren') and one theorem, a field a fact of the dump's own or the kernel's comparison; each contract: ONE APPLICATION.
-/
import Derived.Shelf.Strings.Builder1
import Derived.Shelf.Small.Bits
import Derived.Shelf.Small.Wraps
import Derived.Shelf.Strings.BuilderF
import Derived.Shelf.Strings.BuilderK
import Derived.Shelf.Utf8.RuneCount
import Derived.Shelf.Strconv.Atoi
import Derived.Shelf.Strconv.Itoa0
import Derived.Shelf.Strconv.Itoa1
import Derived.Shelf.LaysM
import Derived.Shelf.Strconv.Itoa2
import Derived.Shelf.Strconv.Itoa3
import Derived.Shelf.Strconv.AtoiErrFast
import Derived.Shelf.Strconv.ParseIntEmpty
import Derived.Shelf.Strconv.AtoiFail
import Derived.Shelf.Strconv.Clone
import Derived.Shelf.Strconv.SyntaxError
import Derived.Shelf.LaysC
import Derived.Shelf.Strconv.ToError
import Derived.Shelf.Strconv.AtoiErr
import Derived.Shelf.Strconv.ErrVar
import Derived.Shelf.Strconv.Lower
import Derived.Shelf.Strconv.ParseUint10
import Derived.Shelf.Strconv.ParseUint10Empty
import Derived.Shelf.Strconv.ParseUint10Any
import Derived.Shelf.Strconv.ParseInt10
import Derived.Shelf.Strconv.AtoiLong
import Derived.Shelf.Strconv.AtoiInnerAll
import Derived.Shelf.Strconv.RangeError
import Derived.Shelf.Strconv.ToErrorRange
import Derived.Shelf.Strconv.AtoiAll
import Derived.Shelf.Strconv.ErrVarAll
import Derived.Shelf.Strings.Search1
import Derived.Shelf.Strings.Search2
import Derived.Shelf.Strings.Search3
import Derived.Shelf.Strings.Cut
import Derived.Shelf.Strings.Count
import Derived.Shelf.Strings.Shaped
import Derived.Shelf.Strings.Split
import Derived.Shelf.Strings.SplitShaped
import Derived.Shelf.Unicode.Decode
import Derived.Shelf.Strings.RuneCount
import Derived.Shelf.Strings.Explode
import Derived.Shelf.Unicode.DecodeSlow
import Derived.Shelf.Unicode.DecodeAny
import Derived.Shelf.Strings.BuilderCap
import Derived.Ground.Names2Prog
import Derived.Shelf.Slices.SearchI
import Derived.Test.YtbbjjjaclbkolaaGreatDoorProg
namespace Go.Proofs
open Go.Shelf
def Tryz.lays169_ren : Go.Shelf.Ren := ⟨fun | 169 => 27 | n => n, fun | 70 => 54 | 9 => 9 | 0 => 0 | 72 => 57 | 37 => 55 | 127 => 70 | 3 => 3 | 5 => 5 | n => n, fun | n => n⟩
theorem Tryz.lays169 : Go.Proofs.Lays.n169 Tryz.prog Tryz.lays169_ren := {
  mixed := by kernel_rfl
  f169 := Tryz.func27.trans (congrArg some (by kernel_rfl))
  t0 := Tryz.underlying0
  a0 := Tryz.isAgg0
  z0 := Tryz.sizeOf0
  v0 := Tryz.zeroValue0
  t3 := Tryz.underlying3
  a3 := Tryz.isAgg3
  z3 := Tryz.sizeOf3
  v3 := Tryz.zeroValue3
  t9 := Tryz.underlying9
  a9 := Tryz.isAgg9
  z9 := Tryz.sizeOf9
  v9 := Tryz.zeroValue9
  t37 := Tryz.underlying55
  a37 := Tryz.isAgg55
  z37 := Tryz.sizeOf55
  v37 := Tryz.zeroValue55
  t70 := Tryz.underlying54
  a70 := Tryz.isAgg54
  z70 := Tryz.sizeOf54
  v70 := Tryz.zeroValue54
  t72 := Tryz.underlying57
  a72 := Tryz.isAgg57
  z72 := Tryz.sizeOf57
  v72 := Tryz.zeroValue57
  t127 := Tryz.underlying70
  a127 := Tryz.isAgg70
  z127 := Tryz.sizeOf70
  v127 := Tryz.zeroValue70 }
theorem Tryz.Builder_Extra_169 : Builder.Extra Tryz.prog Tryz.lays169_ren := {
  sizeBuilder := by kernel_rfl
  liesBuilder := by kernel_rfl
  t5 := Tryz.underlying5
  a5 := Tryz.isAgg5
  z5 := Tryz.sizeOf5
  v5 := Tryz.zeroValue5
  infoByte := by kernel_rfl
  cellsByte := by kernel_rfl
  sizeByte := by kernel_rfl
  neB5 := by decide }
open Go.RowKit in
theorem Tryz.Builder_String_any (B b : Nat) (l : List UInt8) (w : World) (h : Lib.IsBuilder 57 5 B b (Lib.byteCells l) w) (hBw : B ≤ w.heap.size) :
    Calls Tryz.prog 27 #[.pointer (some ⟨b, 0, none⟩)] w fun e w' => e = .returned (.string ⟨l.toArray⟩) ∧ Below B w w' := Any.Builder_String_any Tryz.lays169 Tryz.Builder_Extra_169 B b l w h hBw
def Tryz.lays172_ren : Go.Shelf.Ren := ⟨fun | 172 => 22 | 244 => 40 | 245 => 41 | 247 => 61 | 279 => 62 | 280 => 63 | 281 => 64 | 282 => 65 | 287 => 81 | 316 => 82 | 171 => 26 | 205 => 83 | 321 => 92 | 322 => 93 | 243 => 43 | 246 => 67 | 283 => 84 | 284 => 85 | 285 => 86 | 286 => 87 | 129 => 53 | 317 => 94 | 318 => 95 | 319 => 96 | 320 => 97 | 337 => 98 | 338 => 99 | n => n, fun | 9 => 9 | 3 => 3 | 75 => 49 | 76 => 50 | 4 => 4 | 5 => 5 | 167 => 87 | 37 => 55 | 0 => 0 | 85 => 88 | 2 => 2 | 168 => 90 | 53 => 71 | 175 => 107 | 46 => 52 | 210 => 111 | 127 => 70 | 145 => 126 | 143 => 124 | 21 => 21 | 171 => 113 | 173 => 115 | 212 => 128 | 51 => 29 | 20 => 20 | 213 => 129 | 232 => 134 | 233 => 135 | 80 => 60 | n => n, fun | 15 => 1 | 16 => 2 | 17 => 3 | 18 => 6 | 19 => 7 | n => n⟩
theorem Tryz.lays172 : Go.Proofs.Lays.n172 Tryz.prog Tryz.lays172_ren := {
  mixed := by kernel_rfl
  f129 := Tryz.func53.trans (congrArg some (by kernel_rfl))
  f171 := Tryz.func26.trans (congrArg some (by kernel_rfl))
  f172 := Tryz.func22.trans (congrArg some (by kernel_rfl))
  f205 := Tryz.func83.trans (congrArg some (by kernel_rfl))
  f243 := Tryz.func43.trans (congrArg some (by kernel_rfl))
  f244 := Tryz.func40.trans (congrArg some (by kernel_rfl))
  f245 := Tryz.func41.trans (congrArg some (by kernel_rfl))
  f246 := Tryz.func67.trans (congrArg some (by kernel_rfl))
  f247 := Tryz.func61.trans (congrArg some (by kernel_rfl))
  f279 := Tryz.func62.trans (congrArg some (by kernel_rfl))
  f280 := Tryz.func63.trans (congrArg some (by kernel_rfl))
  f281 := Tryz.func64.trans (congrArg some (by kernel_rfl))
  f282 := Tryz.func65.trans (congrArg some (by kernel_rfl))
  f283 := Tryz.func84.trans (congrArg some (by kernel_rfl))
  f284 := Tryz.func85.trans (congrArg some (by kernel_rfl))
  f285 := Tryz.func86.trans (congrArg some (by kernel_rfl))
  f286 := Tryz.func87.trans (congrArg some (by kernel_rfl))
  f287 := Tryz.func81.trans (congrArg some (by kernel_rfl))
  f316 := Tryz.func82.trans (congrArg some (by kernel_rfl))
  f317 := Tryz.func94.trans (congrArg some (by kernel_rfl))
  f318 := Tryz.func95.trans (congrArg some (by kernel_rfl))
  f319 := Tryz.func96.trans (congrArg some (by kernel_rfl))
  f320 := Tryz.func97.trans (congrArg some (by kernel_rfl))
  f321 := Tryz.func92.trans (congrArg some (by kernel_rfl))
  f322 := Tryz.func93.trans (congrArg some (by kernel_rfl))
  f337 := Tryz.func98.trans (congrArg some (by kernel_rfl))
  f338 := Tryz.func99.trans (congrArg some (by kernel_rfl))
  t0 := Tryz.underlying0
  a0 := Tryz.isAgg0
  z0 := Tryz.sizeOf0
  v0 := Tryz.zeroValue0
  t2 := Tryz.underlying2
  a2 := Tryz.isAgg2
  z2 := Tryz.sizeOf2
  v2 := Tryz.zeroValue2
  t3 := Tryz.underlying3
  a3 := Tryz.isAgg3
  z3 := Tryz.sizeOf3
  v3 := Tryz.zeroValue3
  t4 := Tryz.underlying4
  a4 := Tryz.isAgg4
  z4 := Tryz.sizeOf4
  v4 := Tryz.zeroValue4
  t5 := Tryz.underlying5
  a5 := Tryz.isAgg5
  z5 := Tryz.sizeOf5
  v5 := Tryz.zeroValue5
  t9 := Tryz.underlying9
  a9 := Tryz.isAgg9
  z9 := Tryz.sizeOf9
  v9 := Tryz.zeroValue9
  t20 := Tryz.underlying20
  a20 := Tryz.isAgg20
  z20 := Tryz.sizeOf20
  v20 := Tryz.zeroValue20
  t21 := Tryz.underlying21
  a21 := Tryz.isAgg21
  z21 := Tryz.sizeOf21
  v21 := Tryz.zeroValue21
  t37 := Tryz.underlying55
  a37 := Tryz.isAgg55
  z37 := Tryz.sizeOf55
  v37 := Tryz.zeroValue55
  t46 := Tryz.underlying52
  a46 := Tryz.isAgg52
  z46 := Tryz.sizeOf52
  v46 := Tryz.zeroValue52
  t51 := Tryz.underlying29
  a51 := Tryz.isAgg29
  z51 := Tryz.sizeOf29
  v51 := Tryz.zeroValue29
  t53 := Tryz.underlying71
  a53 := Tryz.isAgg71
  z53 := Tryz.sizeOf71
  v53 := Tryz.zeroValue71
  t75 := Tryz.underlying49
  a75 := Tryz.isAgg49
  z75 := Tryz.sizeOf49
  v75 := Tryz.zeroValue49
  t76 := Tryz.underlying50
  a76 := Tryz.isAgg50
  z76 := Tryz.sizeOf50
  v76 := Tryz.zeroValue50
  t85 := Tryz.underlying88
  a85 := Tryz.isAgg88
  z85 := Tryz.sizeOf88
  v85 := Tryz.zeroValue88
  t127 := Tryz.underlying70
  a127 := Tryz.isAgg70
  z127 := Tryz.sizeOf70
  v127 := Tryz.zeroValue70
  t143 := Tryz.underlying124
  a143 := Tryz.isAgg124
  z143 := Tryz.sizeOf124
  v143 := Tryz.zeroValue124
  t145 := Tryz.underlying126
  a145 := Tryz.isAgg126
  z145 := Tryz.sizeOf126
  v145 := Tryz.zeroValue126
  t167 := Tryz.underlying87
  a167 := Tryz.isAgg87
  z167 := Tryz.sizeOf87
  v167 := Tryz.zeroValue87
  t168 := Tryz.underlying90
  a168 := Tryz.isAgg90
  z168 := Tryz.sizeOf90
  v168 := Tryz.zeroValue90
  t171 := Tryz.underlying113
  a171 := Tryz.isAgg113
  z171 := Tryz.sizeOf113
  v171 := Tryz.zeroValue113
  t173 := Tryz.underlying115
  a173 := Tryz.isAgg115
  z173 := Tryz.sizeOf115
  v173 := Tryz.zeroValue115
  t175 := Tryz.underlying107
  a175 := Tryz.isAgg107
  z175 := Tryz.sizeOf107
  v175 := Tryz.zeroValue107
  t210 := Tryz.underlying111
  a210 := Tryz.isAgg111
  z210 := Tryz.sizeOf111
  v210 := Tryz.zeroValue111
  t212 := Tryz.underlying128
  a212 := Tryz.isAgg128
  z212 := Tryz.sizeOf128
  v212 := Tryz.zeroValue128
  t213 := Tryz.underlying129
  a213 := Tryz.isAgg129
  z213 := Tryz.sizeOf129
  t232 := Tryz.underlying134
  a232 := Tryz.isAgg134
  z232 := Tryz.sizeOf134
  v232 := Tryz.zeroValue134
  t233 := Tryz.underlying135
  a233 := Tryz.isAgg135
  z233 := Tryz.sizeOf135
  v233 := Tryz.zeroValue135
  g15 := by kernel_rfl
  g16 := by kernel_rfl
  g17 := by kernel_rfl
  g18 := by kernel_rfl
  g19 := by kernel_rfl }
open Go.RowKit in
theorem Tryz.strconv_Atoi (s : ByteArray) (n : Int) (hl : s.size ≤ 18) (h : Lib.atoi s.data.toList = some n) (w : World) :
    Calls Tryz.prog 22 #[.string s] w fun e w' => e = .returned (.tuple #[.int .i64 n, .nilIface]) ∧ ∃ t, w' = Lib.bytesWorld w 5 t := Any.strconv_Atoi Tryz.lays172 s n hl h w
def Tryz.laysM171_ren : Go.Shelf.Ren := ⟨fun | 171 => 26 | 243 => 43 | 246 => 67 | 283 => 84 | 284 => 85 | 285 => 86 | 286 => 87 | 129 => 53 | 317 => 94 | 318 => 95 | 319 => 96 | 320 => 97 | 337 => 98 | 338 => 99 | n => n, fun | 3 => 3 | 9 => 9 | 2 => 2 | 4 => 4 | 171 => 113 | 0 => 0 | 53 => 71 | 37 => 55 | 5 => 5 | 173 => 115 | 212 => 128 | 51 => 29 | 20 => 20 | 213 => 129 | 46 => 52 | 232 => 134 | 233 => 135 | n => n, fun | 17 => 3 | 18 => 6 | 19 => 7 | n => n⟩
theorem Tryz.laysM171 : Go.Proofs.LaysM.n171 Tryz.prog Tryz.laysM171_ren := {
  mixed := by kernel_rfl
  f129 := Tryz.func53.trans (congrArg some (by kernel_rfl))
  f171 := Tryz.func26.trans (congrArg some (by kernel_rfl))
  f243 := Tryz.func43.trans (congrArg some (by kernel_rfl))
  f246 := Tryz.func67.trans (congrArg some (by kernel_rfl))
  f283 := Tryz.func84.trans (congrArg some (by kernel_rfl))
  f284 := Tryz.func85.trans (congrArg some (by kernel_rfl))
  f285 := Tryz.func86.trans (congrArg some (by kernel_rfl))
  f286 := Tryz.func87.trans (congrArg some (by kernel_rfl))
  f317 := Tryz.func94.trans (congrArg some (by kernel_rfl))
  f318 := Tryz.func95.trans (congrArg some (by kernel_rfl))
  f319 := Tryz.func96.trans (congrArg some (by kernel_rfl))
  f320 := Tryz.func97.trans (congrArg some (by kernel_rfl))
  f337 := Tryz.func98.trans (congrArg some (by kernel_rfl))
  f338 := Tryz.func99.trans (congrArg some (by kernel_rfl))
  t0 := Tryz.underlying0
  a0 := Tryz.isAgg0
  z0 := Tryz.sizeOf0
  v0 := Tryz.zeroValue0
  t2 := Tryz.underlying2
  a2 := Tryz.isAgg2
  z2 := Tryz.sizeOf2
  v2 := Tryz.zeroValue2
  t3 := Tryz.underlying3
  a3 := Tryz.isAgg3
  z3 := Tryz.sizeOf3
  v3 := Tryz.zeroValue3
  t4 := Tryz.underlying4
  a4 := Tryz.isAgg4
  z4 := Tryz.sizeOf4
  v4 := Tryz.zeroValue4
  t5 := Tryz.underlying5
  a5 := Tryz.isAgg5
  z5 := Tryz.sizeOf5
  v5 := Tryz.zeroValue5
  t9 := Tryz.underlying9
  a9 := Tryz.isAgg9
  z9 := Tryz.sizeOf9
  v9 := Tryz.zeroValue9
  t20 := Tryz.underlying20
  a20 := Tryz.isAgg20
  z20 := Tryz.sizeOf20
  v20 := Tryz.zeroValue20
  t37 := Tryz.underlying55
  a37 := Tryz.isAgg55
  z37 := Tryz.sizeOf55
  v37 := Tryz.zeroValue55
  t46 := Tryz.underlying52
  a46 := Tryz.isAgg52
  z46 := Tryz.sizeOf52
  v46 := Tryz.zeroValue52
  t51 := Tryz.underlying29
  a51 := Tryz.isAgg29
  z51 := Tryz.sizeOf29
  v51 := Tryz.zeroValue29
  t53 := Tryz.underlying71
  a53 := Tryz.isAgg71
  z53 := Tryz.sizeOf71
  v53 := Tryz.zeroValue71
  t171 := Tryz.underlying113
  a171 := Tryz.isAgg113
  z171 := Tryz.sizeOf113
  v171 := Tryz.zeroValue113
  t173 := Tryz.underlying115
  a173 := Tryz.isAgg115
  z173 := Tryz.sizeOf115
  v173 := Tryz.zeroValue115
  t212 := Tryz.underlying128
  a212 := Tryz.isAgg128
  z212 := Tryz.sizeOf128
  v212 := Tryz.zeroValue128
  t213 := Tryz.underlying129
  a213 := Tryz.isAgg129
  z213 := Tryz.sizeOf129
  t232 := Tryz.underlying134
  a232 := Tryz.isAgg134
  z232 := Tryz.sizeOf134
  v232 := Tryz.zeroValue134
  t233 := Tryz.underlying135
  a233 := Tryz.isAgg135
  z233 := Tryz.sizeOf135
  v233 := Tryz.zeroValue135
  g17 := by kernel_rfl
  g18 := by kernel_rfl
  g19 := by kernel_rfl
  i0 := by kernel_rfl
  i2 := by kernel_rfl
  i3 := by kernel_rfl
  i4 := by kernel_rfl
  i5 := by kernel_rfl
  i9 := by kernel_rfl
  i20 := by kernel_rfl
  i37 := by kernel_rfl
  i46 := by kernel_rfl
  i51 := by kernel_rfl
  i53 := by kernel_rfl
  i171 := by kernel_rfl
  i173 := by kernel_rfl
  i212 := by kernel_rfl
  i232 := by kernel_rfl
  i233 := by kernel_rfl
  m17 := by kernel_rfl
  m18 := by kernel_rfl
  m19 := by kernel_rfl }
open Go.RowKit Go.Sort Go.Lib in
theorem Tryz.strconv_Itoa (n : Int) (h0 : -9223372036854775808 ≤ n) (h1 : n ≤ 9223372036854775807) (w : World) (htab : Lib.TabIs Tryz.prog w "internal/strconv.uint64pow10" .u64 Lib.pow10Tab) :
    Calls Tryz.prog 26 #[.int .i64 n] w fun e w' => e = .returned (.string ⟨(Lib.itoa n).toArray⟩) ∧ ∃ k os, w' = grow (w.drewN k) os := Any.strconv_Itoa Tryz.laysM171 n h0 h1 w htab
def Tryz.laysC172_ren : Go.Shelf.Ren := ⟨fun | 172 => 22 | 244 => 40 | 245 => 41 | 247 => 61 | 279 => 62 | 280 => 63 | 281 => 64 | 282 => 65 | 287 => 81 | 316 => 82 | 171 => 26 | 205 => 83 | 321 => 92 | 322 => 93 | 243 => 43 | 246 => 67 | 283 => 84 | 284 => 85 | 285 => 86 | 286 => 87 | 129 => 53 | 317 => 94 | 318 => 95 | 319 => 96 | 320 => 97 | 337 => 98 | 338 => 99 | n => n, fun | 9 => 9 | 3 => 3 | 75 => 49 | 76 => 50 | 4 => 4 | 5 => 5 | 167 => 87 | 37 => 55 | 0 => 0 | 85 => 88 | 2 => 2 | 168 => 90 | 53 => 71 | 175 => 107 | 46 => 52 | 210 => 111 | 127 => 70 | 145 => 126 | 143 => 124 | 21 => 21 | 171 => 113 | 173 => 115 | 212 => 128 | 51 => 29 | 20 => 20 | 213 => 129 | 232 => 134 | 233 => 135 | 80 => 60 | n => n, fun | 15 => 1 | 16 => 2 | 17 => 3 | 18 => 6 | 19 => 7 | n => n⟩
theorem Tryz.laysC172 : Go.Proofs.LaysC.n172 Tryz.prog Tryz.laysC172_ren := {
  mixed := by kernel_rfl
  f129 := Tryz.func53.trans (congrArg some (by kernel_rfl))
  f171 := Tryz.func26.trans (congrArg some (by kernel_rfl))
  f172 := Tryz.func22.trans (congrArg some (by kernel_rfl))
  f205 := Tryz.func83.trans (congrArg some (by kernel_rfl))
  f243 := Tryz.func43.trans (congrArg some (by kernel_rfl))
  f244 := Tryz.func40.trans (congrArg some (by kernel_rfl))
  f245 := Tryz.func41.trans (congrArg some (by kernel_rfl))
  f246 := Tryz.func67.trans (congrArg some (by kernel_rfl))
  f247 := Tryz.func61.trans (congrArg some (by kernel_rfl))
  f279 := Tryz.func62.trans (congrArg some (by kernel_rfl))
  f280 := Tryz.func63.trans (congrArg some (by kernel_rfl))
  f281 := Tryz.func64.trans (congrArg some (by kernel_rfl))
  f282 := Tryz.func65.trans (congrArg some (by kernel_rfl))
  f283 := Tryz.func84.trans (congrArg some (by kernel_rfl))
  f284 := Tryz.func85.trans (congrArg some (by kernel_rfl))
  f285 := Tryz.func86.trans (congrArg some (by kernel_rfl))
  f286 := Tryz.func87.trans (congrArg some (by kernel_rfl))
  f287 := Tryz.func81.trans (congrArg some (by kernel_rfl))
  f316 := Tryz.func82.trans (congrArg some (by kernel_rfl))
  f317 := Tryz.func94.trans (congrArg some (by kernel_rfl))
  f318 := Tryz.func95.trans (congrArg some (by kernel_rfl))
  f319 := Tryz.func96.trans (congrArg some (by kernel_rfl))
  f320 := Tryz.func97.trans (congrArg some (by kernel_rfl))
  f321 := Tryz.func92.trans (congrArg some (by kernel_rfl))
  f322 := Tryz.func93.trans (congrArg some (by kernel_rfl))
  f337 := Tryz.func98.trans (congrArg some (by kernel_rfl))
  f338 := Tryz.func99.trans (congrArg some (by kernel_rfl))
  t0 := Tryz.underlying0
  a0 := Tryz.isAgg0
  z0 := Tryz.sizeOf0
  v0 := Tryz.zeroValue0
  t2 := Tryz.underlying2
  a2 := Tryz.isAgg2
  z2 := Tryz.sizeOf2
  v2 := Tryz.zeroValue2
  t3 := Tryz.underlying3
  a3 := Tryz.isAgg3
  z3 := Tryz.sizeOf3
  v3 := Tryz.zeroValue3
  t4 := Tryz.underlying4
  a4 := Tryz.isAgg4
  z4 := Tryz.sizeOf4
  v4 := Tryz.zeroValue4
  t5 := Tryz.underlying5
  a5 := Tryz.isAgg5
  z5 := Tryz.sizeOf5
  v5 := Tryz.zeroValue5
  t9 := Tryz.underlying9
  a9 := Tryz.isAgg9
  z9 := Tryz.sizeOf9
  v9 := Tryz.zeroValue9
  t20 := Tryz.underlying20
  a20 := Tryz.isAgg20
  z20 := Tryz.sizeOf20
  v20 := Tryz.zeroValue20
  t21 := Tryz.underlying21
  a21 := Tryz.isAgg21
  z21 := Tryz.sizeOf21
  v21 := Tryz.zeroValue21
  t37 := Tryz.underlying55
  a37 := Tryz.isAgg55
  z37 := Tryz.sizeOf55
  v37 := Tryz.zeroValue55
  t46 := Tryz.underlying52
  a46 := Tryz.isAgg52
  z46 := Tryz.sizeOf52
  v46 := Tryz.zeroValue52
  t51 := Tryz.underlying29
  a51 := Tryz.isAgg29
  z51 := Tryz.sizeOf29
  v51 := Tryz.zeroValue29
  t53 := Tryz.underlying71
  a53 := Tryz.isAgg71
  z53 := Tryz.sizeOf71
  v53 := Tryz.zeroValue71
  t75 := Tryz.underlying49
  a75 := Tryz.isAgg49
  z75 := Tryz.sizeOf49
  v75 := Tryz.zeroValue49
  t76 := Tryz.underlying50
  a76 := Tryz.isAgg50
  z76 := Tryz.sizeOf50
  v76 := Tryz.zeroValue50
  t85 := Tryz.underlying88
  a85 := Tryz.isAgg88
  z85 := Tryz.sizeOf88
  v85 := Tryz.zeroValue88
  t127 := Tryz.underlying70
  a127 := Tryz.isAgg70
  z127 := Tryz.sizeOf70
  v127 := Tryz.zeroValue70
  t143 := Tryz.underlying124
  a143 := Tryz.isAgg124
  z143 := Tryz.sizeOf124
  v143 := Tryz.zeroValue124
  t145 := Tryz.underlying126
  a145 := Tryz.isAgg126
  z145 := Tryz.sizeOf126
  v145 := Tryz.zeroValue126
  t167 := Tryz.underlying87
  a167 := Tryz.isAgg87
  z167 := Tryz.sizeOf87
  v167 := Tryz.zeroValue87
  t168 := Tryz.underlying90
  a168 := Tryz.isAgg90
  z168 := Tryz.sizeOf90
  v168 := Tryz.zeroValue90
  t171 := Tryz.underlying113
  a171 := Tryz.isAgg113
  z171 := Tryz.sizeOf113
  v171 := Tryz.zeroValue113
  t173 := Tryz.underlying115
  a173 := Tryz.isAgg115
  z173 := Tryz.sizeOf115
  v173 := Tryz.zeroValue115
  t175 := Tryz.underlying107
  a175 := Tryz.isAgg107
  z175 := Tryz.sizeOf107
  v175 := Tryz.zeroValue107
  t210 := Tryz.underlying111
  a210 := Tryz.isAgg111
  z210 := Tryz.sizeOf111
  v210 := Tryz.zeroValue111
  t212 := Tryz.underlying128
  a212 := Tryz.isAgg128
  z212 := Tryz.sizeOf128
  v212 := Tryz.zeroValue128
  t213 := Tryz.underlying129
  a213 := Tryz.isAgg129
  z213 := Tryz.sizeOf129
  t232 := Tryz.underlying134
  a232 := Tryz.isAgg134
  z232 := Tryz.sizeOf134
  v232 := Tryz.zeroValue134
  t233 := Tryz.underlying135
  a233 := Tryz.isAgg135
  z233 := Tryz.sizeOf135
  v233 := Tryz.zeroValue135
  g15 := by kernel_rfl
  g16 := by kernel_rfl
  g17 := by kernel_rfl
  g18 := by kernel_rfl
  g19 := by kernel_rfl
  t80 := Tryz.underlying60
  a80 := Tryz.isAgg60
  z80 := Tryz.sizeOf60
  v80 := Tryz.zeroValue60
  i0 := by kernel_rfl
  i2 := by kernel_rfl
  i3 := by kernel_rfl
  i4 := by kernel_rfl
  i5 := by kernel_rfl
  i9 := by kernel_rfl
  i20 := by kernel_rfl
  i21 := by kernel_rfl
  i37 := by kernel_rfl
  i46 := by kernel_rfl
  i51 := by kernel_rfl
  i53 := by kernel_rfl
  i75 := by kernel_rfl
  i76 := by kernel_rfl
  i80 := by kernel_rfl
  i85 := by kernel_rfl
  i127 := by kernel_rfl
  i143 := by kernel_rfl
  i145 := by kernel_rfl
  i167 := by kernel_rfl
  i168 := by kernel_rfl
  i171 := by kernel_rfl
  i173 := by kernel_rfl
  i175 := by kernel_rfl
  i210 := by kernel_rfl
  i212 := by kernel_rfl
  i232 := by kernel_rfl
  i233 := by kernel_rfl
  m15 := by kernel_rfl
  m16 := by kernel_rfl
  m17 := by kernel_rfl
  m18 := by kernel_rfl
  m19 := by kernel_rfl
  c0 := by kernel_rfl
  c2 := by kernel_rfl
  c3 := by kernel_rfl
  c4 := by kernel_rfl
  c5 := by kernel_rfl
  c9 := by kernel_rfl
  c20 := by kernel_rfl
  c21 := by kernel_rfl
  c37 := by kernel_rfl
  c46 := by kernel_rfl
  c51 := by kernel_rfl
  c53 := by kernel_rfl
  c75 := by kernel_rfl
  c76 := by kernel_rfl
  c80 := by kernel_rfl
  c85 := by kernel_rfl
  c127 := by kernel_rfl
  c143 := by kernel_rfl
  c145 := by kernel_rfl
  c167 := by kernel_rfl
  c168 := by kernel_rfl
  c171 := by kernel_rfl
  c173 := by kernel_rfl
  c175 := by kernel_rfl
  c210 := by kernel_rfl
  c212 := by kernel_rfl
  c213 := by kernel_rfl
  c232 := by kernel_rfl
  c233 := by kernel_rfl }
open Go.RowKit in
theorem Tryz.strconv_Atoi_err_var (s : ByteArray) (hl : s.size ≤ 18) (h : Lib.atoi s.data.toList = none) (tp : TypeId) (p : Value) (w : World) (hvar : w.var? Tryz.prog "strconv.ErrSyntax" = some #[.iface tp p]) :
    Calls Tryz.prog 22 #[.string s] w fun e w' => ∃ N, e = .returned (.tuple #[.int .i64 0, .iface 90 (.pointer (some ⟨N, 0, none⟩))]) ∧ w.heap.size ≤ N ∧ w'.heap[N]? = some (.cells #[.string ⟨#[65, 116, 111, 105]⟩, .string s, .iface tp p] 111 (0, 0)) ∧ Below w.heap.size w w' := Any.strconv_Atoi_err_var Tryz.laysC172 s hl h tp p w hvar
def Tryz.lays145_ren : Go.Shelf.Ren := ⟨fun | 145 => 20 | 220 => 38 | 219 => 57 | 217 => 74 | 225 => 75 | 224 => 76 | 267 => 77 | 266 => 89 | 314 => 90 | n => n, fun | 9 => 9 | 4 => 4 | 59 => 44 | 3 => 3 | 5 => 5 | 46 => 52 | 146 => 120 | 51 => 29 | n => n, fun | 1 => 0 | n => n⟩
theorem Tryz.lays145 : Go.Proofs.Lays.n145 Tryz.prog Tryz.lays145_ren := {
  mixed := by kernel_rfl
  f145 := Tryz.func20.trans (congrArg some (by kernel_rfl))
  f217 := Tryz.func74.trans (congrArg some (by kernel_rfl))
  f219 := Tryz.func57.trans (congrArg some (by kernel_rfl))
  f220 := Tryz.func38.trans (congrArg some (by kernel_rfl))
  f224 := Tryz.func76.trans (congrArg some (by kernel_rfl))
  f225 := Tryz.func75.trans (congrArg some (by kernel_rfl))
  f266 := Tryz.func89.trans (congrArg some (by kernel_rfl))
  f267 := Tryz.func77.trans (congrArg some (by kernel_rfl))
  f314 := Tryz.func90.trans (congrArg some (by kernel_rfl))
  t3 := Tryz.underlying3
  a3 := Tryz.isAgg3
  z3 := Tryz.sizeOf3
  v3 := Tryz.zeroValue3
  t4 := Tryz.underlying4
  a4 := Tryz.isAgg4
  z4 := Tryz.sizeOf4
  v4 := Tryz.zeroValue4
  t5 := Tryz.underlying5
  a5 := Tryz.isAgg5
  z5 := Tryz.sizeOf5
  v5 := Tryz.zeroValue5
  t9 := Tryz.underlying9
  a9 := Tryz.isAgg9
  z9 := Tryz.sizeOf9
  v9 := Tryz.zeroValue9
  t46 := Tryz.underlying52
  a46 := Tryz.isAgg52
  z46 := Tryz.sizeOf52
  v46 := Tryz.zeroValue52
  t51 := Tryz.underlying29
  a51 := Tryz.isAgg29
  z51 := Tryz.sizeOf29
  v51 := Tryz.zeroValue29
  t59 := Tryz.underlying44
  a59 := Tryz.isAgg44
  z59 := Tryz.sizeOf44
  v59 := Tryz.zeroValue44
  t146 := Tryz.underlying120
  a146 := Tryz.isAgg120
  z146 := Tryz.sizeOf120
  v146 := Tryz.zeroValue120
  g1 := by kernel_rfl }
open Go.RowKit Go.Lib in
theorem Tryz.strings_Cut (s sep : ByteArray) (m : Int) (w : World) (hs : s.size < 4294967281) (hm : w.cell? ⟨0, 0, none⟩ = some (.int .i64 m)) :
    Calls Tryz.prog 20 #[.string s, .string sep] w fun e w' => e = .returned (.tuple #[.string ⟨(Lib.cut s.data.toList sep.data.toList).1.toArray⟩, .string ⟨(Lib.cut s.data.toList sep.data.toList).2.1.toArray⟩, .bool (Lib.cut s.data.toList sep.data.toList).2.2]) ∧ ∃ n, w' = w.drewN n := Any.strings_Cut Tryz.lays145 s sep m w hs hm
def Tryz.laysM145_ren : Go.Shelf.Ren := ⟨fun | 145 => 20 | 220 => 38 | 219 => 57 | 217 => 74 | 225 => 75 | 224 => 76 | 267 => 77 | 266 => 89 | 314 => 90 | n => n, fun | 9 => 9 | 4 => 4 | 59 => 44 | 3 => 3 | 5 => 5 | 46 => 52 | 146 => 120 | 51 => 29 | n => n, fun | 1 => 0 | n => n⟩
theorem Tryz.laysM145 : Go.Proofs.LaysM.n145 Tryz.prog Tryz.laysM145_ren := {
  mixed := by kernel_rfl
  f145 := Tryz.func20.trans (congrArg some (by kernel_rfl))
  f217 := Tryz.func74.trans (congrArg some (by kernel_rfl))
  f219 := Tryz.func57.trans (congrArg some (by kernel_rfl))
  f220 := Tryz.func38.trans (congrArg some (by kernel_rfl))
  f224 := Tryz.func76.trans (congrArg some (by kernel_rfl))
  f225 := Tryz.func75.trans (congrArg some (by kernel_rfl))
  f266 := Tryz.func89.trans (congrArg some (by kernel_rfl))
  f267 := Tryz.func77.trans (congrArg some (by kernel_rfl))
  f314 := Tryz.func90.trans (congrArg some (by kernel_rfl))
  t3 := Tryz.underlying3
  a3 := Tryz.isAgg3
  z3 := Tryz.sizeOf3
  v3 := Tryz.zeroValue3
  t4 := Tryz.underlying4
  a4 := Tryz.isAgg4
  z4 := Tryz.sizeOf4
  v4 := Tryz.zeroValue4
  t5 := Tryz.underlying5
  a5 := Tryz.isAgg5
  z5 := Tryz.sizeOf5
  v5 := Tryz.zeroValue5
  t9 := Tryz.underlying9
  a9 := Tryz.isAgg9
  z9 := Tryz.sizeOf9
  v9 := Tryz.zeroValue9
  t46 := Tryz.underlying52
  a46 := Tryz.isAgg52
  z46 := Tryz.sizeOf52
  v46 := Tryz.zeroValue52
  t51 := Tryz.underlying29
  a51 := Tryz.isAgg29
  z51 := Tryz.sizeOf29
  v51 := Tryz.zeroValue29
  t59 := Tryz.underlying44
  a59 := Tryz.isAgg44
  z59 := Tryz.sizeOf44
  v59 := Tryz.zeroValue44
  t146 := Tryz.underlying120
  a146 := Tryz.isAgg120
  z146 := Tryz.sizeOf120
  v146 := Tryz.zeroValue120
  g1 := by kernel_rfl
  i3 := by kernel_rfl
  i4 := by kernel_rfl
  i5 := by kernel_rfl
  i9 := by kernel_rfl
  i46 := by kernel_rfl
  i51 := by kernel_rfl
  i59 := by kernel_rfl
  i146 := by kernel_rfl
  m1 := by kernel_rfl
  s1_3 := fun w h => Go.Proofs.cell_of_shapedOpen_int (zero := #[.int .i64 0]) (t := 3) h (of_decide_eq_true (by kernel_rfl)) (by kernel_rfl) rfl (by kernel_rfl) (by kernel_rfl) Tryz.underlying3 }
def Tryz.lays146_ren : Go.Shelf.Ren := ⟨fun | 146 => 21 | 221 => 39 | 268 => 58 | 138 => 59 | 143 => 60 | 195 => 78 | 197 => 79 | 218 => 80 | 219 => 57 | 260 => 91 | 217 => 74 | 225 => 75 | 224 => 76 | 267 => 77 | 266 => 89 | 314 => 90 | n => n, fun | 9 => 9 | 31 => 46 | 3 => 3 | 4 => 4 | 0 => 0 | 105 => 105 | 21 => 21 | 5 => 5 | 46 => 52 | 119 => 130 | 139 => 133 | 138 => 132 | 146 => 120 | 51 => 29 | n => n, fun | 1 => 0 | 3 => 4 | 4 => 5 | n => n⟩
theorem Tryz.lays146 : Go.Proofs.Lays.n146 Tryz.prog Tryz.lays146_ren := {
  mixed := by kernel_rfl
  f138 := Tryz.func59.trans (congrArg some (by kernel_rfl))
  f143 := Tryz.func60.trans (congrArg some (by kernel_rfl))
  f146 := Tryz.func21.trans (congrArg some (by kernel_rfl))
  f195 := Tryz.func78.trans (congrArg some (by kernel_rfl))
  f197 := Tryz.func79.trans (congrArg some (by kernel_rfl))
  f217 := Tryz.func74.trans (congrArg some (by kernel_rfl))
  f218 := Tryz.func80.trans (congrArg some (by kernel_rfl))
  f219 := Tryz.func57.trans (congrArg some (by kernel_rfl))
  f221 := Tryz.func39.trans (congrArg some (by kernel_rfl))
  f224 := Tryz.func76.trans (congrArg some (by kernel_rfl))
  f225 := Tryz.func75.trans (congrArg some (by kernel_rfl))
  f260 := Tryz.func91.trans (congrArg some (by kernel_rfl))
  f266 := Tryz.func89.trans (congrArg some (by kernel_rfl))
  f267 := Tryz.func77.trans (congrArg some (by kernel_rfl))
  f268 := Tryz.func58.trans (congrArg some (by kernel_rfl))
  f314 := Tryz.func90.trans (congrArg some (by kernel_rfl))
  t0 := Tryz.underlying0
  a0 := Tryz.isAgg0
  z0 := Tryz.sizeOf0
  v0 := Tryz.zeroValue0
  t3 := Tryz.underlying3
  a3 := Tryz.isAgg3
  z3 := Tryz.sizeOf3
  v3 := Tryz.zeroValue3
  t4 := Tryz.underlying4
  a4 := Tryz.isAgg4
  z4 := Tryz.sizeOf4
  v4 := Tryz.zeroValue4
  t5 := Tryz.underlying5
  a5 := Tryz.isAgg5
  z5 := Tryz.sizeOf5
  v5 := Tryz.zeroValue5
  t9 := Tryz.underlying9
  a9 := Tryz.isAgg9
  z9 := Tryz.sizeOf9
  v9 := Tryz.zeroValue9
  t21 := Tryz.underlying21
  a21 := Tryz.isAgg21
  z21 := Tryz.sizeOf21
  v21 := Tryz.zeroValue21
  t31 := Tryz.underlying46
  a31 := Tryz.isAgg46
  z31 := Tryz.sizeOf46
  v31 := Tryz.zeroValue46
  t46 := Tryz.underlying52
  a46 := Tryz.isAgg52
  z46 := Tryz.sizeOf52
  v46 := Tryz.zeroValue52
  t51 := Tryz.underlying29
  a51 := Tryz.isAgg29
  z51 := Tryz.sizeOf29
  v51 := Tryz.zeroValue29
  t105 := Tryz.underlying105
  a105 := Tryz.isAgg105
  z105 := Tryz.sizeOf105
  v105 := Tryz.zeroValue105
  t119 := Tryz.underlying130
  a119 := Tryz.isAgg130
  z119 := Tryz.sizeOf130
  t138 := Tryz.underlying132
  a138 := Tryz.isAgg132
  z138 := Tryz.sizeOf132
  v138 := Tryz.zeroValue132
  t139 := Tryz.underlying133
  a139 := Tryz.isAgg133
  z139 := Tryz.sizeOf133
  v139 := Tryz.zeroValue133
  t146 := Tryz.underlying120
  a146 := Tryz.isAgg120
  z146 := Tryz.sizeOf120
  v146 := Tryz.zeroValue120
  g1 := by kernel_rfl
  g3 := by kernel_rfl
  g4 := by kernel_rfl }
open Go.RowKit Go.Lib in
theorem Tryz.strings_Split (s sep : ByteArray) (m : Int) (w : World) (hs : s.size < 4294967281) (hm : w.cell? ⟨0, 0, none⟩ = some (.int .i64 m)) (h1 : 1 ≤ sep.size) :
    Calls Tryz.prog 21 #[.string s, .string sep] w fun e w' =>
      e = .returned (.slice (some ⟨w.heap.size, 0, none⟩) (Lib.countB s sep + 1) (Lib.countB s sep + 1)) ∧ w' = w.alloc (.cells ((Lib.splitB sep 0 (Lib.countB s sep) s).map Value.string).toArray 9) := Any.strings_Split Tryz.lays146 (by kernel_rfl) s sep m w hs hm h1
end Go.Proofs
