/-
  DERIVED: THE SHELF's CONTRACTS AT THIS DUMP, IN PLAIN WORDS (tools/lay-plain.mjs out of 'TryzSel.lean', which tools/lay-shelf.mjs wrote): THE SAME DECLARATIONS UNDER THE SAME NAMES: 'import', 'namespace', 'open', 'def', 'theorem' AND NOTHING ELSE: no command of the shelf's: FOR A HAND-IN. Each laying: the table of numbers ('.._ren') and one theorem, a field a fact of the dump's own or the kernel's comparison; each contract: ONE APPLICATION.
-/
import Derived.Shelf.Strings.Builder1
import Derived.Shelf.Small.Bits
import Derived.Shelf.Small.Strs
import Derived.Shelf.Small.Wraps
import Derived.Shelf.Strings.BuilderF
import Derived.Shelf.Strings.BuilderK
import Derived.Shelf.Strconv.Atoi
import Derived.Shelf.Strconv.Itoa0
import Derived.Shelf.Strconv.Itoa1
import Derived.Shelf.LaysM
import Derived.Shelf.Strconv.Itoa2
import Derived.Shelf.Strconv.Itoa3
import Derived.Shelf.Strconv.AtoiErrFast
import Derived.Shelf.Strconv.ParseIntEmpty
import Derived.Shelf.Strconv.AtoiFail
import Derived.Shelf.Strconv.Clone
import Derived.Shelf.Strconv.SyntaxError
import Derived.Shelf.LaysC
import Derived.Shelf.Strconv.ToError
import Derived.Shelf.Strconv.Lower
import Derived.Shelf.Strconv.ParseUint10
import Derived.Shelf.Strconv.ParseUint10Empty
import Derived.Shelf.Strconv.ParseUint10Any
import Derived.Shelf.Strconv.ParseInt10
import Derived.Shelf.Strconv.AtoiLong
import Derived.Shelf.Strconv.AtoiInnerAll
import Derived.Shelf.Strconv.RangeError
import Derived.Shelf.Strconv.ToErrorRange
import Derived.Shelf.Strconv.AtoiAll
import Derived.Shelf.Strings.Search1
import Derived.Shelf.Strings.Search2
import Derived.Shelf.Strings.Cut
import Derived.Shelf.Strings.Shaped
import Derived.Shelf.GgClosure.StringsIndexFunc
import Derived.Ground.GgwProg
import Derived.Shelf.GgClosure.StringsIndexFuncTop
import Derived.Shelf.Strings.Prefix
import Derived.Test.YtmcnblibnbkfjaaGreatDoorProg
import Derived.Shelf.SlSortCmp.WholeK
import Derived.Ground.SlsfProg
namespace Go.Proofs
open Go.Shelf
def Tryz.lays169_ren : Go.Shelf.Ren := ⟨fun | 169 => 37 | n => n, fun | 70 => 55 | 9 => 9 | 0 => 0 | 72 => 58 | 37 => 56 | 127 => 88 | 3 => 3 | 5 => 5 | n => n, fun | n => n⟩
theorem Tryz.lays169 : Go.Proofs.Lays.n169 Tryz.prog Tryz.lays169_ren := {
  mixed := by kernel_rfl
  f169 := Tryz.func37.trans (congrArg some (by kernel_rfl))
  t0 := Tryz.underlying0
  a0 := Tryz.isAgg0
  z0 := Tryz.sizeOf0
  v0 := Tryz.zeroValue0
  t3 := Tryz.underlying3
  a3 := Tryz.isAgg3
  z3 := Tryz.sizeOf3
  v3 := Tryz.zeroValue3
  t9 := Tryz.underlying9
  a9 := Tryz.isAgg9
  z9 := Tryz.sizeOf9
  v9 := Tryz.zeroValue9
  t37 := Tryz.underlying56
  a37 := Tryz.isAgg56
  z37 := Tryz.sizeOf56
  v37 := Tryz.zeroValue56
  t70 := Tryz.underlying55
  a70 := Tryz.isAgg55
  z70 := Tryz.sizeOf55
  v70 := Tryz.zeroValue55
  t72 := Tryz.underlying58
  a72 := Tryz.isAgg58
  z72 := Tryz.sizeOf58
  v72 := Tryz.zeroValue58
  t127 := Tryz.underlying88
  a127 := Tryz.isAgg88
  z127 := Tryz.sizeOf88
  v127 := Tryz.zeroValue88 }
theorem Tryz.Builder_Extra_169 : Builder.Extra Tryz.prog Tryz.lays169_ren := {
  sizeBuilder := by kernel_rfl
  liesBuilder := by kernel_rfl
  t5 := Tryz.underlying5
  a5 := Tryz.isAgg5
  z5 := Tryz.sizeOf5
  v5 := Tryz.zeroValue5
  infoByte := by kernel_rfl
  cellsByte := by kernel_rfl
  sizeByte := by kernel_rfl
  neB5 := by decide }
def Tryz.lays137_ren : Go.Shelf.Ren := ⟨fun | 137 => 59 | 217 => 81 | 266 => 101 | n => n, fun | 9 => 9 | 5 => 5 | 3 => 3 | n => n, fun | n => n⟩
theorem Tryz.lays137 : Go.Proofs.Lays.n137 Tryz.prog Tryz.lays137_ren := {
  mixed := by kernel_rfl
  f137 := Tryz.func59.trans (congrArg some (by kernel_rfl))
  f217 := Tryz.func81.trans (congrArg some (by kernel_rfl))
  f266 := Tryz.func101.trans (congrArg some (by kernel_rfl))
  t3 := Tryz.underlying3
  a3 := Tryz.isAgg3
  z3 := Tryz.sizeOf3
  v3 := Tryz.zeroValue3
  t5 := Tryz.underlying5
  a5 := Tryz.isAgg5
  z5 := Tryz.sizeOf5
  v5 := Tryz.zeroValue5
  t9 := Tryz.underlying9
  a9 := Tryz.isAgg9
  z9 := Tryz.sizeOf9
  v9 := Tryz.zeroValue9 }
open Go.RowKit in
/-- strings.IndexByte: "IndexByte returns the index of the first instance of c in s, or -1 if c is not present in s.": IT RETURNS 'Lib.indexByte s c'; the world is as it was. (LAID: no walk: one application.) -/
theorem Tryz.strings_IndexByte (s : ByteArray) (c : Int) (w : World) :
    Calls Tryz.prog 59 #[.string s, .int .u8 c] w fun e w' => e = .returned (.int .i64 (Lib.indexByte s.data.toList c.toNat.toUInt8)) ∧ w' = w := Any.strings_IndexByte Tryz.lays137 s c w
def Tryz.lays210_ren : Go.Shelf.Ren := ⟨fun | 210 => 69 | 206 => 94 | n => n, fun | 9 => 9 | 4 => 4 | 3 => 3 | n => n, fun | n => n⟩
theorem Tryz.lays210 : Go.Proofs.Lays.n210 Tryz.prog Tryz.lays210_ren := {
  mixed := by kernel_rfl
  f206 := Tryz.func94.trans (congrArg some (by kernel_rfl))
  f210 := Tryz.func69.trans (congrArg some (by kernel_rfl))
  t3 := Tryz.underlying3
  a3 := Tryz.isAgg3
  z3 := Tryz.sizeOf3
  v3 := Tryz.zeroValue3
  t4 := Tryz.underlying4
  a4 := Tryz.isAgg4
  z4 := Tryz.sizeOf4
  v4 := Tryz.zeroValue4
  t9 := Tryz.underlying9
  a9 := Tryz.isAgg9
  z9 := Tryz.sizeOf9
  v9 := Tryz.zeroValue9 }
open Go.RowKit in
/-- internal/stringslite.CutPrefix (what strings.CutPrefix calls). (LAID: no walk: one application.) -/
theorem Tryz.stringslite_CutPrefix (s p : ByteArray) (w : World) :
    Calls Tryz.prog 69 #[.string s, .string p] w fun e w' => e = .returned (.tuple #[.string ⟨(Lib.trimPrefix s.data.toList p.data.toList).toArray⟩, .bool (Lib.hasPrefix s.data.toList p.data.toList)]) ∧ w' = w := Any.stringslite_CutPrefix Tryz.lays210 s p w
def Tryz.lays103_ren : Go.Shelf.Ren := ⟨fun | 103 => 53 | 210 => 69 | 206 => 94 | n => n, fun | 9 => 9 | 4 => 4 | 24 => 28 | 3 => 3 | n => n, fun | n => n⟩
theorem Tryz.lays103 : Go.Proofs.Lays.n103 Tryz.prog Tryz.lays103_ren := {
  mixed := by kernel_rfl
  f103 := Tryz.func53.trans (congrArg some (by kernel_rfl))
  f206 := Tryz.func94.trans (congrArg some (by kernel_rfl))
  f210 := Tryz.func69.trans (congrArg some (by kernel_rfl))
  t3 := Tryz.underlying3
  a3 := Tryz.isAgg3
  z3 := Tryz.sizeOf3
  v3 := Tryz.zeroValue3
  t4 := Tryz.underlying4
  a4 := Tryz.isAgg4
  z4 := Tryz.sizeOf4
  v4 := Tryz.zeroValue4
  t9 := Tryz.underlying9
  a9 := Tryz.isAgg9
  z9 := Tryz.sizeOf9
  v9 := Tryz.zeroValue9
  t24 := Tryz.underlying28
  a24 := Tryz.isAgg28
  z24 := Tryz.sizeOf28
  v24 := Tryz.zeroValue28 }
open Go.RowKit in
/-- strings.CutPrefix: "CutPrefix returns s without the provided leading prefix string and reports whether it found the prefix. If s doesn't start with prefix, CutPrefix returns s, false. If prefix is the empty string, CutPrefix returns s, true.": IT RETURNS '(Lib.trimPrefix s p, Lib.hasPrefix s p)'; the world is as it was. (LAID: no walk: one application.) -/
theorem Tryz.strings_CutPrefix (s p : ByteArray) (w : World) :
    Calls Tryz.prog 53 #[.string s, .string p] w fun e w' => e = .returned (.tuple #[.string ⟨(Lib.trimPrefix s.data.toList p.data.toList).toArray⟩, .bool (Lib.hasPrefix s.data.toList p.data.toList)]) ∧ w' = w := Any.strings_CutPrefix Tryz.lays103 s p w
open Go.RowKit in
/-- (*strings.Builder).String: "String returns the accumulated string.": WHATEVER THE BUILDER HOLDS; THE FORM '_k': OVER 'Lib.IsBuilderF' (a builder that 'String()' may have read), AND WITH THE FRAME THAT REACHES ABOVE THE BUILDER: 'Lib.OthersKept': every block that is not b and is no row of uint8's stands as it stood: the iterator of a range among them. (LAID: no walk: one application.) -/
theorem Tryz.Builder_String_any_k (B b : Nat) (l : List UInt8) (w : World) (h : Lib.IsBuilderF 58 5 B b (Lib.byteCells l) w) (hBw : B ≤ w.heap.size) :
    Calls Tryz.prog 37 #[.pointer (some ⟨b, 0, none⟩)] w fun e w' => e = .returned (.string ⟨l.toArray⟩) ∧ (Lib.IsBuilderF 58 5 B b (Lib.byteCells l) w' ∧ Below B w w' ∧ Lib.OthersKept 5 (some b) w w') := Any.Builder_String_any_k Tryz.lays169 Tryz.Builder_Extra_169 B b l w h hBw
def Tryz.laysM171_ren : Go.Shelf.Ren := ⟨fun | 171 => 51 | 243 => 67 | 246 => 90 | 283 => 105 | 284 => 106 | 285 => 107 | 286 => 108 | 129 => 80 | 317 => 111 | 318 => 112 | 319 => 113 | 320 => 114 | 337 => 115 | 338 => 116 | n => n, fun | 3 => 3 | 9 => 9 | 2 => 2 | 4 => 4 | 171 => 123 | 0 => 0 | 53 => 63 | 37 => 56 | 5 => 5 | 173 => 125 | 212 => 136 | 51 => 99 | 20 => 20 | 213 => 137 | 46 => 70 | 232 => 139 | 233 => 140 | n => n, fun | 17 => 3 | 18 => 4 | 19 => 5 | n => n⟩
theorem Tryz.laysM171 : Go.Proofs.LaysM.n171 Tryz.prog Tryz.laysM171_ren := {
  mixed := by kernel_rfl
  f129 := Tryz.func80.trans (congrArg some (by kernel_rfl))
  f171 := Tryz.func51.trans (congrArg some (by kernel_rfl))
  f243 := Tryz.func67.trans (congrArg some (by kernel_rfl))
  f246 := Tryz.func90.trans (congrArg some (by kernel_rfl))
  f283 := Tryz.func105.trans (congrArg some (by kernel_rfl))
  f284 := Tryz.func106.trans (congrArg some (by kernel_rfl))
  f285 := Tryz.func107.trans (congrArg some (by kernel_rfl))
  f286 := Tryz.func108.trans (congrArg some (by kernel_rfl))
  f317 := Tryz.func111.trans (congrArg some (by kernel_rfl))
  f318 := Tryz.func112.trans (congrArg some (by kernel_rfl))
  f319 := Tryz.func113.trans (congrArg some (by kernel_rfl))
  f320 := Tryz.func114.trans (congrArg some (by kernel_rfl))
  f337 := Tryz.func115.trans (congrArg some (by kernel_rfl))
  f338 := Tryz.func116.trans (congrArg some (by kernel_rfl))
  t0 := Tryz.underlying0
  a0 := Tryz.isAgg0
  z0 := Tryz.sizeOf0
  v0 := Tryz.zeroValue0
  t2 := Tryz.underlying2
  a2 := Tryz.isAgg2
  z2 := Tryz.sizeOf2
  v2 := Tryz.zeroValue2
  t3 := Tryz.underlying3
  a3 := Tryz.isAgg3
  z3 := Tryz.sizeOf3
  v3 := Tryz.zeroValue3
  t4 := Tryz.underlying4
  a4 := Tryz.isAgg4
  z4 := Tryz.sizeOf4
  v4 := Tryz.zeroValue4
  t5 := Tryz.underlying5
  a5 := Tryz.isAgg5
  z5 := Tryz.sizeOf5
  v5 := Tryz.zeroValue5
  t9 := Tryz.underlying9
  a9 := Tryz.isAgg9
  z9 := Tryz.sizeOf9
  v9 := Tryz.zeroValue9
  t20 := Tryz.underlying20
  a20 := Tryz.isAgg20
  z20 := Tryz.sizeOf20
  v20 := Tryz.zeroValue20
  t37 := Tryz.underlying56
  a37 := Tryz.isAgg56
  z37 := Tryz.sizeOf56
  v37 := Tryz.zeroValue56
  t46 := Tryz.underlying70
  a46 := Tryz.isAgg70
  z46 := Tryz.sizeOf70
  v46 := Tryz.zeroValue70
  t51 := Tryz.underlying99
  a51 := Tryz.isAgg99
  z51 := Tryz.sizeOf99
  v51 := Tryz.zeroValue99
  t53 := Tryz.underlying63
  a53 := Tryz.isAgg63
  z53 := Tryz.sizeOf63
  v53 := Tryz.zeroValue63
  t171 := Tryz.underlying123
  a171 := Tryz.isAgg123
  z171 := Tryz.sizeOf123
  v171 := Tryz.zeroValue123
  t173 := Tryz.underlying125
  a173 := Tryz.isAgg125
  z173 := Tryz.sizeOf125
  v173 := Tryz.zeroValue125
  t212 := Tryz.underlying136
  a212 := Tryz.isAgg136
  z212 := Tryz.sizeOf136
  v212 := Tryz.zeroValue136
  t213 := Tryz.underlying137
  a213 := Tryz.isAgg137
  z213 := Tryz.sizeOf137
  t232 := Tryz.underlying139
  a232 := Tryz.isAgg139
  z232 := Tryz.sizeOf139
  v232 := Tryz.zeroValue139
  t233 := Tryz.underlying140
  a233 := Tryz.isAgg140
  z233 := Tryz.sizeOf140
  v233 := Tryz.zeroValue140
  g17 := by kernel_rfl
  g18 := by kernel_rfl
  g19 := by kernel_rfl
  i0 := by kernel_rfl
  i2 := by kernel_rfl
  i3 := by kernel_rfl
  i4 := by kernel_rfl
  i5 := by kernel_rfl
  i9 := by kernel_rfl
  i20 := by kernel_rfl
  i37 := by kernel_rfl
  i46 := by kernel_rfl
  i51 := by kernel_rfl
  i53 := by kernel_rfl
  i171 := by kernel_rfl
  i173 := by kernel_rfl
  i212 := by kernel_rfl
  i232 := by kernel_rfl
  i233 := by kernel_rfl
  m17 := by kernel_rfl
  m18 := by kernel_rfl
  m19 := by kernel_rfl }
open Go.RowKit Go.Sort Go.Lib in
/-- strconv.Itoa: "Itoa is equivalent to FormatInt(int64(i), 10).": i's DECIMAL NUMERAL ('Lib.itoa': a '-' where i is negative, then the digits), FOR EVERY int. The world behind the call: the world before it, new blocks behind the heap (the library's 'var a [24]byte'), draws. (LAID: no walk: one application.) -/
theorem Tryz.strconv_Itoa (n : Int) (h0 : -9223372036854775808 ≤ n) (h1 : n ≤ 9223372036854775807) (w : World) (htab : Lib.TabIs Tryz.prog w "internal/strconv.uint64pow10" .u64 Lib.pow10Tab) :
    Calls Tryz.prog 51 #[.int .i64 n] w fun e w' => e = .returned (.string ⟨(Lib.itoa n).toArray⟩) ∧ ∃ k os, w' = grow (w.drewN k) os := Any.strconv_Itoa Tryz.laysM171 n h0 h1 w htab
def Tryz.laysC245_ren : Go.Shelf.Ren := ⟨fun | 245 => 62 | 279 => 85 | 280 => 86 | 281 => 87 | 282 => 88 | 316 => 102 | 171 => 51 | 205 => 103 | 243 => 67 | 246 => 90 | 283 => 105 | 284 => 106 | 285 => 107 | 286 => 108 | 129 => 80 | 317 => 111 | 318 => 112 | 319 => 113 | 320 => 114 | 337 => 115 | 338 => 116 | n => n, fun | 9 => 9 | 3 => 3 | 75 => 61 | 167 => 103 | 4 => 4 | 168 => 105 | 210 => 120 | 37 => 56 | 0 => 0 | 127 => 88 | 145 => 134 | 143 => 132 | 2 => 2 | 171 => 123 | 53 => 63 | 5 => 5 | 173 => 125 | 212 => 136 | 51 => 99 | 20 => 20 | 213 => 137 | 46 => 70 | 232 => 139 | 233 => 140 | 80 => 66 | n => n, fun | 15 => 1 | 16 => 2 | 17 => 3 | 18 => 4 | 19 => 5 | n => n⟩
theorem Tryz.laysC245 : Go.Proofs.LaysC.n245 Tryz.prog Tryz.laysC245_ren := {
  mixed := by kernel_rfl
  f129 := Tryz.func80.trans (congrArg some (by kernel_rfl))
  f171 := Tryz.func51.trans (congrArg some (by kernel_rfl))
  f205 := Tryz.func103.trans (congrArg some (by kernel_rfl))
  f243 := Tryz.func67.trans (congrArg some (by kernel_rfl))
  f245 := Tryz.func62.trans (congrArg some (by kernel_rfl))
  f246 := Tryz.func90.trans (congrArg some (by kernel_rfl))
  f279 := Tryz.func85.trans (congrArg some (by kernel_rfl))
  f280 := Tryz.func86.trans (congrArg some (by kernel_rfl))
  f281 := Tryz.func87.trans (congrArg some (by kernel_rfl))
  f282 := Tryz.func88.trans (congrArg some (by kernel_rfl))
  f283 := Tryz.func105.trans (congrArg some (by kernel_rfl))
  f284 := Tryz.func106.trans (congrArg some (by kernel_rfl))
  f285 := Tryz.func107.trans (congrArg some (by kernel_rfl))
  f286 := Tryz.func108.trans (congrArg some (by kernel_rfl))
  f316 := Tryz.func102.trans (congrArg some (by kernel_rfl))
  f317 := Tryz.func111.trans (congrArg some (by kernel_rfl))
  f318 := Tryz.func112.trans (congrArg some (by kernel_rfl))
  f319 := Tryz.func113.trans (congrArg some (by kernel_rfl))
  f320 := Tryz.func114.trans (congrArg some (by kernel_rfl))
  f337 := Tryz.func115.trans (congrArg some (by kernel_rfl))
  f338 := Tryz.func116.trans (congrArg some (by kernel_rfl))
  t0 := Tryz.underlying0
  a0 := Tryz.isAgg0
  z0 := Tryz.sizeOf0
  v0 := Tryz.zeroValue0
  t2 := Tryz.underlying2
  a2 := Tryz.isAgg2
  z2 := Tryz.sizeOf2
  v2 := Tryz.zeroValue2
  t3 := Tryz.underlying3
  a3 := Tryz.isAgg3
  z3 := Tryz.sizeOf3
  v3 := Tryz.zeroValue3
  t4 := Tryz.underlying4
  a4 := Tryz.isAgg4
  z4 := Tryz.sizeOf4
  v4 := Tryz.zeroValue4
  t5 := Tryz.underlying5
  a5 := Tryz.isAgg5
  z5 := Tryz.sizeOf5
  v5 := Tryz.zeroValue5
  t9 := Tryz.underlying9
  a9 := Tryz.isAgg9
  z9 := Tryz.sizeOf9
  v9 := Tryz.zeroValue9
  t20 := Tryz.underlying20
  a20 := Tryz.isAgg20
  z20 := Tryz.sizeOf20
  v20 := Tryz.zeroValue20
  t37 := Tryz.underlying56
  a37 := Tryz.isAgg56
  z37 := Tryz.sizeOf56
  v37 := Tryz.zeroValue56
  t46 := Tryz.underlying70
  a46 := Tryz.isAgg70
  z46 := Tryz.sizeOf70
  v46 := Tryz.zeroValue70
  t51 := Tryz.underlying99
  a51 := Tryz.isAgg99
  z51 := Tryz.sizeOf99
  v51 := Tryz.zeroValue99
  t53 := Tryz.underlying63
  a53 := Tryz.isAgg63
  z53 := Tryz.sizeOf63
  v53 := Tryz.zeroValue63
  t75 := Tryz.underlying61
  a75 := Tryz.isAgg61
  z75 := Tryz.sizeOf61
  v75 := Tryz.zeroValue61
  t127 := Tryz.underlying88
  a127 := Tryz.isAgg88
  z127 := Tryz.sizeOf88
  v127 := Tryz.zeroValue88
  t143 := Tryz.underlying132
  a143 := Tryz.isAgg132
  z143 := Tryz.sizeOf132
  v143 := Tryz.zeroValue132
  t145 := Tryz.underlying134
  a145 := Tryz.isAgg134
  z145 := Tryz.sizeOf134
  v145 := Tryz.zeroValue134
  t167 := Tryz.underlying103
  a167 := Tryz.isAgg103
  z167 := Tryz.sizeOf103
  v167 := Tryz.zeroValue103
  t168 := Tryz.underlying105
  a168 := Tryz.isAgg105
  z168 := Tryz.sizeOf105
  v168 := Tryz.zeroValue105
  t171 := Tryz.underlying123
  a171 := Tryz.isAgg123
  z171 := Tryz.sizeOf123
  v171 := Tryz.zeroValue123
  t173 := Tryz.underlying125
  a173 := Tryz.isAgg125
  z173 := Tryz.sizeOf125
  v173 := Tryz.zeroValue125
  t210 := Tryz.underlying120
  a210 := Tryz.isAgg120
  z210 := Tryz.sizeOf120
  v210 := Tryz.zeroValue120
  t212 := Tryz.underlying136
  a212 := Tryz.isAgg136
  z212 := Tryz.sizeOf136
  v212 := Tryz.zeroValue136
  t213 := Tryz.underlying137
  a213 := Tryz.isAgg137
  z213 := Tryz.sizeOf137
  t232 := Tryz.underlying139
  a232 := Tryz.isAgg139
  z232 := Tryz.sizeOf139
  v232 := Tryz.zeroValue139
  t233 := Tryz.underlying140
  a233 := Tryz.isAgg140
  z233 := Tryz.sizeOf140
  v233 := Tryz.zeroValue140
  g15 := by kernel_rfl
  g16 := by kernel_rfl
  g17 := by kernel_rfl
  g18 := by kernel_rfl
  g19 := by kernel_rfl
  t80 := Tryz.underlying66
  a80 := Tryz.isAgg66
  z80 := Tryz.sizeOf66
  v80 := Tryz.zeroValue66
  i0 := by kernel_rfl
  i2 := by kernel_rfl
  i3 := by kernel_rfl
  i4 := by kernel_rfl
  i5 := by kernel_rfl
  i9 := by kernel_rfl
  i20 := by kernel_rfl
  i37 := by kernel_rfl
  i46 := by kernel_rfl
  i51 := by kernel_rfl
  i53 := by kernel_rfl
  i75 := by kernel_rfl
  i80 := by kernel_rfl
  i127 := by kernel_rfl
  i143 := by kernel_rfl
  i145 := by kernel_rfl
  i167 := by kernel_rfl
  i168 := by kernel_rfl
  i171 := by kernel_rfl
  i173 := by kernel_rfl
  i210 := by kernel_rfl
  i212 := by kernel_rfl
  i232 := by kernel_rfl
  i233 := by kernel_rfl
  m15 := by kernel_rfl
  m16 := by kernel_rfl
  m17 := by kernel_rfl
  m18 := by kernel_rfl
  m19 := by kernel_rfl
  c0 := by kernel_rfl
  c2 := by kernel_rfl
  c3 := by kernel_rfl
  c4 := by kernel_rfl
  c5 := by kernel_rfl
  c9 := by kernel_rfl
  c20 := by kernel_rfl
  c37 := by kernel_rfl
  c46 := by kernel_rfl
  c51 := by kernel_rfl
  c53 := by kernel_rfl
  c75 := by kernel_rfl
  c80 := by kernel_rfl
  c127 := by kernel_rfl
  c143 := by kernel_rfl
  c145 := by kernel_rfl
  c167 := by kernel_rfl
  c168 := by kernel_rfl
  c171 := by kernel_rfl
  c173 := by kernel_rfl
  c210 := by kernel_rfl
  c212 := by kernel_rfl
  c213 := by kernel_rfl
  c232 := by kernel_rfl
  c233 := by kernel_rfl }
open Go.RowKit in
/-- strconv.toError, at the inner package's ErrSyntax: 'syntaxError(fn, s)' as an error: A *NumError IN A NEW BLOCK. (LAID: no walk: one application.) -/
theorem Tryz.strconv_toError_syntax (fn s : ByteArray) (base bits : Int) (ev : Value) (w : World) (hlim : s.size ≤ 281474976710656) (hv : w.cell? ⟨1, 0, none⟩ = some ev) (hev : ev = .nilIface ∨ ∃ te pe, ev = .iface te pe) :
    Calls Tryz.prog 62 #[.string fn, .string s, .int .i64 base, .int .i64 bits, .iface 103 (.int .i64 2)] w fun e w' => ∃ N, e = .returned (.iface 105 (.pointer (some ⟨N, 0, none⟩))) ∧ w.heap.size ≤ N ∧ w'.heap[N]? = some (.cells #[.string fn, .string s, ev] 120 (0, 0)) ∧ Below w.heap.size w w' := Any.strconv_toError_syntax Tryz.laysC245 fn s base bits ev w hlim hv hev
def Tryz.lays321_ren : Go.Shelf.Ren := ⟨fun | 321 => 83 | n => n, fun | 5 => 5 | n => n, fun | n => n⟩
theorem Tryz.lays321 : Go.Proofs.Lays.n321 Tryz.prog Tryz.lays321_ren := {
  mixed := by kernel_rfl
  f321 := Tryz.func83.trans (congrArg some (by kernel_rfl))
  t5 := Tryz.underlying5
  a5 := Tryz.isAgg5
  z5 := Tryz.sizeOf5
  v5 := Tryz.zeroValue5 }
open Go.RowKit in
/-- internal/strconv.lower: 'c | ('x' - 'X')': the bit 32 set. The world is as it was. (LAID: no walk: one application.) -/
theorem Tryz.internal_strconv_lower (c : Int) (w : World) :
    Calls Tryz.prog 83 #[.int .u8 c] w fun e w' => e = .returned (.int .u8 (bits .or .u8 c 32)) ∧ w' = w := Any.internal_strconv_lower Tryz.lays321 c w
def Tryz.laysC172_ren : Go.Shelf.Ren := ⟨fun | 172 => 54 | 244 => 70 | 245 => 62 | 247 => 95 | 279 => 85 | 280 => 86 | 281 => 87 | 282 => 88 | 287 => 61 | 316 => 102 | 171 => 51 | 205 => 103 | 321 => 83 | 322 => 84 | 243 => 67 | 246 => 90 | 283 => 105 | 284 => 106 | 285 => 107 | 286 => 108 | 129 => 80 | 317 => 111 | 318 => 112 | 319 => 113 | 320 => 114 | 337 => 115 | 338 => 116 | n => n, fun | 9 => 9 | 3 => 3 | 75 => 61 | 76 => 68 | 4 => 4 | 5 => 5 | 167 => 103 | 37 => 56 | 0 => 0 | 85 => 111 | 2 => 2 | 168 => 105 | 53 => 63 | 175 => 64 | 46 => 70 | 210 => 120 | 127 => 88 | 145 => 134 | 143 => 132 | 21 => 21 | 171 => 123 | 173 => 125 | 212 => 136 | 51 => 99 | 20 => 20 | 213 => 137 | 232 => 139 | 233 => 140 | 80 => 66 | n => n, fun | 15 => 1 | 16 => 2 | 17 => 3 | 18 => 4 | 19 => 5 | n => n⟩
theorem Tryz.laysC172 : Go.Proofs.LaysC.n172 Tryz.prog Tryz.laysC172_ren := {
  mixed := by kernel_rfl
  f129 := Tryz.func80.trans (congrArg some (by kernel_rfl))
  f171 := Tryz.func51.trans (congrArg some (by kernel_rfl))
  f172 := Tryz.func54.trans (congrArg some (by kernel_rfl))
  f205 := Tryz.func103.trans (congrArg some (by kernel_rfl))
  f243 := Tryz.func67.trans (congrArg some (by kernel_rfl))
  f244 := Tryz.func70.trans (congrArg some (by kernel_rfl))
  f245 := Tryz.func62.trans (congrArg some (by kernel_rfl))
  f246 := Tryz.func90.trans (congrArg some (by kernel_rfl))
  f247 := Tryz.func95.trans (congrArg some (by kernel_rfl))
  f279 := Tryz.func85.trans (congrArg some (by kernel_rfl))
  f280 := Tryz.func86.trans (congrArg some (by kernel_rfl))
  f281 := Tryz.func87.trans (congrArg some (by kernel_rfl))
  f282 := Tryz.func88.trans (congrArg some (by kernel_rfl))
  f283 := Tryz.func105.trans (congrArg some (by kernel_rfl))
  f284 := Tryz.func106.trans (congrArg some (by kernel_rfl))
  f285 := Tryz.func107.trans (congrArg some (by kernel_rfl))
  f286 := Tryz.func108.trans (congrArg some (by kernel_rfl))
  f287 := Tryz.func61.trans (congrArg some (by kernel_rfl))
  f316 := Tryz.func102.trans (congrArg some (by kernel_rfl))
  f317 := Tryz.func111.trans (congrArg some (by kernel_rfl))
  f318 := Tryz.func112.trans (congrArg some (by kernel_rfl))
  f319 := Tryz.func113.trans (congrArg some (by kernel_rfl))
  f320 := Tryz.func114.trans (congrArg some (by kernel_rfl))
  f321 := Tryz.func83.trans (congrArg some (by kernel_rfl))
  f322 := Tryz.func84.trans (congrArg some (by kernel_rfl))
  f337 := Tryz.func115.trans (congrArg some (by kernel_rfl))
  f338 := Tryz.func116.trans (congrArg some (by kernel_rfl))
  t0 := Tryz.underlying0
  a0 := Tryz.isAgg0
  z0 := Tryz.sizeOf0
  v0 := Tryz.zeroValue0
  t2 := Tryz.underlying2
  a2 := Tryz.isAgg2
  z2 := Tryz.sizeOf2
  v2 := Tryz.zeroValue2
  t3 := Tryz.underlying3
  a3 := Tryz.isAgg3
  z3 := Tryz.sizeOf3
  v3 := Tryz.zeroValue3
  t4 := Tryz.underlying4
  a4 := Tryz.isAgg4
  z4 := Tryz.sizeOf4
  v4 := Tryz.zeroValue4
  t5 := Tryz.underlying5
  a5 := Tryz.isAgg5
  z5 := Tryz.sizeOf5
  v5 := Tryz.zeroValue5
  t9 := Tryz.underlying9
  a9 := Tryz.isAgg9
  z9 := Tryz.sizeOf9
  v9 := Tryz.zeroValue9
  t20 := Tryz.underlying20
  a20 := Tryz.isAgg20
  z20 := Tryz.sizeOf20
  v20 := Tryz.zeroValue20
  t21 := Tryz.underlying21
  a21 := Tryz.isAgg21
  z21 := Tryz.sizeOf21
  v21 := Tryz.zeroValue21
  t37 := Tryz.underlying56
  a37 := Tryz.isAgg56
  z37 := Tryz.sizeOf56
  v37 := Tryz.zeroValue56
  t46 := Tryz.underlying70
  a46 := Tryz.isAgg70
  z46 := Tryz.sizeOf70
  v46 := Tryz.zeroValue70
  t51 := Tryz.underlying99
  a51 := Tryz.isAgg99
  z51 := Tryz.sizeOf99
  v51 := Tryz.zeroValue99
  t53 := Tryz.underlying63
  a53 := Tryz.isAgg63
  z53 := Tryz.sizeOf63
  v53 := Tryz.zeroValue63
  t75 := Tryz.underlying61
  a75 := Tryz.isAgg61
  z75 := Tryz.sizeOf61
  v75 := Tryz.zeroValue61
  t76 := Tryz.underlying68
  a76 := Tryz.isAgg68
  z76 := Tryz.sizeOf68
  v76 := Tryz.zeroValue68
  t85 := Tryz.underlying111
  a85 := Tryz.isAgg111
  z85 := Tryz.sizeOf111
  v85 := Tryz.zeroValue111
  t127 := Tryz.underlying88
  a127 := Tryz.isAgg88
  z127 := Tryz.sizeOf88
  v127 := Tryz.zeroValue88
  t143 := Tryz.underlying132
  a143 := Tryz.isAgg132
  z143 := Tryz.sizeOf132
  v143 := Tryz.zeroValue132
  t145 := Tryz.underlying134
  a145 := Tryz.isAgg134
  z145 := Tryz.sizeOf134
  v145 := Tryz.zeroValue134
  t167 := Tryz.underlying103
  a167 := Tryz.isAgg103
  z167 := Tryz.sizeOf103
  v167 := Tryz.zeroValue103
  t168 := Tryz.underlying105
  a168 := Tryz.isAgg105
  z168 := Tryz.sizeOf105
  v168 := Tryz.zeroValue105
  t171 := Tryz.underlying123
  a171 := Tryz.isAgg123
  z171 := Tryz.sizeOf123
  v171 := Tryz.zeroValue123
  t173 := Tryz.underlying125
  a173 := Tryz.isAgg125
  z173 := Tryz.sizeOf125
  v173 := Tryz.zeroValue125
  t175 := Tryz.underlying64
  a175 := Tryz.isAgg64
  z175 := Tryz.sizeOf64
  v175 := Tryz.zeroValue64
  t210 := Tryz.underlying120
  a210 := Tryz.isAgg120
  z210 := Tryz.sizeOf120
  v210 := Tryz.zeroValue120
  t212 := Tryz.underlying136
  a212 := Tryz.isAgg136
  z212 := Tryz.sizeOf136
  v212 := Tryz.zeroValue136
  t213 := Tryz.underlying137
  a213 := Tryz.isAgg137
  z213 := Tryz.sizeOf137
  t232 := Tryz.underlying139
  a232 := Tryz.isAgg139
  z232 := Tryz.sizeOf139
  v232 := Tryz.zeroValue139
  t233 := Tryz.underlying140
  a233 := Tryz.isAgg140
  z233 := Tryz.sizeOf140
  v233 := Tryz.zeroValue140
  g15 := by kernel_rfl
  g16 := by kernel_rfl
  g17 := by kernel_rfl
  g18 := by kernel_rfl
  g19 := by kernel_rfl
  t80 := Tryz.underlying66
  a80 := Tryz.isAgg66
  z80 := Tryz.sizeOf66
  v80 := Tryz.zeroValue66
  i0 := by kernel_rfl
  i2 := by kernel_rfl
  i3 := by kernel_rfl
  i4 := by kernel_rfl
  i5 := by kernel_rfl
  i9 := by kernel_rfl
  i20 := by kernel_rfl
  i21 := by kernel_rfl
  i37 := by kernel_rfl
  i46 := by kernel_rfl
  i51 := by kernel_rfl
  i53 := by kernel_rfl
  i75 := by kernel_rfl
  i76 := by kernel_rfl
  i80 := by kernel_rfl
  i85 := by kernel_rfl
  i127 := by kernel_rfl
  i143 := by kernel_rfl
  i145 := by kernel_rfl
  i167 := by kernel_rfl
  i168 := by kernel_rfl
  i171 := by kernel_rfl
  i173 := by kernel_rfl
  i175 := by kernel_rfl
  i210 := by kernel_rfl
  i212 := by kernel_rfl
  i232 := by kernel_rfl
  i233 := by kernel_rfl
  m15 := by kernel_rfl
  m16 := by kernel_rfl
  m17 := by kernel_rfl
  m18 := by kernel_rfl
  m19 := by kernel_rfl
  c0 := by kernel_rfl
  c2 := by kernel_rfl
  c3 := by kernel_rfl
  c4 := by kernel_rfl
  c5 := by kernel_rfl
  c9 := by kernel_rfl
  c20 := by kernel_rfl
  c21 := by kernel_rfl
  c37 := by kernel_rfl
  c46 := by kernel_rfl
  c51 := by kernel_rfl
  c53 := by kernel_rfl
  c75 := by kernel_rfl
  c76 := by kernel_rfl
  c80 := by kernel_rfl
  c85 := by kernel_rfl
  c127 := by kernel_rfl
  c143 := by kernel_rfl
  c145 := by kernel_rfl
  c167 := by kernel_rfl
  c168 := by kernel_rfl
  c171 := by kernel_rfl
  c173 := by kernel_rfl
  c175 := by kernel_rfl
  c210 := by kernel_rfl
  c212 := by kernel_rfl
  c213 := by kernel_rfl
  c232 := by kernel_rfl
  c233 := by kernel_rfl }
open Go.RowKit in
/-- strconv.Atoi, AT EVERY STRING THAT SPELLS AN int ('Lib.atoiAll .. = .ok v'; of whatever length: leading zeros count): v, AND NO ERROR. The world: as it was, or with the one new row that '[]byte(..)' lays. (LAID: no walk: one application.) -/
theorem Tryz.strconv_Atoi_ok (s : ByteArray) (hmax : s.size ≤ 9223372036854775806) (v : Int) (h : Lib.atoiAll s.data.toList = .ok v) (w : World) :
    Calls Tryz.prog 54 #[.string s] w fun e w' => e = .returned (.tuple #[.int .i64 v, .nilIface]) ∧ (w' = w ∨ ∃ t, w' = Lib.bytesWorld w 5 t) := Any.strconv_Atoi_ok Tryz.laysC172 s hmax v h w
open Go.RowKit in
/-- strconv.Atoi, AT EVERY NUMERAL THAT NO int HOLDS ('.range'): THE GREATEST OR THE LEAST int, BY THE SIGN ('Lib.atoiSat'), AND AN ERROR THAT IS NOT nil: a *NumError in a new block N: {Func: "Atoi", Num: s's bytes, Err: what the variable ErrRange holds}. Of what was there nothing has turned. (LAID: no walk: one application.) -/
theorem Tryz.strconv_Atoi_range (s : ByteArray) (hlim : s.size ≤ 281474976710656) (h : Lib.atoiAll s.data.toList = .range) (ev : Value) (w : World) (hv : w.cell? ⟨2, 0, none⟩ = some ev) (hev : ev = .nilIface ∨ ∃ te pe, ev = .iface te pe) :
    Calls Tryz.prog 54 #[.string s] w fun e w' => ∃ N, e = .returned (.tuple #[.int .i64 (Lib.atoiSat s.data.toList), .iface 105 (.pointer (some ⟨N, 0, none⟩))]) ∧ w.heap.size ≤ N ∧ w'.heap[N]? = some (.cells #[.string ⟨#[65, 116, 111, 105]⟩, .string s, ev] 120 (0, 0)) ∧ Below w.heap.size w w' := Any.strconv_Atoi_range Tryz.laysC172 s hlim h ev w hv hev
def Tryz.lays217_ren : Go.Shelf.Ren := ⟨fun | 217 => 81 | 266 => 101 | n => n, fun | 9 => 9 | 5 => 5 | 3 => 3 | n => n, fun | n => n⟩
theorem Tryz.lays217 : Go.Proofs.Lays.n217 Tryz.prog Tryz.lays217_ren := {
  mixed := by kernel_rfl
  f217 := Tryz.func81.trans (congrArg some (by kernel_rfl))
  f266 := Tryz.func101.trans (congrArg some (by kernel_rfl))
  t3 := Tryz.underlying3
  a3 := Tryz.isAgg3
  z3 := Tryz.sizeOf3
  v3 := Tryz.zeroValue3
  t5 := Tryz.underlying5
  a5 := Tryz.isAgg5
  z5 := Tryz.sizeOf5
  v5 := Tryz.zeroValue5
  t9 := Tryz.underlying9
  a9 := Tryz.isAgg9
  z9 := Tryz.sizeOf9
  v9 := Tryz.zeroValue9 }
open Go.RowKit Go.Lib in
/-- internal/stringslite.IndexByte (what strings.IndexByte calls): IT RETURNS 'Lib.indexByte s c'; the world is as it was. (LAID: no walk: one application.) -/
theorem Tryz.stringslite_IndexByte (s : ByteArray) (c : Int) (w : World) :
    Calls Tryz.prog 81 #[.string s, .int .u8 c] w fun e w' => e = .returned (.int .i64 (Lib.indexByte s.data.toList c.toNat.toUInt8)) ∧ w' = w := Any.stringslite_IndexByte Tryz.lays217 s c w
def Tryz.lays219_ren : Go.Shelf.Ren := ⟨fun | 219 => 68 | 217 => 81 | 225 => 91 | 224 => 92 | 267 => 93 | 266 => 101 | 314 => 109 | n => n, fun | 9 => 9 | 3 => 3 | 4 => 4 | 5 => 5 | 46 => 70 | 146 => 127 | 51 => 99 | n => n, fun | 1 => 0 | n => n⟩
theorem Tryz.lays219 : Go.Proofs.Lays.n219 Tryz.prog Tryz.lays219_ren := {
  mixed := by kernel_rfl
  f217 := Tryz.func81.trans (congrArg some (by kernel_rfl))
  f219 := Tryz.func68.trans (congrArg some (by kernel_rfl))
  f224 := Tryz.func92.trans (congrArg some (by kernel_rfl))
  f225 := Tryz.func91.trans (congrArg some (by kernel_rfl))
  f266 := Tryz.func101.trans (congrArg some (by kernel_rfl))
  f267 := Tryz.func93.trans (congrArg some (by kernel_rfl))
  f314 := Tryz.func109.trans (congrArg some (by kernel_rfl))
  t3 := Tryz.underlying3
  a3 := Tryz.isAgg3
  z3 := Tryz.sizeOf3
  v3 := Tryz.zeroValue3
  t4 := Tryz.underlying4
  a4 := Tryz.isAgg4
  z4 := Tryz.sizeOf4
  v4 := Tryz.zeroValue4
  t5 := Tryz.underlying5
  a5 := Tryz.isAgg5
  z5 := Tryz.sizeOf5
  v5 := Tryz.zeroValue5
  t9 := Tryz.underlying9
  a9 := Tryz.isAgg9
  z9 := Tryz.sizeOf9
  v9 := Tryz.zeroValue9
  t46 := Tryz.underlying70
  a46 := Tryz.isAgg70
  z46 := Tryz.sizeOf70
  v46 := Tryz.zeroValue70
  t51 := Tryz.underlying99
  a51 := Tryz.isAgg99
  z51 := Tryz.sizeOf99
  v51 := Tryz.zeroValue99
  t146 := Tryz.underlying127
  a146 := Tryz.isAgg127
  z146 := Tryz.sizeOf127
  v146 := Tryz.zeroValue127
  g1 := by kernel_rfl }
open Go.RowKit Go.Lib in
/-- internal/stringslite.Index (what strings.Index calls) AT A substr OF ONE BYTE c: IT RETURNS 'Lib.indexByte s c'; the world is as it was. (LAID: no walk: one application.) -/
theorem Tryz.stringslite_Index_one (s : ByteArray) (c : UInt8) (w : World) :
    Calls Tryz.prog 68 #[.string s, .string ⟨#[c]⟩] w fun e w' => e = .returned (.int .i64 (Lib.indexByte s.data.toList c)) ∧ w' = w := Any.stringslite_Index_one Tryz.lays219 s c w
def Tryz.laysGw15_ren : Go.Shelf.Ren := ⟨fun | 15 => 42 | 20 => 63 | n => n, fun | 9 => 9 | 23 => 71 | 3 => 3 | 4 => 4 | 0 => 0 | 21 => 21 | n => n, fun | n => n⟩
theorem Tryz.laysGw15 : Go.Proofs.LaysGw.n15 Tryz.prog Tryz.laysGw15_ren := {
  mixed := by kernel_rfl
  f15 := Tryz.func42.trans (congrArg some (by kernel_rfl))
  f20 := Tryz.func63.trans (congrArg some (by kernel_rfl))
  t0 := Tryz.underlying0
  a0 := Tryz.isAgg0
  z0 := Tryz.sizeOf0
  v0 := Tryz.zeroValue0
  i0 := by kernel_rfl
  t3 := Tryz.underlying3
  a3 := Tryz.isAgg3
  z3 := Tryz.sizeOf3
  v3 := Tryz.zeroValue3
  i3 := by kernel_rfl
  t4 := Tryz.underlying4
  a4 := Tryz.isAgg4
  z4 := Tryz.sizeOf4
  v4 := Tryz.zeroValue4
  i4 := by kernel_rfl
  t9 := Tryz.underlying9
  a9 := Tryz.isAgg9
  z9 := Tryz.sizeOf9
  v9 := Tryz.zeroValue9
  i9 := by kernel_rfl
  t21 := Tryz.underlying21
  a21 := Tryz.isAgg21
  z21 := Tryz.sizeOf21
  v21 := Tryz.zeroValue21
  i21 := by kernel_rfl
  t23 := Tryz.underlying71
  a23 := Tryz.isAgg71
  z23 := Tryz.sizeOf71
  v23 := Tryz.zeroValue71
  i23 := by kernel_rfl }
open Go.RowKit Go.Lib in
theorem Tryz.strings_IndexFunc (g : Nat) (lb : Array Value) (eg : ∀ args w, (callFunc g args).run Tryz.prog w = .ok (.enter g args) w) (p : Nat → Bool) (s : ByteArray) (w : World) (hp : PredAt Tryz.prog g lb encR p w) :
    Calls Tryz.prog 42 #[.string s, .func (.func g) #[] lb] w fun e w' => e = .returned (.int .i64 (Lib.idxFunc p true s)) ∧ Below w.heap.size w w' := Any.strings_IndexFunc Tryz.laysGw15 g lb eg p s w hp
def Tryz.sortF_ren : Go.Shelf.Ren := ⟨fun | 6 => 28 | 15 => 56 | 14 => 55 | 28 => 79 | 29 => 80 | 20 => 71 | 21 => 72 | 22 => 73 | 23 => 74 | 24 => 75 | 25 => 76 | 26 => 77 | 27 => 78 | 46 => 96 | 47 => 97 | 48 => 98 | 49 => 99 | 50 => 100 | 57 => 110 | n => n, fun | 22 => 23 | 24 => 33 | 25 => 51 | 3 => 3 | 39 => 70 | 0 => 0 | 53 => 99 | 55 => 63 | 4 => 4 | 46 => 93 | 45 => 92 | 50 => 84 | 5 => 5 | 9 => 9 | 66 => 113 | 70 => 117 | 76 => 129 | 77 => 130 | n => n, fun | n => n⟩
theorem Tryz.sortF : Go.Proofs.SlLaysF0.n6 Tryz.prog Tryz.sortF_ren := {
  mixed := by kernel_rfl
  f6 := ⟨Tryz.f28.name, by decide, Tryz.func28.trans (congrArg some (by kernel_rfl))⟩
  f14 := ⟨Tryz.f55.name, by decide, Tryz.func55.trans (congrArg some (by kernel_rfl))⟩
  f15 := Tryz.func56.trans (congrArg some (by kernel_rfl))
  f20 := ⟨Tryz.f71.name, by decide, Tryz.func71.trans (congrArg some (by kernel_rfl))⟩
  f21 := ⟨Tryz.f72.name, by decide, Tryz.func72.trans (congrArg some (by kernel_rfl))⟩
  f22 := ⟨Tryz.f73.name, by decide, Tryz.func73.trans (congrArg some (by kernel_rfl))⟩
  f23 := ⟨Tryz.f74.name, by decide, Tryz.func74.trans (congrArg some (by kernel_rfl))⟩
  f24 := ⟨Tryz.f75.name, by decide, Tryz.func75.trans (congrArg some (by kernel_rfl))⟩
  f25 := ⟨Tryz.f76.name, by decide, Tryz.func76.trans (congrArg some (by kernel_rfl))⟩
  f26 := ⟨Tryz.f77.name, by decide, Tryz.func77.trans (congrArg some (by kernel_rfl))⟩
  f27 := ⟨Tryz.f78.name, by decide, Tryz.func78.trans (congrArg some (by kernel_rfl))⟩
  f28 := Tryz.func79.trans (congrArg some (by kernel_rfl))
  f29 := Tryz.func80.trans (congrArg some (by kernel_rfl))
  f46 := ⟨Tryz.f96.name, by decide, Tryz.func96.trans (congrArg some (by kernel_rfl))⟩
  f47 := Tryz.func97.trans (congrArg some (by kernel_rfl))
  f48 := Tryz.func98.trans (congrArg some (by kernel_rfl))
  f49 := ⟨Tryz.f99.name, by decide, Tryz.func99.trans (congrArg some (by kernel_rfl))⟩
  f50 := ⟨Tryz.f100.name, by decide, Tryz.func100.trans (congrArg some (by kernel_rfl))⟩
  f57 := ⟨Tryz.f110.name, by decide, Tryz.func110.trans (congrArg some (by kernel_rfl))⟩
  t0 := Tryz.underlying0
  a0 := Tryz.isAgg0
  z0 := Tryz.sizeOf0
  v0 := Tryz.zeroValue0
  t3 := Tryz.underlying3
  a3 := Tryz.isAgg3
  z3 := Tryz.sizeOf3
  v3 := Tryz.zeroValue3
  t4 := Tryz.underlying4
  a4 := Tryz.isAgg4
  z4 := Tryz.sizeOf4
  v4 := Tryz.zeroValue4
  t5 := Tryz.underlying5
  a5 := Tryz.isAgg5
  z5 := Tryz.sizeOf5
  v5 := Tryz.zeroValue5
  t9 := Tryz.underlying9
  a9 := Tryz.isAgg9
  z9 := Tryz.sizeOf9
  v9 := Tryz.zeroValue9
  t22 := Tryz.underlying23
  a22 := Tryz.isAgg23
  z22 := Tryz.sizeOf23
  v22 := Tryz.zeroValue23
  t25 := Tryz.underlying51
  a25 := Tryz.isAgg51
  z25 := Tryz.sizeOf51
  v25 := Tryz.zeroValue51
  t39 := Tryz.underlying70
  a39 := Tryz.isAgg70
  z39 := Tryz.sizeOf70
  v39 := Tryz.zeroValue70
  t45 := Tryz.underlying92
  a45 := Tryz.isAgg92
  z45 := Tryz.sizeOf92
  v45 := Tryz.zeroValue92
  t46 := Tryz.underlying93
  a46 := Tryz.isAgg93
  z46 := Tryz.sizeOf93
  v46 := Tryz.zeroValue93
  t50 := Tryz.underlying84
  a50 := Tryz.isAgg84
  z50 := Tryz.sizeOf84
  v50 := Tryz.zeroValue84
  t53 := Tryz.underlying99
  a53 := Tryz.isAgg99
  z53 := Tryz.sizeOf99
  v53 := Tryz.zeroValue99
  t55 := Tryz.underlying63
  a55 := Tryz.isAgg63
  z55 := Tryz.sizeOf63
  v55 := Tryz.zeroValue63
  t66 := Tryz.underlying113
  a66 := Tryz.isAgg113
  z66 := Tryz.sizeOf113
  v66 := Tryz.zeroValue113
  t70 := Tryz.underlying117
  a70 := Tryz.isAgg117
  z70 := Tryz.sizeOf117
  v70 := Tryz.zeroValue117
  t76 := Tryz.underlying129
  a76 := Tryz.isAgg129
  z76 := Tryz.sizeOf129
  v76 := Tryz.zeroValue129
  t77 := Tryz.underlying130
  a77 := Tryz.isAgg130
  z77 := Tryz.sizeOf130
  v77 := Tryz.zeroValue130 }
end Go.Proofs
