/-
  DERIVED: THE SHELF's CONTRACTS AT THIS DUMP, IN PLAIN WORDS (tools/lay-plain.mjs out of 'TrydShelf.lean', which tools/lay-shelf.mjs wrote): THE SAME DECLARATIONS UNDER THE SAME NAMES: 'import', 'namespace', 'open', 'def', 'theorem' AND NOTHING ELSE: no command of the shelf's: FOR A HAND-IN. Each laying: the table of numbers ('.._ren') and one theorem, a field a fact of the dump's own or the kernel's comparison; each contract: ONE APPLICATION.
-/
import Derived.Shelf.Strings.Builder1
import Derived.Shelf.Strings.Trim
import Derived.Shelf.Small.Utf8
import Derived.Shelf.Small.Strs
import Derived.Shelf.Utf8.RuneCount
import Derived.Shelf.Strconv.Atoi
import Derived.Shelf.Strconv.Itoa0
import Derived.Shelf.Strconv.Itoa1
import Derived.Shelf.LaysM
import Derived.Shelf.Strconv.Itoa2
import Derived.Shelf.Strconv.Itoa3
import Derived.Shelf.Strconv.Itoa4
import Derived.Shelf.Strconv.AtoiErrFast
import Derived.Shelf.Strconv.ParseIntEmpty
import Derived.Shelf.Strconv.AtoiFail
import Derived.Shelf.Strconv.Clone
import Derived.Shelf.Strconv.SyntaxError
import Derived.Shelf.LaysC
import Derived.Shelf.Strconv.ToError
import Derived.Shelf.Strconv.AtoiErr
import Derived.Shelf.Strconv.ErrVar
import Derived.Shelf.Strconv.Lower
import Derived.Shelf.Strconv.ParseUint10
import Derived.Shelf.Strconv.ParseUint10Empty
import Derived.Shelf.Strconv.ParseUint10Any
import Derived.Shelf.Strconv.ParseInt10
import Derived.Shelf.Strconv.AtoiLong
import Derived.Shelf.Strconv.AtoiInnerAll
import Derived.Shelf.Strconv.RangeError
import Derived.Shelf.Strconv.ToErrorRange
import Derived.Shelf.Strconv.AtoiAll
import Derived.Shelf.Strconv.ErrVarAll
import Derived.Shelf.Strconv.ParseUintEmpty
import Derived.Shelf.Strconv.ParseUint10b64
import Derived.Shelf.Strconv.ParseUint10b32
import Derived.Shelf.Strconv.ParseUint10b16
import Derived.Shelf.Strconv.ParseUint10b8
import Derived.Shelf.Strconv.ParseUint10At
import Derived.Shelf.Strconv.ParseInt10At64
import Derived.Shelf.Strconv.ParseInt10At32
import Derived.Shelf.Strconv.ParseInt10At16
import Derived.Shelf.Strconv.ParseInt10At8
import Derived.Shelf.Strconv.ParseInt10All
import Derived.Shelf.Strconv.ParseIntPublic10
import Derived.Shelf.Strconv.ErrVarParseInt
import Derived.Shelf.Strings.Search1
import Derived.Shelf.Strings.Search2
import Derived.Shelf.Strings.Search3
import Derived.Shelf.Strings.Count
import Derived.Shelf.Strings.Shaped
import Derived.Shelf.Strings.Split
import Derived.Shelf.Strings.SplitShaped
import Derived.Shelf.Unicode.Decode
import Derived.Shelf.Strings.Runes
import Derived.Shelf.Strings.RuneCount
import Derived.Shelf.Strings.AsciiSet
import Derived.Shelf.Strings.Explode
import Derived.Shelf.Unicode.DecodeSlow
import Derived.Shelf.Unicode.DecodeAny
import Derived.Shelf.Unicode.DecodeLast
import Derived.Test.YtakgdmcekhafoaaDoorProg
import Derived.Shelf.Strings.SlTrimAscii
import Derived.Test.YtakgdmcekhafoaaDoorShelf
namespace Go.Proofs
open Go.Shelf
def Tryd.lays160_ren : Go.Shelf.Ren := ⟨fun | 160 => 24 | 232 => 38 | 231 => 37 | 227 => 39 | 234 => 41 | 233 => 40 | 236 => 43 | 235 => 42 | 228 => 56 | 271 => 59 | 151 => 58 | 197 => 57 | 120 => 77 | 152 => 76 | 260 => 75 | 137 => 93 | 119 => 94 | 224 => 91 | 225 => 90 | 217 => 89 | 266 => 97 | n => n, fun | 9 => 9 | 4 => 4 | 3 => 3 | 5 => 5 | 117 => 70 | 116 => 69 | 0 => 0 | 124 => 73 | 21 => 21 | 105 => 87 | 46 => 39 | 119 => 128 | 139 => 131 | 138 => 130 | n => n, fun | 3 => 4 | 4 => 5 | n => n⟩
theorem Tryd.lays160 : Go.Proofs.Lays.n160 Tryd.prog Tryd.lays160_ren := {
  mixed := by kernel_rfl
  f119 := Tryd.func94.trans (congrArg some (by kernel_rfl))
  f120 := Tryd.func77.trans (congrArg some (by kernel_rfl))
  f137 := Tryd.func93.trans (congrArg some (by kernel_rfl))
  f151 := Tryd.func58.trans (congrArg some (by kernel_rfl))
  f152 := Tryd.func76.trans (congrArg some (by kernel_rfl))
  f160 := Tryd.func24.trans (congrArg some (by kernel_rfl))
  f197 := Tryd.func57.trans (congrArg some (by kernel_rfl))
  f217 := Tryd.func89.trans (congrArg some (by kernel_rfl))
  f224 := Tryd.func91.trans (congrArg some (by kernel_rfl))
  f225 := Tryd.func90.trans (congrArg some (by kernel_rfl))
  f227 := Tryd.func39.trans (congrArg some (by kernel_rfl))
  f228 := Tryd.func56.trans (congrArg some (by kernel_rfl))
  f231 := Tryd.func37.trans (congrArg some (by kernel_rfl))
  f232 := Tryd.func38.trans (congrArg some (by kernel_rfl))
  f233 := Tryd.func40.trans (congrArg some (by kernel_rfl))
  f234 := Tryd.func41.trans (congrArg some (by kernel_rfl))
  f235 := Tryd.func42.trans (congrArg some (by kernel_rfl))
  f236 := Tryd.func43.trans (congrArg some (by kernel_rfl))
  f260 := Tryd.func75.trans (congrArg some (by kernel_rfl))
  f266 := Tryd.func97.trans (congrArg some (by kernel_rfl))
  f271 := Tryd.func59.trans (congrArg some (by kernel_rfl))
  t0 := Tryd.underlying0
  a0 := Tryd.isAgg0
  z0 := Tryd.sizeOf0
  v0 := Tryd.zeroValue0
  t3 := Tryd.underlying3
  a3 := Tryd.isAgg3
  z3 := Tryd.sizeOf3
  v3 := Tryd.zeroValue3
  t4 := Tryd.underlying4
  a4 := Tryd.isAgg4
  z4 := Tryd.sizeOf4
  v4 := Tryd.zeroValue4
  t5 := Tryd.underlying5
  a5 := Tryd.isAgg5
  z5 := Tryd.sizeOf5
  v5 := Tryd.zeroValue5
  t9 := Tryd.underlying9
  a9 := Tryd.isAgg9
  z9 := Tryd.sizeOf9
  v9 := Tryd.zeroValue9
  t21 := Tryd.underlying21
  a21 := Tryd.isAgg21
  z21 := Tryd.sizeOf21
  v21 := Tryd.zeroValue21
  t46 := Tryd.underlying39
  a46 := Tryd.isAgg39
  z46 := Tryd.sizeOf39
  v46 := Tryd.zeroValue39
  t105 := Tryd.underlying87
  a105 := Tryd.isAgg87
  z105 := Tryd.sizeOf87
  v105 := Tryd.zeroValue87
  t116 := Tryd.underlying69
  a116 := Tryd.isAgg69
  z116 := Tryd.sizeOf69
  t117 := Tryd.underlying70
  a117 := Tryd.isAgg70
  z117 := Tryd.sizeOf70
  v117 := Tryd.zeroValue70
  t119 := Tryd.underlying128
  a119 := Tryd.isAgg128
  z119 := Tryd.sizeOf128
  t124 := Tryd.underlying73
  a124 := Tryd.isAgg73
  z124 := Tryd.sizeOf73
  v124 := Tryd.zeroValue73
  t138 := Tryd.underlying130
  a138 := Tryd.isAgg130
  z138 := Tryd.sizeOf130
  v138 := Tryd.zeroValue130
  t139 := Tryd.underlying131
  a139 := Tryd.isAgg131
  z139 := Tryd.sizeOf131
  v139 := Tryd.zeroValue131
  g3 := by kernel_rfl
  g4 := by kernel_rfl }
open Go.RowKit in
/-- strings.Trim: "Trim returns a slice of the string s with all leading and trailing Unicode code points contained in cutset removed.": AT A cutset OF ONE ASCII BYTE. THE WORLD BEHIND IT: as it was, or (where s is not empty) with ONE DRAW MORE off the tape: the statement 'return trimLeftByte(trimRightByte(s, c), c)' draws its order of evaluation. (LAID: no walk: one application.) -/
theorem Tryd.strings_Trim_one (s : ByteArray) (c : UInt8) (hc : c.toNat < 128) (w : World) (hs : s.size ≤ 9223372036854775807) :
    Calls Tryd.prog 24 #[.string s, .string ⟨#[c]⟩] w fun e w' => e = .returned (.string ⟨(Lib.trimB s.data.toList c).toArray⟩) ∧ (w' = w ∨ w' = w.drew) := Any.strings_Trim_one Tryd.lays160 s c hc w hs
open Go.RowKit in
/-- strconv.Atoi, AT EVERY STRING THAT SPELLS AN int ('Lib.atoiAll .. = .ok v'; of whatever length: leading zeros count): v, AND NO ERROR. The world: as it was, or with the one new row that '[]byte(..)' lays. (LAID: no walk: one application.) -/
theorem Tryd.strconv_Atoi_ok (s : ByteArray) (hmax : s.size ≤ 9223372036854775806) (v : Int) (h : Lib.atoiAll s.data.toList = .ok v) (w : World) :
    Calls Tryd.prog 26 #[.string s] w fun e w' => e = .returned (.tuple #[.int .i64 v, .nilIface]) ∧ (w' = w ∨ ∃ t, w' = Lib.bytesWorld w 5 t) := Any.strconv_Atoi_ok Tryd.laysC172 s hmax v h w
def Tryd.laysC174_ren : Go.Shelf.Ren := ⟨fun | 174 => 25 | 247 => 44 | 245 => 45 | 287 => 60 | 279 => 61 | 280 => 62 | 281 => 63 | 282 => 64 | 321 => 78 | 322 => 79 | 316 => 80 | 171 => 33 | 205 => 81 | 243 => 49 | 246 => 48 | 283 => 66 | 284 => 67 | 285 => 68 | 286 => 69 | 129 => 83 | 317 => 82 | 318 => 84 | 319 => 85 | 320 => 86 | 337 => 95 | 338 => 96 | n => n, fun | 9 => 9 | 3 => 3 | 2 => 2 | 75 => 54 | 85 => 55 | 4 => 4 | 167 => 90 | 5 => 5 | 53 => 48 | 175 => 91 | 46 => 39 | 168 => 93 | 37 => 22 | 0 => 0 | 210 => 116 | 21 => 21 | 127 => 108 | 145 => 135 | 143 => 133 | 171 => 100 | 173 => 103 | 212 => 120 | 51 => 96 | 20 => 20 | 213 => 121 | 232 => 139 | 233 => 75 | 80 => 45 | n => n, fun | 15 => 0 | 16 => 1 | 17 => 2 | 18 => 6 | 19 => 7 | n => n⟩
theorem Tryd.laysC174 : Go.Proofs.LaysC.n174 Tryd.prog Tryd.laysC174_ren := {
  mixed := by kernel_rfl
  f129 := Tryd.func83.trans (congrArg some (by kernel_rfl))
  f171 := Tryd.func33.trans (congrArg some (by kernel_rfl))
  f174 := Tryd.func25.trans (congrArg some (by kernel_rfl))
  f205 := Tryd.func81.trans (congrArg some (by kernel_rfl))
  f243 := Tryd.func49.trans (congrArg some (by kernel_rfl))
  f245 := Tryd.func45.trans (congrArg some (by kernel_rfl))
  f246 := Tryd.func48.trans (congrArg some (by kernel_rfl))
  f247 := Tryd.func44.trans (congrArg some (by kernel_rfl))
  f279 := Tryd.func61.trans (congrArg some (by kernel_rfl))
  f280 := Tryd.func62.trans (congrArg some (by kernel_rfl))
  f281 := Tryd.func63.trans (congrArg some (by kernel_rfl))
  f282 := Tryd.func64.trans (congrArg some (by kernel_rfl))
  f283 := Tryd.func66.trans (congrArg some (by kernel_rfl))
  f284 := Tryd.func67.trans (congrArg some (by kernel_rfl))
  f285 := Tryd.func68.trans (congrArg some (by kernel_rfl))
  f286 := Tryd.func69.trans (congrArg some (by kernel_rfl))
  f287 := Tryd.func60.trans (congrArg some (by kernel_rfl))
  f316 := Tryd.func80.trans (congrArg some (by kernel_rfl))
  f317 := Tryd.func82.trans (congrArg some (by kernel_rfl))
  f318 := Tryd.func84.trans (congrArg some (by kernel_rfl))
  f319 := Tryd.func85.trans (congrArg some (by kernel_rfl))
  f320 := Tryd.func86.trans (congrArg some (by kernel_rfl))
  f321 := Tryd.func78.trans (congrArg some (by kernel_rfl))
  f322 := Tryd.func79.trans (congrArg some (by kernel_rfl))
  f337 := Tryd.func95.trans (congrArg some (by kernel_rfl))
  f338 := Tryd.func96.trans (congrArg some (by kernel_rfl))
  t0 := Tryd.underlying0
  a0 := Tryd.isAgg0
  z0 := Tryd.sizeOf0
  v0 := Tryd.zeroValue0
  t2 := Tryd.underlying2
  a2 := Tryd.isAgg2
  z2 := Tryd.sizeOf2
  v2 := Tryd.zeroValue2
  t3 := Tryd.underlying3
  a3 := Tryd.isAgg3
  z3 := Tryd.sizeOf3
  v3 := Tryd.zeroValue3
  t4 := Tryd.underlying4
  a4 := Tryd.isAgg4
  z4 := Tryd.sizeOf4
  v4 := Tryd.zeroValue4
  t5 := Tryd.underlying5
  a5 := Tryd.isAgg5
  z5 := Tryd.sizeOf5
  v5 := Tryd.zeroValue5
  t9 := Tryd.underlying9
  a9 := Tryd.isAgg9
  z9 := Tryd.sizeOf9
  v9 := Tryd.zeroValue9
  t20 := Tryd.underlying20
  a20 := Tryd.isAgg20
  z20 := Tryd.sizeOf20
  v20 := Tryd.zeroValue20
  t21 := Tryd.underlying21
  a21 := Tryd.isAgg21
  z21 := Tryd.sizeOf21
  v21 := Tryd.zeroValue21
  t37 := Tryd.underlying22
  a37 := Tryd.isAgg22
  z37 := Tryd.sizeOf22
  v37 := Tryd.zeroValue22
  t46 := Tryd.underlying39
  a46 := Tryd.isAgg39
  z46 := Tryd.sizeOf39
  v46 := Tryd.zeroValue39
  t51 := Tryd.underlying96
  a51 := Tryd.isAgg96
  z51 := Tryd.sizeOf96
  v51 := Tryd.zeroValue96
  t53 := Tryd.underlying48
  a53 := Tryd.isAgg48
  z53 := Tryd.sizeOf48
  v53 := Tryd.zeroValue48
  t75 := Tryd.underlying54
  a75 := Tryd.isAgg54
  z75 := Tryd.sizeOf54
  v75 := Tryd.zeroValue54
  t85 := Tryd.underlying55
  a85 := Tryd.isAgg55
  z85 := Tryd.sizeOf55
  v85 := Tryd.zeroValue55
  t127 := Tryd.underlying108
  a127 := Tryd.isAgg108
  z127 := Tryd.sizeOf108
  v127 := Tryd.zeroValue108
  t143 := Tryd.underlying133
  a143 := Tryd.isAgg133
  z143 := Tryd.sizeOf133
  v143 := Tryd.zeroValue133
  t145 := Tryd.underlying135
  a145 := Tryd.isAgg135
  z145 := Tryd.sizeOf135
  v145 := Tryd.zeroValue135
  t167 := Tryd.underlying90
  a167 := Tryd.isAgg90
  z167 := Tryd.sizeOf90
  v167 := Tryd.zeroValue90
  t168 := Tryd.underlying93
  a168 := Tryd.isAgg93
  z168 := Tryd.sizeOf93
  v168 := Tryd.zeroValue93
  t171 := Tryd.underlying100
  a171 := Tryd.isAgg100
  z171 := Tryd.sizeOf100
  v171 := Tryd.zeroValue100
  t173 := Tryd.underlying103
  a173 := Tryd.isAgg103
  z173 := Tryd.sizeOf103
  v173 := Tryd.zeroValue103
  t175 := Tryd.underlying91
  a175 := Tryd.isAgg91
  z175 := Tryd.sizeOf91
  v175 := Tryd.zeroValue91
  t210 := Tryd.underlying116
  a210 := Tryd.isAgg116
  z210 := Tryd.sizeOf116
  v210 := Tryd.zeroValue116
  t212 := Tryd.underlying120
  a212 := Tryd.isAgg120
  z212 := Tryd.sizeOf120
  v212 := Tryd.zeroValue120
  t213 := Tryd.underlying121
  a213 := Tryd.isAgg121
  z213 := Tryd.sizeOf121
  t232 := Tryd.underlying139
  a232 := Tryd.isAgg139
  z232 := Tryd.sizeOf139
  v232 := Tryd.zeroValue139
  t233 := Tryd.underlying75
  a233 := Tryd.isAgg75
  z233 := Tryd.sizeOf75
  v233 := Tryd.zeroValue75
  g15 := by kernel_rfl
  g16 := by kernel_rfl
  g17 := by kernel_rfl
  g18 := by kernel_rfl
  g19 := by kernel_rfl
  t80 := Tryd.underlying45
  a80 := Tryd.isAgg45
  z80 := Tryd.sizeOf45
  v80 := Tryd.zeroValue45
  i0 := by kernel_rfl
  i2 := by kernel_rfl
  i3 := by kernel_rfl
  i4 := by kernel_rfl
  i5 := by kernel_rfl
  i9 := by kernel_rfl
  i20 := by kernel_rfl
  i21 := by kernel_rfl
  i37 := by kernel_rfl
  i46 := by kernel_rfl
  i51 := by kernel_rfl
  i53 := by kernel_rfl
  i75 := by kernel_rfl
  i80 := by kernel_rfl
  i85 := by kernel_rfl
  i127 := by kernel_rfl
  i143 := by kernel_rfl
  i145 := by kernel_rfl
  i167 := by kernel_rfl
  i168 := by kernel_rfl
  i171 := by kernel_rfl
  i173 := by kernel_rfl
  i175 := by kernel_rfl
  i210 := by kernel_rfl
  i212 := by kernel_rfl
  i232 := by kernel_rfl
  i233 := by kernel_rfl
  m15 := by kernel_rfl
  m16 := by kernel_rfl
  m17 := by kernel_rfl
  m18 := by kernel_rfl
  m19 := by kernel_rfl
  c0 := by kernel_rfl
  c2 := by kernel_rfl
  c3 := by kernel_rfl
  c4 := by kernel_rfl
  c5 := by kernel_rfl
  c9 := by kernel_rfl
  c20 := by kernel_rfl
  c21 := by kernel_rfl
  c37 := by kernel_rfl
  c46 := by kernel_rfl
  c51 := by kernel_rfl
  c53 := by kernel_rfl
  c75 := by kernel_rfl
  c80 := by kernel_rfl
  c85 := by kernel_rfl
  c127 := by kernel_rfl
  c143 := by kernel_rfl
  c145 := by kernel_rfl
  c167 := by kernel_rfl
  c168 := by kernel_rfl
  c171 := by kernel_rfl
  c173 := by kernel_rfl
  c175 := by kernel_rfl
  c210 := by kernel_rfl
  c212 := by kernel_rfl
  c213 := by kernel_rfl
  c232 := by kernel_rfl
  c233 := by kernel_rfl }
open Go.RowKit in
/-- strconv.ParseInt(s, 10, 64), AT EVERY STRING THAT SPELLS AN int64 ('Lib.parseIntB 64 s.data.toList = .ok v'): v, AND NO ERROR. (LAID: no walk: one application.) -/
theorem Tryd.strconv_ParseInt_10_at64_ok (s : ByteArray) (hmax : s.size ≤ 9223372036854775806) (v : Int) (h : Lib.parseIntB 64 s.data.toList = .ok v) (w : World) :
    Calls Tryd.prog 25 #[.string s, .int .i64 10, .int .i64 64] w fun e w' => e = .returned (.tuple #[.int .i64 v, .nilIface]) ∧ (w' = w ∨ ∃ t, w' = Lib.bytesWorld w 5 t) := Any.strconv_ParseInt_10_at64_ok Tryd.laysC174 s hmax v h w
end Go.Proofs
