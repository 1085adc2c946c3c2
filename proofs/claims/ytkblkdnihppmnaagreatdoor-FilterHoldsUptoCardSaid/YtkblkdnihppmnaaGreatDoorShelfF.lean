/-
  DERIVED: THE SHELF's CONTRACTS AT THIS DUMP, IN PLAIN WORDS (tools/lay-plain.mjs out of 'TryzShelf.lean', which tools/lay-shelf.mjs wrote): THE SAME DECLARATIONS UNDER THE SAME NAMES: 'import', 'namespace', 'open', 'def', 'theorem' AND NOTHING ELSE: no command of the shelf's: FOR A HAND-IN. Each laying: the table of numbers ('.._ren') and one theorem, a field a fact of the dump's own or the kernel's comparison; each contract: ONE APPLICATION.
-/
import Derived.Shelf.Strings.Trim
import Derived.Shelf.Small.Utf8
import Derived.Shelf.Small.Strs
import Derived.Shelf.Strconv.Itoa0
import Derived.Shelf.Strconv.Itoa1
import Derived.Shelf.LaysM
import Derived.Shelf.Strconv.Itoa2
import Derived.Shelf.Strconv.Itoa3
import Derived.Shelf.Strconv.Itoa4
import Derived.Shelf.Strconv.ParseIntEmpty
import Derived.Shelf.Strconv.Clone
import Derived.Shelf.Strconv.SyntaxError
import Derived.Shelf.LaysC
import Derived.Shelf.Strconv.ToError
import Derived.Shelf.Strconv.Lower
import Derived.Shelf.Strconv.ParseUint10
import Derived.Shelf.Strconv.ParseUint10Empty
import Derived.Shelf.Strconv.ParseUint10Any
import Derived.Shelf.Strconv.ParseInt10
import Derived.Shelf.Strconv.RangeError
import Derived.Shelf.Strconv.ToErrorRange
import Derived.Shelf.Strconv.ParseUintEmpty
import Derived.Shelf.Strconv.ParseUint10b64
import Derived.Shelf.Strconv.ParseUint10b32
import Derived.Shelf.Strconv.ParseUint10b16
import Derived.Shelf.Strconv.ParseUint10b8
import Derived.Shelf.Strconv.ParseUint10At
import Derived.Shelf.Strconv.ParseInt10At64
import Derived.Shelf.Strconv.ParseInt10At32
import Derived.Shelf.Strconv.ParseInt10At16
import Derived.Shelf.Strconv.ParseInt10At8
import Derived.Shelf.Strconv.ParseInt10All
import Derived.Shelf.Strconv.ParseIntPublic10
import Derived.Shelf.Strings.Search1
import Derived.Shelf.Strings.Fields
import Derived.Shelf.Unicode.Latin
import Derived.Shelf.Unicode.DecodeSlow
import Derived.Shelf.Unicode.DecodeAny
import Derived.Shelf.Unicode.Is16White
import Derived.Shelf.Unicode.IsSpaceAny
import Derived.Shelf.Unicode.DecodeLast
import Derived.Shelf.Unicode.Is16WhiteD
import Derived.Shelf.Unicode.IsSpaceAnyD
import Derived.Shelf.Strings.FieldsAny
import Derived.Shelf.Strings.FieldsFuncAny
import Derived.Test.YtkblkdnihppmnaaGreatDoorProg
namespace Go.Proofs
def Tryz.lays160_ren : Go.Shelf.Ren := ⟨fun | 160 => 73 | 232 => 80 | 231 => 79 | 227 => 81 | 234 => 83 | 233 => 82 | 236 => 85 | 235 => 84 | 228 => 88 | 271 => 91 | 151 => 90 | 197 => 89 | 120 => 95 | 152 => 94 | 260 => 93 | 137 => 36 | 119 => 98 | 224 => 99 | 225 => 100 | 217 => 48 | 266 => 60 | n => n, fun | 9 => 9 | 4 => 4 | 3 => 3 | 5 => 5 | 117 => 129 | 116 => 128 | 0 => 0 | 124 => 132 | 21 => 21 | 105 => 138 | 46 => 92 | 119 => 135 | 139 => 160 | 138 => 159 | n => n, fun | 3 => 8 | 4 => 9 | n => n⟩
theorem Tryz.lays160 : Go.Proofs.Lays.n160 Tryz.prog Tryz.lays160_ren := {
  mixed := by kernel_rfl
  f119 := Tryz.func98.trans (congrArg some (by kernel_rfl))
  f120 := Tryz.func95.trans (congrArg some (by kernel_rfl))
  f137 := Tryz.func36.trans (congrArg some (by kernel_rfl))
  f151 := Tryz.func90.trans (congrArg some (by kernel_rfl))
  f152 := Tryz.func94.trans (congrArg some (by kernel_rfl))
  f160 := Tryz.func73.trans (congrArg some (by kernel_rfl))
  f197 := Tryz.func89.trans (congrArg some (by kernel_rfl))
  f217 := Tryz.func48.trans (congrArg some (by kernel_rfl))
  f224 := Tryz.func99.trans (congrArg some (by kernel_rfl))
  f225 := Tryz.func100.trans (congrArg some (by kernel_rfl))
  f227 := Tryz.func81.trans (congrArg some (by kernel_rfl))
  f228 := Tryz.func88.trans (congrArg some (by kernel_rfl))
  f231 := Tryz.func79.trans (congrArg some (by kernel_rfl))
  f232 := Tryz.func80.trans (congrArg some (by kernel_rfl))
  f233 := Tryz.func82.trans (congrArg some (by kernel_rfl))
  f234 := Tryz.func83.trans (congrArg some (by kernel_rfl))
  f235 := Tryz.func84.trans (congrArg some (by kernel_rfl))
  f236 := Tryz.func85.trans (congrArg some (by kernel_rfl))
  f260 := Tryz.func93.trans (congrArg some (by kernel_rfl))
  f266 := Tryz.func60.trans (congrArg some (by kernel_rfl))
  f271 := Tryz.func91.trans (congrArg some (by kernel_rfl))
  t0 := Tryz.underlying0
  a0 := Tryz.isAgg0
  z0 := Tryz.sizeOf0
  v0 := Tryz.zeroValue0
  t3 := Tryz.underlying3
  a3 := Tryz.isAgg3
  z3 := Tryz.sizeOf3
  v3 := Tryz.zeroValue3
  t4 := Tryz.underlying4
  a4 := Tryz.isAgg4
  z4 := Tryz.sizeOf4
  v4 := Tryz.zeroValue4
  t5 := Tryz.underlying5
  a5 := Tryz.isAgg5
  z5 := Tryz.sizeOf5
  v5 := Tryz.zeroValue5
  t9 := Tryz.underlying9
  a9 := Tryz.isAgg9
  z9 := Tryz.sizeOf9
  v9 := Tryz.zeroValue9
  t21 := Tryz.underlying21
  a21 := Tryz.isAgg21
  z21 := Tryz.sizeOf21
  v21 := Tryz.zeroValue21
  t46 := Tryz.underlying92
  a46 := Tryz.isAgg92
  z46 := Tryz.sizeOf92
  v46 := Tryz.zeroValue92
  t105 := Tryz.underlying138
  a105 := Tryz.isAgg138
  z105 := Tryz.sizeOf138
  v105 := Tryz.zeroValue138
  t116 := Tryz.underlying128
  a116 := Tryz.isAgg128
  z116 := Tryz.sizeOf128
  t117 := Tryz.underlying129
  a117 := Tryz.isAgg129
  z117 := Tryz.sizeOf129
  v117 := Tryz.zeroValue129
  t119 := Tryz.underlying135
  a119 := Tryz.isAgg135
  z119 := Tryz.sizeOf135
  t124 := Tryz.underlying132
  a124 := Tryz.isAgg132
  z124 := Tryz.sizeOf132
  v124 := Tryz.zeroValue132
  t138 := Tryz.underlying159
  a138 := Tryz.isAgg159
  z138 := Tryz.sizeOf159
  v138 := Tryz.zeroValue159
  t139 := Tryz.underlying160
  a139 := Tryz.isAgg160
  z139 := Tryz.sizeOf160
  v139 := Tryz.zeroValue160
  g3 := by kernel_rfl
  g4 := by kernel_rfl }
open Go.RowKit in
theorem Tryz.strings_Trim_one (s : ByteArray) (c : UInt8) (hc : c.toNat < 128) (w : World) (hs : s.size ≤ 9223372036854775807) :
    Calls Tryz.prog 73 #[.string s, .string ⟨#[c]⟩] w fun e w' => e = .returned (.string ⟨(Lib.trimB s.data.toList c).toArray⟩) ∧ (w' = w ∨ w' = w.drew) := Any.strings_Trim_one Tryz.lays160 s c hc w hs
def Tryz.lays106_ren : Go.Shelf.Ren := ⟨fun | 106 => 132 | 213 => 133 | 265 => 134 | n => n, fun | 9 => 9 | 3 => 3 | n => n, fun | n => n⟩
theorem Tryz.lays106 : Go.Proofs.Lays.n106 Tryz.prog Tryz.lays106_ren := {
  mixed := by kernel_rfl
  f106 := Tryz.func132.trans (congrArg some (by kernel_rfl))
  f213 := Tryz.func133.trans (congrArg some (by kernel_rfl))
  f265 := Tryz.func134.trans (congrArg some (by kernel_rfl))
  t3 := Tryz.underlying3
  a3 := Tryz.isAgg3
  z3 := Tryz.sizeOf3
  v3 := Tryz.zeroValue3
  t9 := Tryz.underlying9
  a9 := Tryz.isAgg9
  z9 := Tryz.sizeOf9
  v9 := Tryz.zeroValue9 }
open Go.RowKit in
theorem Tryz.strings_Compare (a b : ByteArray) (w : World) :
    Calls Tryz.prog 132 #[.string a, .string b] w fun e w' => e = .returned (.int .i64 (Lib.compareBytes a.data.toList b.data.toList)) ∧ w' = w := Any.strings_Compare Tryz.lays106 a b w
def Tryz.lays137_ren : Go.Shelf.Ren := ⟨fun | 137 => 36 | 217 => 48 | 266 => 60 | n => n, fun | 9 => 9 | 5 => 5 | 3 => 3 | n => n, fun | n => n⟩
theorem Tryz.lays137 : Go.Proofs.Lays.n137 Tryz.prog Tryz.lays137_ren := {
  mixed := by kernel_rfl
  f137 := Tryz.func36.trans (congrArg some (by kernel_rfl))
  f217 := Tryz.func48.trans (congrArg some (by kernel_rfl))
  f266 := Tryz.func60.trans (congrArg some (by kernel_rfl))
  t3 := Tryz.underlying3
  a3 := Tryz.isAgg3
  z3 := Tryz.sizeOf3
  v3 := Tryz.zeroValue3
  t5 := Tryz.underlying5
  a5 := Tryz.isAgg5
  z5 := Tryz.sizeOf5
  v5 := Tryz.zeroValue5
  t9 := Tryz.underlying9
  a9 := Tryz.isAgg9
  z9 := Tryz.sizeOf9
  v9 := Tryz.zeroValue9 }
open Go.RowKit in
theorem Tryz.strings_IndexByte (s : ByteArray) (c : Int) (w : World) :
    Calls Tryz.prog 36 #[.string s, .int .u8 c] w fun e w' => e = .returned (.int .i64 (Lib.indexByte s.data.toList c.toNat.toUInt8)) ∧ w' = w := Any.strings_IndexByte Tryz.lays137 s c w
def Tryz.laysM173_ren : Go.Shelf.Ren := ⟨fun | 173 => 35 | 246 => 47 | 283 => 56 | 284 => 57 | 285 => 58 | 286 => 59 | 129 => 68 | 317 => 67 | 318 => 69 | 319 => 70 | 320 => 71 | 337 => 76 | 338 => 77 | n => n, fun | 2 => 2 | 3 => 3 | 9 => 9 | 4 => 4 | 171 => 97 | 0 => 0 | 53 => 88 | 37 => 84 | 5 => 5 | 173 => 100 | 212 => 109 | 51 => 110 | 20 => 20 | 213 => 111 | 46 => 92 | 232 => 133 | 233 => 134 | n => n, fun | 17 => 2 | 18 => 4 | 19 => 5 | n => n⟩
theorem Tryz.laysM173 : Go.Proofs.LaysM.n173 Tryz.prog Tryz.laysM173_ren := {
  mixed := by kernel_rfl
  f129 := Tryz.func68.trans (congrArg some (by kernel_rfl))
  f173 := Tryz.func35.trans (congrArg some (by kernel_rfl))
  f246 := Tryz.func47.trans (congrArg some (by kernel_rfl))
  f283 := Tryz.func56.trans (congrArg some (by kernel_rfl))
  f284 := Tryz.func57.trans (congrArg some (by kernel_rfl))
  f285 := Tryz.func58.trans (congrArg some (by kernel_rfl))
  f286 := Tryz.func59.trans (congrArg some (by kernel_rfl))
  f317 := Tryz.func67.trans (congrArg some (by kernel_rfl))
  f318 := Tryz.func69.trans (congrArg some (by kernel_rfl))
  f319 := Tryz.func70.trans (congrArg some (by kernel_rfl))
  f320 := Tryz.func71.trans (congrArg some (by kernel_rfl))
  f337 := Tryz.func76.trans (congrArg some (by kernel_rfl))
  f338 := Tryz.func77.trans (congrArg some (by kernel_rfl))
  t0 := Tryz.underlying0
  a0 := Tryz.isAgg0
  z0 := Tryz.sizeOf0
  v0 := Tryz.zeroValue0
  t2 := Tryz.underlying2
  a2 := Tryz.isAgg2
  z2 := Tryz.sizeOf2
  v2 := Tryz.zeroValue2
  t3 := Tryz.underlying3
  a3 := Tryz.isAgg3
  z3 := Tryz.sizeOf3
  v3 := Tryz.zeroValue3
  t4 := Tryz.underlying4
  a4 := Tryz.isAgg4
  z4 := Tryz.sizeOf4
  v4 := Tryz.zeroValue4
  t5 := Tryz.underlying5
  a5 := Tryz.isAgg5
  z5 := Tryz.sizeOf5
  v5 := Tryz.zeroValue5
  t9 := Tryz.underlying9
  a9 := Tryz.isAgg9
  z9 := Tryz.sizeOf9
  v9 := Tryz.zeroValue9
  t20 := Tryz.underlying20
  a20 := Tryz.isAgg20
  z20 := Tryz.sizeOf20
  v20 := Tryz.zeroValue20
  t37 := Tryz.underlying84
  a37 := Tryz.isAgg84
  z37 := Tryz.sizeOf84
  v37 := Tryz.zeroValue84
  t46 := Tryz.underlying92
  a46 := Tryz.isAgg92
  z46 := Tryz.sizeOf92
  v46 := Tryz.zeroValue92
  t51 := Tryz.underlying110
  a51 := Tryz.isAgg110
  z51 := Tryz.sizeOf110
  v51 := Tryz.zeroValue110
  t53 := Tryz.underlying88
  a53 := Tryz.isAgg88
  z53 := Tryz.sizeOf88
  v53 := Tryz.zeroValue88
  t171 := Tryz.underlying97
  a171 := Tryz.isAgg97
  z171 := Tryz.sizeOf97
  v171 := Tryz.zeroValue97
  t173 := Tryz.underlying100
  a173 := Tryz.isAgg100
  z173 := Tryz.sizeOf100
  v173 := Tryz.zeroValue100
  t212 := Tryz.underlying109
  a212 := Tryz.isAgg109
  z212 := Tryz.sizeOf109
  v212 := Tryz.zeroValue109
  t213 := Tryz.underlying111
  a213 := Tryz.isAgg111
  z213 := Tryz.sizeOf111
  t232 := Tryz.underlying133
  a232 := Tryz.isAgg133
  z232 := Tryz.sizeOf133
  v232 := Tryz.zeroValue133
  t233 := Tryz.underlying134
  a233 := Tryz.isAgg134
  z233 := Tryz.sizeOf134
  v233 := Tryz.zeroValue134
  g17 := by kernel_rfl
  g18 := by kernel_rfl
  g19 := by kernel_rfl
  i0 := by kernel_rfl
  i2 := by kernel_rfl
  i3 := by kernel_rfl
  i4 := by kernel_rfl
  i5 := by kernel_rfl
  i9 := by kernel_rfl
  i20 := by kernel_rfl
  i37 := by kernel_rfl
  i46 := by kernel_rfl
  i51 := by kernel_rfl
  i53 := by kernel_rfl
  i171 := by kernel_rfl
  i173 := by kernel_rfl
  i212 := by kernel_rfl
  i232 := by kernel_rfl
  i233 := by kernel_rfl
  m17 := by kernel_rfl
  m18 := by kernel_rfl
  m19 := by kernel_rfl }
open Go.RowKit Go.Sort Go.Lib in
theorem Tryz.strconv_FormatInt_10 (n : Int) (h0 : -9223372036854775808 ≤ n) (h1 : n ≤ 9223372036854775807) (w : World) (htab : Lib.TabIs Tryz.prog w "internal/strconv.uint64pow10" .u64 Lib.pow10Tab) :
    Calls Tryz.prog 35 #[.int .i64 n, .int .i64 10] w fun e w' => e = .returned (.string ⟨(Lib.itoa n).toArray⟩) ∧ ∃ k os, w' = grow (w.drewN k) os := Any.strconv_FormatInt_10 Tryz.laysM173 n h0 h1 w htab
def Tryz.laysM316_ren : Go.Shelf.Ren := ⟨fun | 316 => 28 | n => n, fun | 9 => 9 | 3 => 3 | 4 => 4 | 37 => 84 | 0 => 0 | 127 => 85 | 5 => 5 | n => n, fun | n => n⟩
theorem Tryz.laysM316 : Go.Proofs.LaysM.n316 Tryz.prog Tryz.laysM316_ren := {
  mixed := by kernel_rfl
  f316 := Tryz.func28.trans (congrArg some (by kernel_rfl))
  t0 := Tryz.underlying0
  a0 := Tryz.isAgg0
  z0 := Tryz.sizeOf0
  v0 := Tryz.zeroValue0
  t3 := Tryz.underlying3
  a3 := Tryz.isAgg3
  z3 := Tryz.sizeOf3
  v3 := Tryz.zeroValue3
  t4 := Tryz.underlying4
  a4 := Tryz.isAgg4
  z4 := Tryz.sizeOf4
  v4 := Tryz.zeroValue4
  t9 := Tryz.underlying9
  a9 := Tryz.isAgg9
  z9 := Tryz.sizeOf9
  v9 := Tryz.zeroValue9
  t37 := Tryz.underlying84
  a37 := Tryz.isAgg84
  z37 := Tryz.sizeOf84
  v37 := Tryz.zeroValue84
  t127 := Tryz.underlying85
  a127 := Tryz.isAgg85
  z127 := Tryz.sizeOf85
  v127 := Tryz.zeroValue85
  t5 := Tryz.underlying5
  a5 := Tryz.isAgg5
  z5 := Tryz.sizeOf5
  v5 := Tryz.zeroValue5
  i0 := by kernel_rfl
  i3 := by kernel_rfl
  i4 := by kernel_rfl
  i5 := by kernel_rfl
  i9 := by kernel_rfl
  i37 := by kernel_rfl
  i127 := by kernel_rfl }
open Go.RowKit in
theorem Tryz.stringslite_Clone (s : ByteArray) (w : World) (hlim : s.size ≤ 281474976710656) :
    Calls Tryz.prog 28 #[.string s] w fun e w' => e = .returned (.string s) ∧ Below w.heap.size w w' := Any.stringslite_Clone Tryz.laysM316 s w hlim
def Tryz.laysC174_ren : Go.Shelf.Ren := ⟨fun | 174 => 34 | 247 => 45 | 245 => 46 | 287 => 51 | 279 => 52 | 280 => 53 | 281 => 54 | 282 => 55 | 321 => 63 | 322 => 64 | 316 => 28 | 171 => 66 | 205 => 65 | 243 => 75 | 246 => 47 | 283 => 56 | 284 => 57 | 285 => 58 | 286 => 59 | 129 => 68 | 317 => 67 | 318 => 69 | 319 => 70 | 320 => 71 | 337 => 76 | 338 => 77 | n => n, fun | 9 => 9 | 3 => 3 | 2 => 2 | 75 => 74 | 85 => 75 | 4 => 4 | 167 => 89 | 5 => 5 | 53 => 88 | 175 => 90 | 46 => 92 | 168 => 93 | 37 => 84 | 0 => 0 | 210 => 105 | 21 => 21 | 127 => 85 | 145 => 123 | 143 => 121 | 171 => 97 | 173 => 100 | 212 => 109 | 51 => 110 | 20 => 20 | 213 => 111 | 232 => 133 | 233 => 134 | 80 => 38 | n => n, fun | 15 => 0 | 16 => 1 | 17 => 2 | 18 => 4 | 19 => 5 | n => n⟩
theorem Tryz.laysC174 : Go.Proofs.LaysC.n174 Tryz.prog Tryz.laysC174_ren := {
  mixed := by kernel_rfl
  f129 := Tryz.func68.trans (congrArg some (by kernel_rfl))
  f171 := Tryz.func66.trans (congrArg some (by kernel_rfl))
  f174 := Tryz.func34.trans (congrArg some (by kernel_rfl))
  f205 := Tryz.func65.trans (congrArg some (by kernel_rfl))
  f243 := Tryz.func75.trans (congrArg some (by kernel_rfl))
  f245 := Tryz.func46.trans (congrArg some (by kernel_rfl))
  f246 := Tryz.func47.trans (congrArg some (by kernel_rfl))
  f247 := Tryz.func45.trans (congrArg some (by kernel_rfl))
  f279 := Tryz.func52.trans (congrArg some (by kernel_rfl))
  f280 := Tryz.func53.trans (congrArg some (by kernel_rfl))
  f281 := Tryz.func54.trans (congrArg some (by kernel_rfl))
  f282 := Tryz.func55.trans (congrArg some (by kernel_rfl))
  f283 := Tryz.func56.trans (congrArg some (by kernel_rfl))
  f284 := Tryz.func57.trans (congrArg some (by kernel_rfl))
  f285 := Tryz.func58.trans (congrArg some (by kernel_rfl))
  f286 := Tryz.func59.trans (congrArg some (by kernel_rfl))
  f287 := Tryz.func51.trans (congrArg some (by kernel_rfl))
  f316 := Tryz.func28.trans (congrArg some (by kernel_rfl))
  f317 := Tryz.func67.trans (congrArg some (by kernel_rfl))
  f318 := Tryz.func69.trans (congrArg some (by kernel_rfl))
  f319 := Tryz.func70.trans (congrArg some (by kernel_rfl))
  f320 := Tryz.func71.trans (congrArg some (by kernel_rfl))
  f321 := Tryz.func63.trans (congrArg some (by kernel_rfl))
  f322 := Tryz.func64.trans (congrArg some (by kernel_rfl))
  f337 := Tryz.func76.trans (congrArg some (by kernel_rfl))
  f338 := Tryz.func77.trans (congrArg some (by kernel_rfl))
  t0 := Tryz.underlying0
  a0 := Tryz.isAgg0
  z0 := Tryz.sizeOf0
  v0 := Tryz.zeroValue0
  t2 := Tryz.underlying2
  a2 := Tryz.isAgg2
  z2 := Tryz.sizeOf2
  v2 := Tryz.zeroValue2
  t3 := Tryz.underlying3
  a3 := Tryz.isAgg3
  z3 := Tryz.sizeOf3
  v3 := Tryz.zeroValue3
  t4 := Tryz.underlying4
  a4 := Tryz.isAgg4
  z4 := Tryz.sizeOf4
  v4 := Tryz.zeroValue4
  t5 := Tryz.underlying5
  a5 := Tryz.isAgg5
  z5 := Tryz.sizeOf5
  v5 := Tryz.zeroValue5
  t9 := Tryz.underlying9
  a9 := Tryz.isAgg9
  z9 := Tryz.sizeOf9
  v9 := Tryz.zeroValue9
  t20 := Tryz.underlying20
  a20 := Tryz.isAgg20
  z20 := Tryz.sizeOf20
  v20 := Tryz.zeroValue20
  t21 := Tryz.underlying21
  a21 := Tryz.isAgg21
  z21 := Tryz.sizeOf21
  v21 := Tryz.zeroValue21
  t37 := Tryz.underlying84
  a37 := Tryz.isAgg84
  z37 := Tryz.sizeOf84
  v37 := Tryz.zeroValue84
  t46 := Tryz.underlying92
  a46 := Tryz.isAgg92
  z46 := Tryz.sizeOf92
  v46 := Tryz.zeroValue92
  t51 := Tryz.underlying110
  a51 := Tryz.isAgg110
  z51 := Tryz.sizeOf110
  v51 := Tryz.zeroValue110
  t53 := Tryz.underlying88
  a53 := Tryz.isAgg88
  z53 := Tryz.sizeOf88
  v53 := Tryz.zeroValue88
  t75 := Tryz.underlying74
  a75 := Tryz.isAgg74
  z75 := Tryz.sizeOf74
  v75 := Tryz.zeroValue74
  t85 := Tryz.underlying75
  a85 := Tryz.isAgg75
  z85 := Tryz.sizeOf75
  v85 := Tryz.zeroValue75
  t127 := Tryz.underlying85
  a127 := Tryz.isAgg85
  z127 := Tryz.sizeOf85
  v127 := Tryz.zeroValue85
  t143 := Tryz.underlying121
  a143 := Tryz.isAgg121
  z143 := Tryz.sizeOf121
  v143 := Tryz.zeroValue121
  t145 := Tryz.underlying123
  a145 := Tryz.isAgg123
  z145 := Tryz.sizeOf123
  v145 := Tryz.zeroValue123
  t167 := Tryz.underlying89
  a167 := Tryz.isAgg89
  z167 := Tryz.sizeOf89
  v167 := Tryz.zeroValue89
  t168 := Tryz.underlying93
  a168 := Tryz.isAgg93
  z168 := Tryz.sizeOf93
  v168 := Tryz.zeroValue93
  t171 := Tryz.underlying97
  a171 := Tryz.isAgg97
  z171 := Tryz.sizeOf97
  v171 := Tryz.zeroValue97
  t173 := Tryz.underlying100
  a173 := Tryz.isAgg100
  z173 := Tryz.sizeOf100
  v173 := Tryz.zeroValue100
  t175 := Tryz.underlying90
  a175 := Tryz.isAgg90
  z175 := Tryz.sizeOf90
  v175 := Tryz.zeroValue90
  t210 := Tryz.underlying105
  a210 := Tryz.isAgg105
  z210 := Tryz.sizeOf105
  v210 := Tryz.zeroValue105
  t212 := Tryz.underlying109
  a212 := Tryz.isAgg109
  z212 := Tryz.sizeOf109
  v212 := Tryz.zeroValue109
  t213 := Tryz.underlying111
  a213 := Tryz.isAgg111
  z213 := Tryz.sizeOf111
  t232 := Tryz.underlying133
  a232 := Tryz.isAgg133
  z232 := Tryz.sizeOf133
  v232 := Tryz.zeroValue133
  t233 := Tryz.underlying134
  a233 := Tryz.isAgg134
  z233 := Tryz.sizeOf134
  v233 := Tryz.zeroValue134
  g15 := by kernel_rfl
  g16 := by kernel_rfl
  g17 := by kernel_rfl
  g18 := by kernel_rfl
  g19 := by kernel_rfl
  t80 := Tryz.underlying38
  a80 := Tryz.isAgg38
  z80 := Tryz.sizeOf38
  v80 := Tryz.zeroValue38
  i0 := by kernel_rfl
  i2 := by kernel_rfl
  i3 := by kernel_rfl
  i4 := by kernel_rfl
  i5 := by kernel_rfl
  i9 := by kernel_rfl
  i20 := by kernel_rfl
  i21 := by kernel_rfl
  i37 := by kernel_rfl
  i46 := by kernel_rfl
  i51 := by kernel_rfl
  i53 := by kernel_rfl
  i75 := by kernel_rfl
  i80 := by kernel_rfl
  i85 := by kernel_rfl
  i127 := by kernel_rfl
  i143 := by kernel_rfl
  i145 := by kernel_rfl
  i167 := by kernel_rfl
  i168 := by kernel_rfl
  i171 := by kernel_rfl
  i173 := by kernel_rfl
  i175 := by kernel_rfl
  i210 := by kernel_rfl
  i212 := by kernel_rfl
  i232 := by kernel_rfl
  i233 := by kernel_rfl
  m15 := by kernel_rfl
  m16 := by kernel_rfl
  m17 := by kernel_rfl
  m18 := by kernel_rfl
  m19 := by kernel_rfl
  c0 := by kernel_rfl
  c2 := by kernel_rfl
  c3 := by kernel_rfl
  c4 := by kernel_rfl
  c5 := by kernel_rfl
  c9 := by kernel_rfl
  c20 := by kernel_rfl
  c21 := by kernel_rfl
  c37 := by kernel_rfl
  c46 := by kernel_rfl
  c51 := by kernel_rfl
  c53 := by kernel_rfl
  c75 := by kernel_rfl
  c80 := by kernel_rfl
  c85 := by kernel_rfl
  c127 := by kernel_rfl
  c143 := by kernel_rfl
  c145 := by kernel_rfl
  c167 := by kernel_rfl
  c168 := by kernel_rfl
  c171 := by kernel_rfl
  c173 := by kernel_rfl
  c175 := by kernel_rfl
  c210 := by kernel_rfl
  c212 := by kernel_rfl
  c213 := by kernel_rfl
  c232 := by kernel_rfl
  c233 := by kernel_rfl }
open Go.RowKit in
theorem Tryz.strconv_ParseInt_10_at64_ok (s : ByteArray) (hmax : s.size ≤ 9223372036854775806) (v : Int) (h : Lib.parseIntB 64 s.data.toList = .ok v) (w : World) :
    Calls Tryz.prog 34 #[.string s, .int .i64 10, .int .i64 64] w fun e w' => e = .returned (.tuple #[.int .i64 v, .nilIface]) ∧ (w' = w ∨ ∃ t, w' = Lib.bytesWorld w 5 t) := Any.strconv_ParseInt_10_at64_ok Tryz.laysC174 s hmax v h w
open Go.RowKit in
theorem Tryz.strconv_ParseInt_10_at64_syntax (s : ByteArray) (hlim : s.size ≤ 281474976710656) (h : Lib.parseIntB 64 s.data.toList = Lib.parseIntB 64 []) (ev : Value) (w : World) (hv : w.cell? ⟨0, 0, none⟩ = some ev) (hev : ev = .nilIface ∨ ∃ te pe, ev = .iface te pe) :
    Calls Tryz.prog 34 #[.string s, .int .i64 10, .int .i64 64] w fun e w' => ∃ N, e = .returned (.tuple #[.int .i64 (0), .iface 93 (.pointer (some ⟨N, 0, none⟩))]) ∧ w.heap.size ≤ N ∧ w'.heap[N]? = some (.cells #[.string ⟨#[80, 97, 114, 115, 101, 73, 110, 116]⟩, .string s, ev] 105 (0, 0)) ∧ Below w.heap.size w w' := Any.strconv_ParseInt_10_at64_syntax Tryz.laysC174 s hlim h ev w hv hev
open Go.RowKit in
theorem Tryz.strconv_ParseInt_10_at64_range (s : ByteArray) (hlim : s.size ≤ 281474976710656) (h : Lib.parseIntB 64 s.data.toList = .range) (ev : Value) (w : World) (hv : w.cell? ⟨1, 0, none⟩ = some ev) (hev : ev = .nilIface ∨ ∃ te pe, ev = .iface te pe) :
    Calls Tryz.prog 34 #[.string s, .int .i64 10, .int .i64 64] w fun e w' => ∃ N, e = .returned (.tuple #[.int .i64 (Lib.intSat 64 s.data.toList), .iface 93 (.pointer (some ⟨N, 0, none⟩))]) ∧ w.heap.size ≤ N ∧ w'.heap[N]? = some (.cells #[.string ⟨#[80, 97, 114, 115, 101, 73, 110, 116]⟩, .string s, ev] 105 (0, 0)) ∧ Below w.heap.size w w' := Any.strconv_ParseInt_10_at64_range Tryz.laysC174 s hlim h ev w hv hev
def Tryz.lays157_ren : Go.Shelf.Ren := ⟨fun | 157 => 78 | 229 => 86 | 199 => 87 | 261 => 92 | 311 => 96 | 312 => 97 | n => n, fun | 9 => 9 | 31 => 35 | 3 => 3 | 5 => 5 | 4 => 4 | 119 => 135 | 0 => 0 | 40 => 137 | 152 => 141 | 21 => 21 | 154 => 143 | 51 => 110 | 141 => 145 | 196 => 150 | 193 => 147 | 198 => 153 | 49 => 151 | 194 => 148 | 201 => 156 | 226 => 161 | 46 => 92 | 227 => 162 | n => n, fun | 0 => 6 | 6 => 7 | n => n⟩
theorem Tryz.lays157 : Go.Proofs.Lays.n157 Tryz.prog Tryz.lays157_ren := {
  mixed := by kernel_rfl
  f157 := Tryz.func78.trans (congrArg some (by kernel_rfl))
  f199 := Tryz.func87.trans (congrArg some (by kernel_rfl))
  f229 := Tryz.func86.trans (congrArg some (by kernel_rfl))
  f261 := Tryz.func92.trans (congrArg some (by kernel_rfl))
  f311 := Tryz.func96.trans (congrArg some (by kernel_rfl))
  f312 := Tryz.func97.trans (congrArg some (by kernel_rfl))
  t0 := Tryz.underlying0
  a0 := Tryz.isAgg0
  z0 := Tryz.sizeOf0
  v0 := Tryz.zeroValue0
  t3 := Tryz.underlying3
  a3 := Tryz.isAgg3
  z3 := Tryz.sizeOf3
  v3 := Tryz.zeroValue3
  t4 := Tryz.underlying4
  a4 := Tryz.isAgg4
  z4 := Tryz.sizeOf4
  v4 := Tryz.zeroValue4
  t5 := Tryz.underlying5
  a5 := Tryz.isAgg5
  z5 := Tryz.sizeOf5
  v5 := Tryz.zeroValue5
  t9 := Tryz.underlying9
  a9 := Tryz.isAgg9
  z9 := Tryz.sizeOf9
  v9 := Tryz.zeroValue9
  t21 := Tryz.underlying21
  a21 := Tryz.isAgg21
  z21 := Tryz.sizeOf21
  v21 := Tryz.zeroValue21
  t31 := Tryz.underlying35
  a31 := Tryz.isAgg35
  z31 := Tryz.sizeOf35
  v31 := Tryz.zeroValue35
  t40 := Tryz.underlying137
  a40 := Tryz.isAgg137
  z40 := Tryz.sizeOf137
  v40 := Tryz.zeroValue137
  t46 := Tryz.underlying92
  a46 := Tryz.isAgg92
  z46 := Tryz.sizeOf92
  v46 := Tryz.zeroValue92
  t49 := Tryz.underlying151
  a49 := Tryz.isAgg151
  z49 := Tryz.sizeOf151
  v49 := Tryz.zeroValue151
  t51 := Tryz.underlying110
  a51 := Tryz.isAgg110
  z51 := Tryz.sizeOf110
  v51 := Tryz.zeroValue110
  t119 := Tryz.underlying135
  a119 := Tryz.isAgg135
  z119 := Tryz.sizeOf135
  t141 := Tryz.underlying145
  a141 := Tryz.isAgg145
  z141 := Tryz.sizeOf145
  v141 := Tryz.zeroValue145
  t152 := Tryz.underlying141
  a152 := Tryz.isAgg141
  z152 := Tryz.sizeOf141
  v152 := Tryz.zeroValue141
  t154 := Tryz.underlying143
  a154 := Tryz.isAgg143
  z154 := Tryz.sizeOf143
  v154 := Tryz.zeroValue143
  t193 := Tryz.underlying147
  a193 := Tryz.isAgg147
  z193 := Tryz.sizeOf147
  v193 := Tryz.zeroValue147
  t194 := Tryz.underlying148
  a194 := Tryz.isAgg148
  z194 := Tryz.sizeOf148
  v194 := Tryz.zeroValue148
  t196 := Tryz.underlying150
  a196 := Tryz.isAgg150
  z196 := Tryz.sizeOf150
  v196 := Tryz.zeroValue150
  t198 := Tryz.underlying153
  a198 := Tryz.isAgg153
  z198 := Tryz.sizeOf153
  v198 := Tryz.zeroValue153
  t201 := Tryz.underlying156
  a201 := Tryz.isAgg156
  z201 := Tryz.sizeOf156
  v201 := Tryz.zeroValue156
  t226 := Tryz.underlying161
  a226 := Tryz.isAgg161
  z226 := Tryz.sizeOf161
  v226 := Tryz.zeroValue161
  t227 := Tryz.underlying162
  a227 := Tryz.isAgg162
  z227 := Tryz.sizeOf162
  v227 := Tryz.zeroValue162
  g0 := by kernel_rfl
  g6 := by kernel_rfl }
open Go.RowKit Go.Lib in
theorem Tryz.strings_Fields (s : ByteArray) (w : World) (hs : s.size < 4294967281) (hascii : ∀ (j : Nat) b, s.data.toList[j]? = some b → b.toNat < 128) (htab : Lib.TabIs Tryz.prog w "strings.asciiSpace" .u8 Lib.asciiSpaceTab) :
    Calls Tryz.prog 78 #[.string s] w fun e w' =>
      e = .returned (.slice (some ⟨w.heap.size, 0, none⟩) (Lib.fields s.data.toList).length (Lib.fields s.data.toList).length) ∧ w' = w.alloc (.cells ((Lib.fields s.data.toList).map fun l => Value.string ⟨l.toArray⟩).toArray 9) := Any.strings_Fields Tryz.lays157 (by kernel_rfl) (by kernel_rfl) s w hs hascii htab
end Go.Proofs
