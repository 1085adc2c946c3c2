/-
  DERIVED: THE SHELF's CONTRACTS AT THIS DUMP, IN PLAIN WORDS (tools/lay-plain.mjs out of 'TrydShelf.lean', which tools/lay-shelf.mjs wrote): THE SAME DECLARATIONS UNDER THE SAME NAMES: 'import', 'namespace', 'open', 'def', 'theorem' AND NOTHING ELSE: no command of the shelf's: FOR A HAND-IN. Each laying: the table of numbers ('.._ren') and one theorem, a field a fact of the dump's own or the kernel's comparison; each contract: ONE APPLICATION.
-/
import Derived.Shelf.Strings.Builder1
import Derived.Shelf.Strings.Builder2
import Derived.Shelf.Small.Bits
import Derived.Shelf.Small.Wraps
import Derived.Shelf.Strings.BuilderF
import Derived.Shelf.Strings.BuilderK
import Derived.Shelf.Strings.Builder2Cap
import Derived.Shelf.Strconv.Itoa0
import Derived.Shelf.Strconv.Itoa1
import Derived.Shelf.LaysM
import Derived.Shelf.Strconv.Itoa2
import Derived.Shelf.Strconv.Itoa3
import Derived.Shelf.Strconv.Clone
import Derived.Shelf.Strconv.SyntaxError
import Derived.Shelf.LaysC
import Derived.Shelf.Strconv.ToError
import Derived.Shelf.Strconv.Lower
import Derived.Shelf.Strconv.ParseUint10
import Derived.Shelf.Strconv.ParseUint10Empty
import Derived.Shelf.Strconv.ParseUint10Any
import Derived.Shelf.Strconv.RangeError
import Derived.Shelf.Strconv.ToErrorRange
import Derived.Shelf.Strconv.ParseUintEmpty
import Derived.Shelf.Strconv.ParseUint10b64
import Derived.Shelf.Strconv.ParseUint10b32
import Derived.Shelf.Strconv.ParseUint10b16
import Derived.Shelf.Strconv.ParseUint10b8
import Derived.Shelf.Strconv.ParseUint10At
import Derived.Shelf.Sort.Plain
import Derived.Shelf.Strings.Prefix
import Derived.Shelf.Bits.Mul64
import Derived.Shelf.Strings.Repeat
import Derived.Shelf.Slices.CompactS
import Derived.Shelf.Slices.Cells
import Derived.Shelf.Slices.In.SortNone
import Derived.Test.YtmmaddmlfofgbaaDoorProg
namespace Go.Proofs
def Tryd.lays103_ren : Go.Shelf.Ren := ⟨fun | 103 => 21 | 210 => 30 | 206 => 51 | n => n, fun | 9 => 9 | 4 => 4 | 24 => 54 | 3 => 3 | n => n, fun | n => n⟩
theorem Tryd.lays103 : Go.Proofs.Lays.n103 Tryd.prog Tryd.lays103_ren := {
  mixed := by kernel_rfl
  f103 := Tryd.func21.trans (congrArg some (by kernel_rfl))
  f206 := Tryd.func51.trans (congrArg some (by kernel_rfl))
  f210 := Tryd.func30.trans (congrArg some (by kernel_rfl))
  t3 := Tryd.underlying3
  a3 := Tryd.isAgg3
  z3 := Tryd.sizeOf3
  v3 := Tryd.zeroValue3
  t4 := Tryd.underlying4
  a4 := Tryd.isAgg4
  z4 := Tryd.sizeOf4
  v4 := Tryd.zeroValue4
  t9 := Tryd.underlying9
  a9 := Tryd.isAgg9
  z9 := Tryd.sizeOf9
  v9 := Tryd.zeroValue9
  t24 := Tryd.underlying54
  a24 := Tryd.isAgg54
  z24 := Tryd.sizeOf54
  v24 := Tryd.zeroValue54 }
open Go.RowKit in
theorem Tryd.strings_CutPrefix (s p : ByteArray) (w : World) :
    Calls Tryd.prog 21 #[.string s, .string p] w fun e w' => e = .returned (.tuple #[.string ⟨(Lib.trimPrefix s.data.toList p.data.toList).toArray⟩, .bool (Lib.hasPrefix s.data.toList p.data.toList)]) ∧ w' = w := Any.strings_CutPrefix Tryd.lays103 s p w
def Tryd.laysC245_ren : Go.Shelf.Ren := ⟨fun | 245 => 32 | 279 => 54 | 280 => 55 | 281 => 56 | 282 => 57 | 316 => 72 | 171 => 74 | 205 => 73 | 243 => 82 | 246 => 85 | 283 => 64 | 284 => 65 | 285 => 66 | 286 => 67 | 129 => 43 | 317 => 76 | 318 => 77 | 319 => 78 | 320 => 79 | 337 => 83 | 338 => 84 | n => n, fun | 9 => 9 | 3 => 3 | 75 => 57 | 167 => 91 | 4 => 4 | 168 => 94 | 210 => 115 | 37 => 83 | 0 => 0 | 127 => 112 | 145 => 130 | 143 => 128 | 2 => 2 | 171 => 104 | 53 => 24 | 5 => 5 | 173 => 106 | 212 => 122 | 51 => 78 | 20 => 20 | 213 => 123 | 46 => 62 | 232 => 132 | 233 => 133 | 80 => 90 | n => n, fun | 15 => 0 | 16 => 1 | 17 => 2 | 18 => 4 | 19 => 5 | n => n⟩
theorem Tryd.laysC245 : Go.Proofs.LaysC.n245 Tryd.prog Tryd.laysC245_ren := {
  mixed := by kernel_rfl
  f129 := Tryd.func43.trans (congrArg some (by kernel_rfl))
  f171 := Tryd.func74.trans (congrArg some (by kernel_rfl))
  f205 := Tryd.func73.trans (congrArg some (by kernel_rfl))
  f243 := Tryd.func82.trans (congrArg some (by kernel_rfl))
  f245 := Tryd.func32.trans (congrArg some (by kernel_rfl))
  f246 := Tryd.func85.trans (congrArg some (by kernel_rfl))
  f279 := Tryd.func54.trans (congrArg some (by kernel_rfl))
  f280 := Tryd.func55.trans (congrArg some (by kernel_rfl))
  f281 := Tryd.func56.trans (congrArg some (by kernel_rfl))
  f282 := Tryd.func57.trans (congrArg some (by kernel_rfl))
  f283 := Tryd.func64.trans (congrArg some (by kernel_rfl))
  f284 := Tryd.func65.trans (congrArg some (by kernel_rfl))
  f285 := Tryd.func66.trans (congrArg some (by kernel_rfl))
  f286 := Tryd.func67.trans (congrArg some (by kernel_rfl))
  f316 := Tryd.func72.trans (congrArg some (by kernel_rfl))
  f317 := Tryd.func76.trans (congrArg some (by kernel_rfl))
  f318 := Tryd.func77.trans (congrArg some (by kernel_rfl))
  f319 := Tryd.func78.trans (congrArg some (by kernel_rfl))
  f320 := Tryd.func79.trans (congrArg some (by kernel_rfl))
  f337 := Tryd.func83.trans (congrArg some (by kernel_rfl))
  f338 := Tryd.func84.trans (congrArg some (by kernel_rfl))
  t0 := Tryd.underlying0
  a0 := Tryd.isAgg0
  z0 := Tryd.sizeOf0
  v0 := Tryd.zeroValue0
  t2 := Tryd.underlying2
  a2 := Tryd.isAgg2
  z2 := Tryd.sizeOf2
  v2 := Tryd.zeroValue2
  t3 := Tryd.underlying3
  a3 := Tryd.isAgg3
  z3 := Tryd.sizeOf3
  v3 := Tryd.zeroValue3
  t4 := Tryd.underlying4
  a4 := Tryd.isAgg4
  z4 := Tryd.sizeOf4
  v4 := Tryd.zeroValue4
  t5 := Tryd.underlying5
  a5 := Tryd.isAgg5
  z5 := Tryd.sizeOf5
  v5 := Tryd.zeroValue5
  t9 := Tryd.underlying9
  a9 := Tryd.isAgg9
  z9 := Tryd.sizeOf9
  v9 := Tryd.zeroValue9
  t20 := Tryd.underlying20
  a20 := Tryd.isAgg20
  z20 := Tryd.sizeOf20
  v20 := Tryd.zeroValue20
  t37 := Tryd.underlying83
  a37 := Tryd.isAgg83
  z37 := Tryd.sizeOf83
  v37 := Tryd.zeroValue83
  t46 := Tryd.underlying62
  a46 := Tryd.isAgg62
  z46 := Tryd.sizeOf62
  v46 := Tryd.zeroValue62
  t51 := Tryd.underlying78
  a51 := Tryd.isAgg78
  z51 := Tryd.sizeOf78
  v51 := Tryd.zeroValue78
  t53 := Tryd.underlying24
  a53 := Tryd.isAgg24
  z53 := Tryd.sizeOf24
  v53 := Tryd.zeroValue24
  t75 := Tryd.underlying57
  a75 := Tryd.isAgg57
  z75 := Tryd.sizeOf57
  v75 := Tryd.zeroValue57
  t127 := Tryd.underlying112
  a127 := Tryd.isAgg112
  z127 := Tryd.sizeOf112
  v127 := Tryd.zeroValue112
  t143 := Tryd.underlying128
  a143 := Tryd.isAgg128
  z143 := Tryd.sizeOf128
  v143 := Tryd.zeroValue128
  t145 := Tryd.underlying130
  a145 := Tryd.isAgg130
  z145 := Tryd.sizeOf130
  v145 := Tryd.zeroValue130
  t167 := Tryd.underlying91
  a167 := Tryd.isAgg91
  z167 := Tryd.sizeOf91
  v167 := Tryd.zeroValue91
  t168 := Tryd.underlying94
  a168 := Tryd.isAgg94
  z168 := Tryd.sizeOf94
  v168 := Tryd.zeroValue94
  t171 := Tryd.underlying104
  a171 := Tryd.isAgg104
  z171 := Tryd.sizeOf104
  v171 := Tryd.zeroValue104
  t173 := Tryd.underlying106
  a173 := Tryd.isAgg106
  z173 := Tryd.sizeOf106
  v173 := Tryd.zeroValue106
  t210 := Tryd.underlying115
  a210 := Tryd.isAgg115
  z210 := Tryd.sizeOf115
  v210 := Tryd.zeroValue115
  t212 := Tryd.underlying122
  a212 := Tryd.isAgg122
  z212 := Tryd.sizeOf122
  v212 := Tryd.zeroValue122
  t213 := Tryd.underlying123
  a213 := Tryd.isAgg123
  z213 := Tryd.sizeOf123
  t232 := Tryd.underlying132
  a232 := Tryd.isAgg132
  z232 := Tryd.sizeOf132
  v232 := Tryd.zeroValue132
  t233 := Tryd.underlying133
  a233 := Tryd.isAgg133
  z233 := Tryd.sizeOf133
  v233 := Tryd.zeroValue133
  g15 := by kernel_rfl
  g16 := by kernel_rfl
  g17 := by kernel_rfl
  g18 := by kernel_rfl
  g19 := by kernel_rfl
  t80 := Tryd.underlying90
  a80 := Tryd.isAgg90
  z80 := Tryd.sizeOf90
  v80 := Tryd.zeroValue90
  i0 := by kernel_rfl
  i2 := by kernel_rfl
  i3 := by kernel_rfl
  i4 := by kernel_rfl
  i5 := by kernel_rfl
  i9 := by kernel_rfl
  i20 := by kernel_rfl
  i37 := by kernel_rfl
  i46 := by kernel_rfl
  i51 := by kernel_rfl
  i53 := by kernel_rfl
  i75 := by kernel_rfl
  i80 := by kernel_rfl
  i127 := by kernel_rfl
  i143 := by kernel_rfl
  i145 := by kernel_rfl
  i167 := by kernel_rfl
  i168 := by kernel_rfl
  i171 := by kernel_rfl
  i173 := by kernel_rfl
  i210 := by kernel_rfl
  i212 := by kernel_rfl
  i232 := by kernel_rfl
  i233 := by kernel_rfl
  m15 := by kernel_rfl
  m16 := by kernel_rfl
  m17 := by kernel_rfl
  m18 := by kernel_rfl
  m19 := by kernel_rfl
  c0 := by kernel_rfl
  c2 := by kernel_rfl
  c3 := by kernel_rfl
  c4 := by kernel_rfl
  c5 := by kernel_rfl
  c9 := by kernel_rfl
  c20 := by kernel_rfl
  c37 := by kernel_rfl
  c46 := by kernel_rfl
  c51 := by kernel_rfl
  c53 := by kernel_rfl
  c75 := by kernel_rfl
  c80 := by kernel_rfl
  c127 := by kernel_rfl
  c143 := by kernel_rfl
  c145 := by kernel_rfl
  c167 := by kernel_rfl
  c168 := by kernel_rfl
  c171 := by kernel_rfl
  c173 := by kernel_rfl
  c210 := by kernel_rfl
  c212 := by kernel_rfl
  c213 := by kernel_rfl
  c232 := by kernel_rfl
  c233 := by kernel_rfl }
open Go.RowKit in
theorem Tryd.strconv_toError_syntax (fn s : ByteArray) (base bits : Int) (ev : Value) (w : World) (hlim : s.size ≤ 281474976710656) (hv : w.cell? ⟨0, 0, none⟩ = some ev) (hev : ev = .nilIface ∨ ∃ te pe, ev = .iface te pe) :
    Calls Tryd.prog 32 #[.string fn, .string s, .int .i64 base, .int .i64 bits, .iface 91 (.int .i64 2)] w fun e w' => ∃ N, e = .returned (.iface 94 (.pointer (some ⟨N, 0, none⟩))) ∧ w.heap.size ≤ N ∧ w'.heap[N]? = some (.cells #[.string fn, .string s, ev] 115 (0, 0)) ∧ Below w.heap.size w w' := Any.strconv_toError_syntax Tryd.laysC245 fn s base bits ev w hlim hv hev
open Go.RowKit in
theorem Tryd.strconv_toError_range (fn s : ByteArray) (base bits : Int) (ev : Value) (w : World) (hlim : s.size ≤ 281474976710656) (hv : w.cell? ⟨1, 0, none⟩ = some ev) (hev : ev = .nilIface ∨ ∃ te pe, ev = .iface te pe) :
    Calls Tryd.prog 32 #[.string fn, .string s, .int .i64 base, .int .i64 bits, .iface 91 (.int .i64 1)] w fun e w' => ∃ N, e = .returned (.iface 94 (.pointer (some ⟨N, 0, none⟩))) ∧ w.heap.size ≤ N ∧ w'.heap[N]? = some (.cells #[.string fn, .string s, ev] 115 (0, 0)) ∧ Below w.heap.size w w' := Any.strconv_toError_range Tryd.laysC245 fn s base bits ev w hlim hv hev
def Tryd.lays105_ren : Go.Shelf.Ren := ⟨fun | 105 => 29 | 212 => 45 | 99 => 46 | 165 => 47 | 166 => 48 | 170 => 49 | 169 => 50 | 263 => 68 | 264 => 69 | 206 => 51 | 240 => 70 | 241 => 71 | 276 => 80 | 277 => 81 | n => n, fun | 9 => 9 | 3 => 3 | 4 => 4 | 20 => 20 | 0 => 0 | 46 => 62 | 109 => 80 | 5 => 5 | 72 => 85 | 76 => 87 | 51 => 78 | 146 => 108 | 53 => 24 | 148 => 110 | 70 => 82 | 37 => 83 | 75 => 57 | 127 => 112 | 164 => 125 | 80 => 90 | n => n, fun | n => n⟩
theorem Tryd.lays105 : Go.Proofs.Lays.n105 Tryd.prog Tryd.lays105_ren := {
  mixed := by kernel_rfl
  f99 := Tryd.func46.trans (congrArg some (by kernel_rfl))
  f105 := Tryd.func29.trans (congrArg some (by kernel_rfl))
  f165 := Tryd.func47.trans (congrArg some (by kernel_rfl))
  f166 := Tryd.func48.trans (congrArg some (by kernel_rfl))
  f169 := Tryd.func50.trans (congrArg some (by kernel_rfl))
  f170 := Tryd.func49.trans (congrArg some (by kernel_rfl))
  f206 := Tryd.func51.trans (congrArg some (by kernel_rfl))
  f212 := Tryd.func45.trans (congrArg some (by kernel_rfl))
  f240 := Tryd.func70.trans (congrArg some (by kernel_rfl))
  f241 := Tryd.func71.trans (congrArg some (by kernel_rfl))
  f263 := Tryd.func68.trans (congrArg some (by kernel_rfl))
  f264 := Tryd.func69.trans (congrArg some (by kernel_rfl))
  f276 := Tryd.func80.trans (congrArg some (by kernel_rfl))
  f277 := Tryd.func81.trans (congrArg some (by kernel_rfl))
  t0 := Tryd.underlying0
  a0 := Tryd.isAgg0
  z0 := Tryd.sizeOf0
  v0 := Tryd.zeroValue0
  t3 := Tryd.underlying3
  a3 := Tryd.isAgg3
  z3 := Tryd.sizeOf3
  v3 := Tryd.zeroValue3
  t4 := Tryd.underlying4
  a4 := Tryd.isAgg4
  z4 := Tryd.sizeOf4
  v4 := Tryd.zeroValue4
  t5 := Tryd.underlying5
  a5 := Tryd.isAgg5
  z5 := Tryd.sizeOf5
  v5 := Tryd.zeroValue5
  t9 := Tryd.underlying9
  a9 := Tryd.isAgg9
  z9 := Tryd.sizeOf9
  v9 := Tryd.zeroValue9
  t20 := Tryd.underlying20
  a20 := Tryd.isAgg20
  z20 := Tryd.sizeOf20
  v20 := Tryd.zeroValue20
  t37 := Tryd.underlying83
  a37 := Tryd.isAgg83
  z37 := Tryd.sizeOf83
  v37 := Tryd.zeroValue83
  t46 := Tryd.underlying62
  a46 := Tryd.isAgg62
  z46 := Tryd.sizeOf62
  v46 := Tryd.zeroValue62
  t51 := Tryd.underlying78
  a51 := Tryd.isAgg78
  z51 := Tryd.sizeOf78
  v51 := Tryd.zeroValue78
  t53 := Tryd.underlying24
  a53 := Tryd.isAgg24
  z53 := Tryd.sizeOf24
  v53 := Tryd.zeroValue24
  t70 := Tryd.underlying82
  a70 := Tryd.isAgg82
  z70 := Tryd.sizeOf82
  v70 := Tryd.zeroValue82
  t72 := Tryd.underlying85
  a72 := Tryd.isAgg85
  z72 := Tryd.sizeOf85
  v72 := Tryd.zeroValue85
  t75 := Tryd.underlying57
  a75 := Tryd.isAgg57
  z75 := Tryd.sizeOf57
  v75 := Tryd.zeroValue57
  t76 := Tryd.underlying87
  a76 := Tryd.isAgg87
  z76 := Tryd.sizeOf87
  v76 := Tryd.zeroValue87
  t109 := Tryd.underlying80
  a109 := Tryd.isAgg80
  z109 := Tryd.sizeOf80
  v109 := Tryd.zeroValue80
  t127 := Tryd.underlying112
  a127 := Tryd.isAgg112
  z127 := Tryd.sizeOf112
  v127 := Tryd.zeroValue112
  t146 := Tryd.underlying108
  a146 := Tryd.isAgg108
  z146 := Tryd.sizeOf108
  v146 := Tryd.zeroValue108
  t148 := Tryd.underlying110
  a148 := Tryd.isAgg110
  z148 := Tryd.sizeOf110
  v148 := Tryd.zeroValue110
  t164 := Tryd.underlying125
  a164 := Tryd.isAgg125
  z164 := Tryd.sizeOf125
  v164 := Tryd.zeroValue125 }
theorem Tryd.Builder_Extra_105 : Builder.Extra Tryd.prog Tryd.lays105_ren := {
  sizeBuilder := by kernel_rfl
  liesBuilder := by kernel_rfl
  t5 := Tryd.underlying5
  a5 := Tryd.isAgg5
  z5 := Tryd.sizeOf5
  v5 := Tryd.zeroValue5
  infoByte := by kernel_rfl
  cellsByte := by kernel_rfl
  sizeByte := by kernel_rfl
  neB5 := by decide }
open Go.RowKit Go.Lib in
theorem Tryd.strings_Repeat (s : ByteArray) (c : Nat) (w : World) (hc : c ≤ 9223372036854775807) (hlen : s.size * c ≤ 140737488355328) :
    Calls Tryd.prog 29 #[.string s, .int .i64 c] w fun e w' => e = .returned (.string ⟨(Lib.repeatL s.data.toList c).toArray⟩) ∧ Below w.heap.size w w' := Any.strings_Repeat Tryd.lays105 Tryd.Builder_Extra_105 s c w hc hlen
end Go.Proofs
