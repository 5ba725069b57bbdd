/-
 DERIVED: THE SHELF's CONTRACTS AT THIS DUMP, IN PLAIN WORDS (tools/lay-plain.mjs out of 'TrydShelf.lean', which tools/lay-shelf.mjs wrote): THE SAME DECLARATIONS UNDER THE SAME NAMES: 'import', 'namespace', 'open', 'def', 'theorem' AND NOTHING ELSE: no command of the shelf's: FOR A HAND-IN. Each laying: the table of numbers ('.._ren') and one theorem, a field a fact of the dump's own or the kernel's comparison; each contract: ONE APPLICATION.
-/
import Derived.Shelf.Strings.Trim
import Derived.Shelf.Small.Utf8
import Derived.Shelf.Small.Bits
import Derived.Shelf.Small.Strs
import Derived.Shelf.Strconv.Atoi
import Derived.Shelf.Strconv.Itoa0
import Derived.Shelf.Strconv.Itoa1
import Derived.Shelf.LaysM
import Derived.Shelf.Strconv.Itoa2
import Derived.Shelf.Strconv.Itoa3
import Derived.Shelf.Strconv.AtoiErrFast
import Derived.Shelf.Strconv.ParseIntEmpty
import Derived.Shelf.Strconv.AtoiFail
import Derived.Shelf.Strconv.Clone
import Derived.Shelf.Strconv.SyntaxError
import Derived.Shelf.LaysC
import Derived.Shelf.Strconv.ToError
import Derived.Shelf.Strconv.AtoiErr
import Derived.Shelf.Strconv.ErrVar
import Derived.Shelf.Strconv.Lower
import Derived.Shelf.Strconv.ParseUint10
import Derived.Shelf.Strconv.ParseUint10Empty
import Derived.Shelf.Strconv.ParseUint10Any
import Derived.Shelf.Strconv.ParseInt10
import Derived.Shelf.Strconv.AtoiLong
import Derived.Shelf.Strconv.AtoiInnerAll
import Derived.Shelf.Strconv.RangeError
import Derived.Shelf.Strconv.ToErrorRange
import Derived.Shelf.Strconv.AtoiAll
import Derived.Shelf.Strconv.ErrVarAll
import Derived.Shelf.Strconv.ParseUintEmpty
import Derived.Shelf.Strconv.ParseUint10b64
import Derived.Shelf.Strconv.ParseUint10b32
import Derived.Shelf.Strconv.ParseUint10b16
import Derived.Shelf.Strconv.ParseUint10b8
import Derived.Shelf.Strconv.ParseUint10At
import Derived.Shelf.Strconv.ParseInt10At64
import Derived.Shelf.Strconv.ParseInt10At32
import Derived.Shelf.Strconv.ParseInt10At16
import Derived.Shelf.Strconv.ParseInt10At8
import Derived.Shelf.Strconv.ParseInt10All
import Derived.Shelf.Strings.Search1
import Derived.Shelf.Strings.Search2
import Derived.Shelf.Strings.Search3
import Derived.Shelf.Strings.Cut
import Derived.Shelf.Strings.Shaped
import Derived.Shelf.Sort.Plain
import Derived.Shelf.Strings.LastIndex
import Derived.Shelf.Strings.Prefix
import Derived.Shelf.Unicode.Decode
import Derived.Shelf.Strings.Runes
import Derived.Shelf.Strings.AsciiSet
import Derived.Shelf.Unicode.DecodeSlow
import Derived.Shelf.Unicode.DecodeAny
import Derived.Shelf.Unicode.DecodeLast
import Derived.Shelf.Slices.CompactS
import Derived.Shelf.Slices.Cells
import Derived.Shelf.Slices.In.SortNone
import Derived.Test.YtindkgcbglonhaaDoorProg
namespace Go.Proofs
open Go.Shelf
def Tryd.lays137_ren : Go.Shelf.Ren := ⟨fun | 137 => 80 | 217 => 102 | 266 => 128 | n => n, fun | 9 => 9 | 5 => 5 | 3 => 3 | n => n, fun | n => n⟩
theorem Tryd.lays137 : Go.Proofs.Lays.n137 Tryd.prog Tryd.lays137_ren := {
 mixed := by kernel_rfl
 f137 := Tryd.func80.trans (congrArg some (by kernel_rfl))
 f217 := Tryd.func102.trans (congrArg some (by kernel_rfl))
 f266 := Tryd.func128.trans (congrArg some (by kernel_rfl))
 t3 := Tryd.underlying3
 a3 := Tryd.isAgg3
 z3 := Tryd.sizeOf3
 v3 := Tryd.zeroValue3
 t5 := Tryd.underlying5
 a5 := Tryd.isAgg5
 z5 := Tryd.sizeOf5
 v5 := Tryd.zeroValue5
 t9 := Tryd.underlying9
 a9 := Tryd.isAgg9
 z9 := Tryd.sizeOf9
 v9 := Tryd.zeroValue9 }
open Go.RowKit in
theorem Tryd.strings_IndexByte (s : ByteArray) (c : Int) (w : World) :
  Calls Tryd.prog 80 #[.string s, .int .u8 c] w fun e w' => e = .returned (.int .i64 (Lib.indexByte s.data.toList c.toNat.toUInt8)) ∧ w' = w := Any.strings_IndexByte Tryd.lays137 s c w
def Tryd.laysM171_ren : Go.Shelf.Ren := ⟨fun | 171 => 63 | 243 => 95 | 246 => 114 | 283 => 134 | 284 => 135 | 285 => 136 | 286 => 137 | 129 => 126 | 317 => 156 | 318 => 157 | 319 => 158 | 320 => 159 | 337 => 165 | 338 => 166 | n => n, fun | 3 => 3 | 9 => 9 | 2 => 2 | 4 => 4 | 171 => 114 | 0 => 0 | 53 => 108 | 37 => 84 | 5 => 5 | 173 => 116 | 212 => 142 | 51 => 106 | 20 => 20 | 213 => 143 | 46 => 87 | 232 => 152 | 233 => 153 | n => n, fun | 17 => 5 | 18 => 6 | 19 => 7 | n => n⟩
theorem Tryd.laysM171 : Go.Proofs.LaysM.n171 Tryd.prog Tryd.laysM171_ren := {
 mixed := by kernel_rfl
 f129 := Tryd.func126.trans (congrArg some (by kernel_rfl))
 f171 := Tryd.func63.trans (congrArg some (by kernel_rfl))
 f243 := Tryd.func95.trans (congrArg some (by kernel_rfl))
 f246 := Tryd.func114.trans (congrArg some (by kernel_rfl))
 f283 := Tryd.func134.trans (congrArg some (by kernel_rfl))
 f284 := Tryd.func135.trans (congrArg some (by kernel_rfl))
 f285 := Tryd.func136.trans (congrArg some (by kernel_rfl))
 f286 := Tryd.func137.trans (congrArg some (by kernel_rfl))
 f317 := Tryd.func156.trans (congrArg some (by kernel_rfl))
 f318 := Tryd.func157.trans (congrArg some (by kernel_rfl))
 f319 := Tryd.func158.trans (congrArg some (by kernel_rfl))
 f320 := Tryd.func159.trans (congrArg some (by kernel_rfl))
 f337 := Tryd.func165.trans (congrArg some (by kernel_rfl))
 f338 := Tryd.func166.trans (congrArg some (by kernel_rfl))
 t0 := Tryd.underlying0
 a0 := Tryd.isAgg0
 z0 := Tryd.sizeOf0
 v0 := Tryd.zeroValue0
 t2 := Tryd.underlying2
 a2 := Tryd.isAgg2
 z2 := Tryd.sizeOf2
 v2 := Tryd.zeroValue2
 t3 := Tryd.underlying3
 a3 := Tryd.isAgg3
 z3 := Tryd.sizeOf3
 v3 := Tryd.zeroValue3
 t4 := Tryd.underlying4
 a4 := Tryd.isAgg4
 z4 := Tryd.sizeOf4
 v4 := Tryd.zeroValue4
 t5 := Tryd.underlying5
 a5 := Tryd.isAgg5
 z5 := Tryd.sizeOf5
 v5 := Tryd.zeroValue5
 t9 := Tryd.underlying9
 a9 := Tryd.isAgg9
 z9 := Tryd.sizeOf9
 v9 := Tryd.zeroValue9
 t20 := Tryd.underlying20
 a20 := Tryd.isAgg20
 z20 := Tryd.sizeOf20
 v20 := Tryd.zeroValue20
 t37 := Tryd.underlying84
 a37 := Tryd.isAgg84
 z37 := Tryd.sizeOf84
 v37 := Tryd.zeroValue84
 t46 := Tryd.underlying87
 a46 := Tryd.isAgg87
 z46 := Tryd.sizeOf87
 v46 := Tryd.zeroValue87
 t51 := Tryd.underlying106
 a51 := Tryd.isAgg106
 z51 := Tryd.sizeOf106
 v51 := Tryd.zeroValue106
 t53 := Tryd.underlying108
 a53 := Tryd.isAgg108
 z53 := Tryd.sizeOf108
 v53 := Tryd.zeroValue108
 t171 := Tryd.underlying114
 a171 := Tryd.isAgg114
 z171 := Tryd.sizeOf114
 v171 := Tryd.zeroValue114
 t173 := Tryd.underlying116
 a173 := Tryd.isAgg116
 z173 := Tryd.sizeOf116
 v173 := Tryd.zeroValue116
 t212 := Tryd.underlying142
 a212 := Tryd.isAgg142
 z212 := Tryd.sizeOf142
 v212 := Tryd.zeroValue142
 t213 := Tryd.underlying143
 a213 := Tryd.isAgg143
 z213 := Tryd.sizeOf143
 t232 := Tryd.underlying152
 a232 := Tryd.isAgg152
 z232 := Tryd.sizeOf152
 v232 := Tryd.zeroValue152
 t233 := Tryd.underlying153
 a233 := Tryd.isAgg153
 z233 := Tryd.sizeOf153
 v233 := Tryd.zeroValue153
 g17 := by kernel_rfl
 g18 := by kernel_rfl
 g19 := by kernel_rfl
 i0 := by kernel_rfl
 i2 := by kernel_rfl
 i3 := by kernel_rfl
 i4 := by kernel_rfl
 i5 := by kernel_rfl
 i9 := by kernel_rfl
 i20 := by kernel_rfl
 i37 := by kernel_rfl
 i46 := by kernel_rfl
 i51 := by kernel_rfl
 i53 := by kernel_rfl
 i171 := by kernel_rfl
 i173 := by kernel_rfl
 i212 := by kernel_rfl
 i232 := by kernel_rfl
 i233 := by kernel_rfl
 m17 := by kernel_rfl
 m18 := by kernel_rfl
 m19 := by kernel_rfl }
open Go.RowKit Go.Sort Go.Lib in
theorem Tryd.strconv_Itoa (n : Int) (h0 : -9223372036854775808 ≤ n) (h1 : n ≤ 9223372036854775807) (w : World) (htab : Lib.TabIs Tryd.prog w "internal/strconv.uint64pow10" .u64 Lib.pow10Tab) :
  Calls Tryd.prog 63 #[.int .i64 n] w fun e w' => e = .returned (.string ⟨(Lib.itoa n).toArray⟩) ∧ ∃ k os, w' = grow (w.drewN k) os := Any.strconv_Itoa Tryd.laysM171 n h0 h1 w htab
def Tryd.laysC172_ren : Go.Shelf.Ren := ⟨fun | 172 => 62 | 244 => 93 | 245 => 94 | 247 => 109 | 279 => 110 | 280 => 111 | 281 => 112 | 282 => 113 | 287 => 131 | 316 => 132 | 171 => 63 | 205 => 133 | 321 => 154 | 322 => 155 | 243 => 95 | 246 => 114 | 283 => 134 | 284 => 135 | 285 => 136 | 286 => 137 | 129 => 126 | 317 => 156 | 318 => 157 | 319 => 158 | 320 => 159 | 337 => 165 | 338 => 166 | n => n, fun | 9 => 9 | 3 => 3 | 75 => 65 | 76 => 66 | 4 => 4 | 5 => 5 | 167 => 91 | 37 => 84 | 0 => 0 | 85 => 92 | 2 => 2 | 168 => 94 | 53 => 108 | 175 => 109 | 46 => 87 | 210 => 112 | 127 => 137 | 145 => 140 | 143 => 138 | 21 => 21 | 171 => 114 | 173 => 116 | 212 => 142 | 51 => 106 | 20 => 20 | 213 => 143 | 232 => 152 | 233 => 153 | 80 => 155 | n => n, fun | 15 => 0 | 16 => 1 | 17 => 5 | 18 => 6 | 19 => 7 | n => n⟩
theorem Tryd.laysC172 : Go.Proofs.LaysC.n172 Tryd.prog Tryd.laysC172_ren := {
 mixed := by kernel_rfl
 f129 := Tryd.func126.trans (congrArg some (by kernel_rfl))
 f171 := Tryd.func63.trans (congrArg some (by kernel_rfl))
 f172 := Tryd.func62.trans (congrArg some (by kernel_rfl))
 f205 := Tryd.func133.trans (congrArg some (by kernel_rfl))
 f243 := Tryd.func95.trans (congrArg some (by kernel_rfl))
 f244 := Tryd.func93.trans (congrArg some (by kernel_rfl))
 f245 := Tryd.func94.trans (congrArg some (by kernel_rfl))
 f246 := Tryd.func114.trans (congrArg some (by kernel_rfl))
 f247 := Tryd.func109.trans (congrArg some (by kernel_rfl))
 f279 := Tryd.func110.trans (congrArg some (by kernel_rfl))
 f280 := Tryd.func111.trans (congrArg some (by kernel_rfl))
 f281 := Tryd.func112.trans (congrArg some (by kernel_rfl))
 f282 := Tryd.func113.trans (congrArg some (by kernel_rfl))
 f283 := Tryd.func134.trans (congrArg some (by kernel_rfl))
 f284 := Tryd.func135.trans (congrArg some (by kernel_rfl))
 f285 := Tryd.func136.trans (congrArg some (by kernel_rfl))
 f286 := Tryd.func137.trans (congrArg some (by kernel_rfl))
 f287 := Tryd.func131.trans (congrArg some (by kernel_rfl))
 f316 := Tryd.func132.trans (congrArg some (by kernel_rfl))
 f317 := Tryd.func156.trans (congrArg some (by kernel_rfl))
 f318 := Tryd.func157.trans (congrArg some (by kernel_rfl))
 f319 := Tryd.func158.trans (congrArg some (by kernel_rfl))
 f320 := Tryd.func159.trans (congrArg some (by kernel_rfl))
 f321 := Tryd.func154.trans (congrArg some (by kernel_rfl))
 f322 := Tryd.func155.trans (congrArg some (by kernel_rfl))
 f337 := Tryd.func165.trans (congrArg some (by kernel_rfl))
 f338 := Tryd.func166.trans (congrArg some (by kernel_rfl))
 t0 := Tryd.underlying0
 a0 := Tryd.isAgg0
 z0 := Tryd.sizeOf0
 v0 := Tryd.zeroValue0
 t2 := Tryd.underlying2
 a2 := Tryd.isAgg2
 z2 := Tryd.sizeOf2
 v2 := Tryd.zeroValue2
 t3 := Tryd.underlying3
 a3 := Tryd.isAgg3
 z3 := Tryd.sizeOf3
 v3 := Tryd.zeroValue3
 t4 := Tryd.underlying4
 a4 := Tryd.isAgg4
 z4 := Tryd.sizeOf4
 v4 := Tryd.zeroValue4
 t5 := Tryd.underlying5
 a5 := Tryd.isAgg5
 z5 := Tryd.sizeOf5
 v5 := Tryd.zeroValue5
 t9 := Tryd.underlying9
 a9 := Tryd.isAgg9
 z9 := Tryd.sizeOf9
 v9 := Tryd.zeroValue9
 t20 := Tryd.underlying20
 a20 := Tryd.isAgg20
 z20 := Tryd.sizeOf20
 v20 := Tryd.zeroValue20
 t21 := Tryd.underlying21
 a21 := Tryd.isAgg21
 z21 := Tryd.sizeOf21
 v21 := Tryd.zeroValue21
 t37 := Tryd.underlying84
 a37 := Tryd.isAgg84
 z37 := Tryd.sizeOf84
 v37 := Tryd.zeroValue84
 t46 := Tryd.underlying87
 a46 := Tryd.isAgg87
 z46 := Tryd.sizeOf87
 v46 := Tryd.zeroValue87
 t51 := Tryd.underlying106
 a51 := Tryd.isAgg106
 z51 := Tryd.sizeOf106
 v51 := Tryd.zeroValue106
 t53 := Tryd.underlying108
 a53 := Tryd.isAgg108
 z53 := Tryd.sizeOf108
 v53 := Tryd.zeroValue108
 t75 := Tryd.underlying65
 a75 := Tryd.isAgg65
 z75 := Tryd.sizeOf65
 v75 := Tryd.zeroValue65
 t76 := Tryd.underlying66
 a76 := Tryd.isAgg66
 z76 := Tryd.sizeOf66
 v76 := Tryd.zeroValue66
 t85 := Tryd.underlying92
 a85 := Tryd.isAgg92
 z85 := Tryd.sizeOf92
 v85 := Tryd.zeroValue92
 t127 := Tryd.underlying137
 a127 := Tryd.isAgg137
 z127 := Tryd.sizeOf137
 v127 := Tryd.zeroValue137
 t143 := Tryd.underlying138
 a143 := Tryd.isAgg138
 z143 := Tryd.sizeOf138
 v143 := Tryd.zeroValue138
 t145 := Tryd.underlying140
 a145 := Tryd.isAgg140
 z145 := Tryd.sizeOf140
 v145 := Tryd.zeroValue140
 t167 := Tryd.underlying91
 a167 := Tryd.isAgg91
 z167 := Tryd.sizeOf91
 v167 := Tryd.zeroValue91
 t168 := Tryd.underlying94
 a168 := Tryd.isAgg94
 z168 := Tryd.sizeOf94
 v168 := Tryd.zeroValue94
 t171 := Tryd.underlying114
 a171 := Tryd.isAgg114
 z171 := Tryd.sizeOf114
 v171 := Tryd.zeroValue114
 t173 := Tryd.underlying116
 a173 := Tryd.isAgg116
 z173 := Tryd.sizeOf116
 v173 := Tryd.zeroValue116
 t175 := Tryd.underlying109
 a175 := Tryd.isAgg109
 z175 := Tryd.sizeOf109
 v175 := Tryd.zeroValue109
 t210 := Tryd.underlying112
 a210 := Tryd.isAgg112
 z210 := Tryd.sizeOf112
 v210 := Tryd.zeroValue112
 t212 := Tryd.underlying142
 a212 := Tryd.isAgg142
 z212 := Tryd.sizeOf142
 v212 := Tryd.zeroValue142
 t213 := Tryd.underlying143
 a213 := Tryd.isAgg143
 z213 := Tryd.sizeOf143
 t232 := Tryd.underlying152
 a232 := Tryd.isAgg152
 z232 := Tryd.sizeOf152
 v232 := Tryd.zeroValue152
 t233 := Tryd.underlying153
 a233 := Tryd.isAgg153
 z233 := Tryd.sizeOf153
 v233 := Tryd.zeroValue153
 g15 := by kernel_rfl
 g16 := by kernel_rfl
 g17 := by kernel_rfl
 g18 := by kernel_rfl
 g19 := by kernel_rfl
 t80 := Tryd.underlying155
 a80 := Tryd.isAgg155
 z80 := Tryd.sizeOf155
 v80 := Tryd.zeroValue155
 i0 := by kernel_rfl
 i2 := by kernel_rfl
 i3 := by kernel_rfl
 i4 := by kernel_rfl
 i5 := by kernel_rfl
 i9 := by kernel_rfl
 i20 := by kernel_rfl
 i21 := by kernel_rfl
 i37 := by kernel_rfl
 i46 := by kernel_rfl
 i51 := by kernel_rfl
 i53 := by kernel_rfl
 i75 := by kernel_rfl
 i76 := by kernel_rfl
 i80 := by kernel_rfl
 i85 := by kernel_rfl
 i127 := by kernel_rfl
 i143 := by kernel_rfl
 i145 := by kernel_rfl
 i167 := by kernel_rfl
 i168 := by kernel_rfl
 i171 := by kernel_rfl
 i173 := by kernel_rfl
 i175 := by kernel_rfl
 i210 := by kernel_rfl
 i212 := by kernel_rfl
 i232 := by kernel_rfl
 i233 := by kernel_rfl
 m15 := by kernel_rfl
 m16 := by kernel_rfl
 m17 := by kernel_rfl
 m18 := by kernel_rfl
 m19 := by kernel_rfl
 c0 := by kernel_rfl
 c2 := by kernel_rfl
 c3 := by kernel_rfl
 c4 := by kernel_rfl
 c5 := by kernel_rfl
 c9 := by kernel_rfl
 c20 := by kernel_rfl
 c21 := by kernel_rfl
 c37 := by kernel_rfl
 c46 := by kernel_rfl
 c51 := by kernel_rfl
 c53 := by kernel_rfl
 c75 := by kernel_rfl
 c76 := by kernel_rfl
 c80 := by kernel_rfl
 c85 := by kernel_rfl
 c127 := by kernel_rfl
 c143 := by kernel_rfl
 c145 := by kernel_rfl
 c167 := by kernel_rfl
 c168 := by kernel_rfl
 c171 := by kernel_rfl
 c173 := by kernel_rfl
 c175 := by kernel_rfl
 c210 := by kernel_rfl
 c212 := by kernel_rfl
 c213 := by kernel_rfl
 c232 := by kernel_rfl
 c233 := by kernel_rfl }
open Go.RowKit in
theorem Tryd.strconv_Atoi_ok (s : ByteArray) (hmax : s.size ≤ 9223372036854775806) (v : Int) (h : Lib.atoiAll s.data.toList = .ok v) (w : World) :
  Calls Tryd.prog 62 #[.string s] w fun e w' => e = .returned (.tuple #[.int .i64 v, .nilIface]) ∧ (w' = w ∨ ∃ t, w' = Lib.bytesWorld w 5 t) := Any.strconv_Atoi_ok Tryd.laysC172 s hmax v h w
open Go.RowKit in
theorem Tryd.strconv_Atoi_syntax (s : ByteArray) (hlim : s.size ≤ 281474976710656) (h : Lib.atoiAll s.data.toList = .«syntax») (ev : Value) (w : World) (hv : w.cell? ⟨0, 0, none⟩ = some ev) (hev : ev = .nilIface ∨ ∃ te pe, ev = .iface te pe) :
  Calls Tryd.prog 62 #[.string s] w fun e w' => ∃ N, e = .returned (.tuple #[.int .i64 (0), .iface 94 (.pointer (some ⟨N, 0, none⟩))]) ∧ w.heap.size ≤ N ∧ w'.heap[N]? = some (.cells #[.string ⟨#[65, 116, 111, 105]⟩, .string s, ev] 112 (0, 0)) ∧ Below w.heap.size w w' := Any.strconv_Atoi_syntax Tryd.laysC172 s hlim h ev w hv hev
open Go.RowKit in
theorem Tryd.strconv_Atoi_range (s : ByteArray) (hlim : s.size ≤ 281474976710656) (h : Lib.atoiAll s.data.toList = .range) (ev : Value) (w : World) (hv : w.cell? ⟨1, 0, none⟩ = some ev) (hev : ev = .nilIface ∨ ∃ te pe, ev = .iface te pe) :
  Calls Tryd.prog 62 #[.string s] w fun e w' => ∃ N, e = .returned (.tuple #[.int .i64 (Lib.atoiSat s.data.toList), .iface 94 (.pointer (some ⟨N, 0, none⟩))]) ∧ w.heap.size ≤ N ∧ w'.heap[N]? = some (.cells #[.string ⟨#[65, 116, 111, 105]⟩, .string s, ev] 112 (0, 0)) ∧ Below w.heap.size w w' := Any.strconv_Atoi_range Tryd.laysC172 s hlim h ev w hv hev
def Tryd.lays143_ren : Go.Shelf.Ren := ⟨fun | 143 => 108 | 219 => 127 | 217 => 102 | 225 => 151 | 224 => 152 | 267 => 153 | 266 => 128 | 314 => 164 | n => n, fun | 9 => 9 | 3 => 3 | 4 => 4 | 5 => 5 | 46 => 87 | 146 => 149 | 51 => 106 | n => n, fun | 1 => 2 | n => n⟩
theorem Tryd.lays143 : Go.Proofs.Lays.n143 Tryd.prog Tryd.lays143_ren := {
 mixed := by kernel_rfl
 f143 := Tryd.func108.trans (congrArg some (by kernel_rfl))
 f217 := Tryd.func102.trans (congrArg some (by kernel_rfl))
 f219 := Tryd.func127.trans (congrArg some (by kernel_rfl))
 f224 := Tryd.func152.trans (congrArg some (by kernel_rfl))
 f225 := Tryd.func151.trans (congrArg some (by kernel_rfl))
 f266 := Tryd.func128.trans (congrArg some (by kernel_rfl))
 f267 := Tryd.func153.trans (congrArg some (by kernel_rfl))
 f314 := Tryd.func164.trans (congrArg some (by kernel_rfl))
 t3 := Tryd.underlying3
 a3 := Tryd.isAgg3
 z3 := Tryd.sizeOf3
 v3 := Tryd.zeroValue3
 t4 := Tryd.underlying4
 a4 := Tryd.isAgg4
 z4 := Tryd.sizeOf4
 v4 := Tryd.zeroValue4
 t5 := Tryd.underlying5
 a5 := Tryd.isAgg5
 z5 := Tryd.sizeOf5
 v5 := Tryd.zeroValue5
 t9 := Tryd.underlying9
 a9 := Tryd.isAgg9
 z9 := Tryd.sizeOf9
 v9 := Tryd.zeroValue9
 t46 := Tryd.underlying87
 a46 := Tryd.isAgg87
 z46 := Tryd.sizeOf87
 v46 := Tryd.zeroValue87
 t51 := Tryd.underlying106
 a51 := Tryd.isAgg106
 z51 := Tryd.sizeOf106
 v51 := Tryd.zeroValue106
 t146 := Tryd.underlying149
 a146 := Tryd.isAgg149
 z146 := Tryd.sizeOf149
 v146 := Tryd.zeroValue149
 g1 := by kernel_rfl }
open Go.RowKit Go.Lib in
theorem Tryd.strings_Index_one (s : ByteArray) (c : UInt8) (w : World) :
  Calls Tryd.prog 108 #[.string s, .string ⟨#[c]⟩] w fun e w' => e = .returned (.int .i64 (Lib.indexByte s.data.toList c)) ∧ w' = w := Any.strings_Index_one Tryd.lays143 s c w
def Tryd.lays145_ren : Go.Shelf.Ren := ⟨fun | 145 => 79 | 220 => 101 | 219 => 127 | 217 => 102 | 225 => 151 | 224 => 152 | 267 => 153 | 266 => 128 | 314 => 164 | n => n, fun | 9 => 9 | 4 => 4 | 59 => 72 | 3 => 3 | 5 => 5 | 46 => 87 | 146 => 149 | 51 => 106 | n => n, fun | 1 => 2 | n => n⟩
theorem Tryd.lays145 : Go.Proofs.Lays.n145 Tryd.prog Tryd.lays145_ren := {
 mixed := by kernel_rfl
 f145 := Tryd.func79.trans (congrArg some (by kernel_rfl))
 f217 := Tryd.func102.trans (congrArg some (by kernel_rfl))
 f219 := Tryd.func127.trans (congrArg some (by kernel_rfl))
 f220 := Tryd.func101.trans (congrArg some (by kernel_rfl))
 f224 := Tryd.func152.trans (congrArg some (by kernel_rfl))
 f225 := Tryd.func151.trans (congrArg some (by kernel_rfl))
 f266 := Tryd.func128.trans (congrArg some (by kernel_rfl))
 f267 := Tryd.func153.trans (congrArg some (by kernel_rfl))
 f314 := Tryd.func164.trans (congrArg some (by kernel_rfl))
 t3 := Tryd.underlying3
 a3 := Tryd.isAgg3
 z3 := Tryd.sizeOf3
 v3 := Tryd.zeroValue3
 t4 := Tryd.underlying4
 a4 := Tryd.isAgg4
 z4 := Tryd.sizeOf4
 v4 := Tryd.zeroValue4
 t5 := Tryd.underlying5
 a5 := Tryd.isAgg5
 z5 := Tryd.sizeOf5
 v5 := Tryd.zeroValue5
 t9 := Tryd.underlying9
 a9 := Tryd.isAgg9
 z9 := Tryd.sizeOf9
 v9 := Tryd.zeroValue9
 t46 := Tryd.underlying87
 a46 := Tryd.isAgg87
 z46 := Tryd.sizeOf87
 v46 := Tryd.zeroValue87
 t51 := Tryd.underlying106
 a51 := Tryd.isAgg106
 z51 := Tryd.sizeOf106
 v51 := Tryd.zeroValue106
 t59 := Tryd.underlying72
 a59 := Tryd.isAgg72
 z59 := Tryd.sizeOf72
 v59 := Tryd.zeroValue72
 t146 := Tryd.underlying149
 a146 := Tryd.isAgg149
 z146 := Tryd.sizeOf149
 v146 := Tryd.zeroValue149
 g1 := by kernel_rfl }
open Go.RowKit Go.Lib in
theorem Tryd.strings_Cut (s sep : ByteArray) (m : Int) (w : World) (hs : s.size < 4294967281) (hm : w.cell? ⟨2, 0, none⟩ = some (.int .i64 m)) :
  Calls Tryd.prog 79 #[.string s, .string sep] w fun e w' => e = .returned (.tuple #[.string ⟨(Lib.cut s.data.toList sep.data.toList).1.toArray⟩, .string ⟨(Lib.cut s.data.toList sep.data.toList).2.1.toArray⟩, .bool (Lib.cut s.data.toList sep.data.toList).2.2]) ∧ ∃ n, w' = w.drewN n := Any.strings_Cut Tryd.lays145 s sep m w hs hm
def Tryd.lays149_ren : Go.Shelf.Ren := ⟨fun | 149 => 103 | 222 => 129 | n => n, fun | 9 => 9 | 5 => 5 | 3 => 3 | 4 => 4 | n => n, fun | n => n⟩
theorem Tryd.lays149 : Go.Proofs.Lays.n149 Tryd.prog Tryd.lays149_ren := {
 mixed := by kernel_rfl
 f149 := Tryd.func103.trans (congrArg some (by kernel_rfl))
 f222 := Tryd.func129.trans (congrArg some (by kernel_rfl))
 t3 := Tryd.underlying3
 a3 := Tryd.isAgg3
 z3 := Tryd.sizeOf3
 v3 := Tryd.zeroValue3
 t4 := Tryd.underlying4
 a4 := Tryd.isAgg4
 z4 := Tryd.sizeOf4
 v4 := Tryd.zeroValue4
 t5 := Tryd.underlying5
 a5 := Tryd.isAgg5
 z5 := Tryd.sizeOf5
 v5 := Tryd.zeroValue5
 t9 := Tryd.underlying9
 a9 := Tryd.isAgg9
 z9 := Tryd.sizeOf9
 v9 := Tryd.zeroValue9 }
open Go.RowKit Go.Lib in
theorem Tryd.strings_LastIndexByte (s : ByteArray) (c : Int) (hs : s.size < 4611686018427387904) (w : World) :
  Calls Tryd.prog 103 #[.string s, .int .u8 c] w fun e w' => e = .returned (.int .i64 (Lib.lastIndexByte s c)) ∧ w' = w := Any.strings_LastIndexByte Tryd.lays149 s c hs w
def Tryd.lays99_ren : Go.Shelf.Ren := ⟨fun | 99 => 75 | 206 => 98 | n => n, fun | 9 => 9 | 4 => 4 | 3 => 3 | n => n, fun | n => n⟩
theorem Tryd.lays99 : Go.Proofs.Lays.n99 Tryd.prog Tryd.lays99_ren := {
 mixed := by kernel_rfl
 f99 := Tryd.func75.trans (congrArg some (by kernel_rfl))
 f206 := Tryd.func98.trans (congrArg some (by kernel_rfl))
 t3 := Tryd.underlying3
 a3 := Tryd.isAgg3
 z3 := Tryd.sizeOf3
 v3 := Tryd.zeroValue3
 t4 := Tryd.underlying4
 a4 := Tryd.isAgg4
 z4 := Tryd.sizeOf4
 v4 := Tryd.zeroValue4
 t9 := Tryd.underlying9
 a9 := Tryd.isAgg9
 z9 := Tryd.sizeOf9
 v9 := Tryd.zeroValue9 }
open Go.RowKit Go.Lib in
theorem Tryd.strings_HasPrefix (s p : ByteArray) (w : World) :
  Calls Tryd.prog 75 #[.string s, .string p] w fun e w' => e = .returned (.bool (Lib.hasPrefix s.data.toList p.data.toList)) ∧ w' = w := Any.strings_HasPrefix Tryd.lays99 s p w
def Tryd.lays102_ren : Go.Shelf.Ren := ⟨fun | 102 => 89 | 209 => 105 | 207 => 92 | n => n, fun | 9 => 9 | 4 => 4 | 3 => 3 | n => n, fun | n => n⟩
theorem Tryd.lays102 : Go.Proofs.Lays.n102 Tryd.prog Tryd.lays102_ren := {
 mixed := by kernel_rfl
 f102 := Tryd.func89.trans (congrArg some (by kernel_rfl))
 f207 := Tryd.func92.trans (congrArg some (by kernel_rfl))
 f209 := Tryd.func105.trans (congrArg some (by kernel_rfl))
 t3 := Tryd.underlying3
 a3 := Tryd.isAgg3
 z3 := Tryd.sizeOf3
 v3 := Tryd.zeroValue3
 t4 := Tryd.underlying4
 a4 := Tryd.isAgg4
 z4 := Tryd.sizeOf4
 v4 := Tryd.zeroValue4
 t9 := Tryd.underlying9
 a9 := Tryd.isAgg9
 z9 := Tryd.sizeOf9
 v9 := Tryd.zeroValue9 }
open Go.RowKit Go.Lib in
theorem Tryd.strings_TrimSuffix (s p : ByteArray) (w : World) (hs : s.size ≤ 9223372036854775807) :
  Calls Tryd.prog 89 #[.string s, .string p] w fun e w' => e = .returned (.string ⟨(Lib.trimSuffix s.data.toList p.data.toList).toArray⟩) ∧ w' = w := Any.strings_TrimSuffix Tryd.lays102 s p w hs
end Go.Proofs
