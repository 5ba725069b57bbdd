/-
 DERIVED: THE SHELF's CONTRACTS AT THIS DUMP, IN PLAIN WORDS (tools/lay-plain.mjs out of 'TryzShelf.lean', which tools/lay-shelf.mjs wrote): THE SAME DECLARATIONS UNDER THE SAME NAMES: 'import', 'namespace', 'open', 'def', 'theorem' AND NOTHING ELSE: no command of the shelf's: FOR A HAND-IN. Each laying: the table of numbers ('.._ren') and one theorem, a field a fact of the dump's own or the kernel's comparison; each contract: ONE APPLICATION.
-/
import Derived.Shelf.Strings.Builder1
import Derived.Shelf.Strings.Builder2
import Derived.Shelf.Strings.OnBuilder
import Derived.Shelf.Strings.Trim
import Derived.Shelf.Small.Utf8
import Derived.Shelf.Small.Bits
import Derived.Shelf.Small.Strs
import Derived.Shelf.Strings.BuilderF
import Derived.Shelf.Utf8.RuneCount
import Derived.Shelf.Strconv.Itoa0
import Derived.Shelf.Strings.Search1
import Derived.Shelf.Strings.Search2
import Derived.Shelf.Strings.Search3
import Derived.Shelf.Strings.Cut
import Derived.Shelf.Strings.Count
import Derived.Shelf.LaysM
import Derived.Shelf.Strings.Shaped
import Derived.Shelf.Sort.Plain
import Derived.Shelf.Strings.Split
import Derived.Shelf.Strings.SplitShaped
import Derived.Shelf.Strings.Runes
import Derived.Shelf.Strings.AsciiSet
import Derived.Shelf.Unicode.DecodeSlow
import Derived.Shelf.Slices.Turned
import Derived.Shelf.Slices.CompactS
import Derived.Shelf.Slices.Cells
import Derived.Shelf.Slices.In.SortNone
import Derived.Test.YtfibkgmbgdaeoaaGreatDoorProg
namespace Go.Proofs
open Go.Shelf
def Tryz.lays156_ren : Go.Shelf.Ren := ⟨fun | 156 => 23 | 165 => 48 | 166 => 49 | 169 => 50 | 240 => 66 | 241 => 67 | 276 => 87 | 277 => 88 | n => n, fun | 31 => 31 | 9 => 9 | 3 => 3 | 4 => 4 | 0 => 0 | 20 => 20 | 72 => 67 | 76 => 71 | 70 => 64 | 37 => 65 | 75 => 70 | 127 => 83 | 164 => 100 | 5 => 5 | 80 => 73 | n => n, fun | n => n⟩
theorem Tryz.lays156 : Go.Proofs.Lays.n156 Tryz.prog Tryz.lays156_ren := {
 mixed := by kernel_rfl
 f156 := Tryz.func23.trans (congrArg some (by kernel_rfl))
 f165 := Tryz.func48.trans (congrArg some (by kernel_rfl))
 f166 := Tryz.func49.trans (congrArg some (by kernel_rfl))
 f169 := Tryz.func50.trans (congrArg some (by kernel_rfl))
 f240 := Tryz.func66.trans (congrArg some (by kernel_rfl))
 f241 := Tryz.func67.trans (congrArg some (by kernel_rfl))
 f276 := Tryz.func87.trans (congrArg some (by kernel_rfl))
 f277 := Tryz.func88.trans (congrArg some (by kernel_rfl))
 t0 := Tryz.underlying0
 a0 := Tryz.isAgg0
 z0 := Tryz.sizeOf0
 v0 := Tryz.zeroValue0
 t3 := Tryz.underlying3
 a3 := Tryz.isAgg3
 z3 := Tryz.sizeOf3
 v3 := Tryz.zeroValue3
 t4 := Tryz.underlying4
 a4 := Tryz.isAgg4
 z4 := Tryz.sizeOf4
 v4 := Tryz.zeroValue4
 t9 := Tryz.underlying9
 a9 := Tryz.isAgg9
 z9 := Tryz.sizeOf9
 v9 := Tryz.zeroValue9
 t20 := Tryz.underlying20
 a20 := Tryz.isAgg20
 z20 := Tryz.sizeOf20
 v20 := Tryz.zeroValue20
 t31 := Tryz.underlying31
 a31 := Tryz.isAgg31
 z31 := Tryz.sizeOf31
 v31 := Tryz.zeroValue31
 t37 := Tryz.underlying65
 a37 := Tryz.isAgg65
 z37 := Tryz.sizeOf65
 v37 := Tryz.zeroValue65
 t70 := Tryz.underlying64
 a70 := Tryz.isAgg64
 z70 := Tryz.sizeOf64
 v70 := Tryz.zeroValue64
 t72 := Tryz.underlying67
 a72 := Tryz.isAgg67
 z72 := Tryz.sizeOf67
 v72 := Tryz.zeroValue67
 t75 := Tryz.underlying70
 a75 := Tryz.isAgg70
 z75 := Tryz.sizeOf70
 v75 := Tryz.zeroValue70
 t76 := Tryz.underlying71
 a76 := Tryz.isAgg71
 z76 := Tryz.sizeOf71
 v76 := Tryz.zeroValue71
 t127 := Tryz.underlying83
 a127 := Tryz.isAgg83
 z127 := Tryz.sizeOf83
 v127 := Tryz.zeroValue83
 t164 := Tryz.underlying100
 a164 := Tryz.isAgg100
 z164 := Tryz.sizeOf100
 v164 := Tryz.zeroValue100 }
theorem Tryz.Builder_Extra_156 : Builder.Extra Tryz.prog Tryz.lays156_ren := {
 sizeBuilder := by kernel_rfl
 liesBuilder := by kernel_rfl
 t5 := Tryz.underlying5
 a5 := Tryz.isAgg5
 z5 := Tryz.sizeOf5
 v5 := Tryz.zeroValue5
 infoByte := by kernel_rfl
 cellsByte := by kernel_rfl
 sizeByte := by kernel_rfl
 neB5 := by decide }
open Go.RowKit in
theorem Tryz.strings_Join_none (a : Option Addr) (c : Nat) (sep : ByteArray) (w : World) :
  Calls Tryz.prog 23 #[.slice a 0 c, .string sep] w fun e w' => e = .returned (.string ⟨#[]⟩) ∧ w' = w := Any.strings_Join_none Tryz.lays156 Tryz.Builder_Extra_156 a c sep w
open Go.RowKit in
theorem Tryz.strings_Join (bk o c : Nat) (xs : List ByteArray) (sep : ByteArray) (w : World) (hcells : ∀ (j : Nat) x, xs[j]? = some x → w.cell? ⟨bk, o + j, none⟩ = some (.string x)) (hbk : bk < w.heap.size) (hN : xs.length ≤ 140737488355328) (hcap : xs.length ≤ c) (hlen : (Lib.join (xs.map (·.data.toList)) sep.data.toList).length ≤ 140737488355328) :
  Calls Tryz.prog 23 #[.slice (some ⟨bk, o, none⟩) xs.length c, .string sep] w fun e w' => e = .returned (.string ⟨(Lib.join (xs.map (·.data.toList)) sep.data.toList).toArray⟩) ∧ Below w.heap.size w w' := Any.strings_Join Tryz.lays156 Tryz.Builder_Extra_156 bk o c xs sep w hcells hbk hN hcap hlen
def Tryz.lays160_ren : Go.Shelf.Ren := ⟨fun | 160 => 90 | 232 => 103 | 231 => 102 | 227 => 104 | 234 => 106 | 233 => 105 | 236 => 108 | 235 => 107 | 228 => 115 | 271 => 117 | 151 => 116 | 197 => 113 | 120 => 123 | 152 => 122 | 260 => 121 | 137 => 74 | 119 => 125 | 224 => 119 | 225 => 118 | 217 => 91 | 266 => 109 | n => n, fun | 9 => 9 | 4 => 4 | 3 => 3 | 5 => 5 | 117 => 116 | 116 => 115 | 0 => 0 | 124 => 119 | 21 => 21 | 105 => 123 | 46 => 82 | 119 => 130 | 139 => 133 | 138 => 132 | n => n, fun | 3 => 1 | 4 => 2 | n => n⟩
theorem Tryz.lays160 : Go.Proofs.Lays.n160 Tryz.prog Tryz.lays160_ren := {
 mixed := by kernel_rfl
 f119 := Tryz.func125.trans (congrArg some (by kernel_rfl))
 f120 := Tryz.func123.trans (congrArg some (by kernel_rfl))
 f137 := Tryz.func74.trans (congrArg some (by kernel_rfl))
 f151 := Tryz.func116.trans (congrArg some (by kernel_rfl))
 f152 := Tryz.func122.trans (congrArg some (by kernel_rfl))
 f160 := Tryz.func90.trans (congrArg some (by kernel_rfl))
 f197 := Tryz.func113.trans (congrArg some (by kernel_rfl))
 f217 := Tryz.func91.trans (congrArg some (by kernel_rfl))
 f224 := Tryz.func119.trans (congrArg some (by kernel_rfl))
 f225 := Tryz.func118.trans (congrArg some (by kernel_rfl))
 f227 := Tryz.func104.trans (congrArg some (by kernel_rfl))
 f228 := Tryz.func115.trans (congrArg some (by kernel_rfl))
 f231 := Tryz.func102.trans (congrArg some (by kernel_rfl))
 f232 := Tryz.func103.trans (congrArg some (by kernel_rfl))
 f233 := Tryz.func105.trans (congrArg some (by kernel_rfl))
 f234 := Tryz.func106.trans (congrArg some (by kernel_rfl))
 f235 := Tryz.func107.trans (congrArg some (by kernel_rfl))
 f236 := Tryz.func108.trans (congrArg some (by kernel_rfl))
 f260 := Tryz.func121.trans (congrArg some (by kernel_rfl))
 f266 := Tryz.func109.trans (congrArg some (by kernel_rfl))
 f271 := Tryz.func117.trans (congrArg some (by kernel_rfl))
 t0 := Tryz.underlying0
 a0 := Tryz.isAgg0
 z0 := Tryz.sizeOf0
 v0 := Tryz.zeroValue0
 t3 := Tryz.underlying3
 a3 := Tryz.isAgg3
 z3 := Tryz.sizeOf3
 v3 := Tryz.zeroValue3
 t4 := Tryz.underlying4
 a4 := Tryz.isAgg4
 z4 := Tryz.sizeOf4
 v4 := Tryz.zeroValue4
 t5 := Tryz.underlying5
 a5 := Tryz.isAgg5
 z5 := Tryz.sizeOf5
 v5 := Tryz.zeroValue5
 t9 := Tryz.underlying9
 a9 := Tryz.isAgg9
 z9 := Tryz.sizeOf9
 v9 := Tryz.zeroValue9
 t21 := Tryz.underlying21
 a21 := Tryz.isAgg21
 z21 := Tryz.sizeOf21
 v21 := Tryz.zeroValue21
 t46 := Tryz.underlying82
 a46 := Tryz.isAgg82
 z46 := Tryz.sizeOf82
 v46 := Tryz.zeroValue82
 t105 := Tryz.underlying123
 a105 := Tryz.isAgg123
 z105 := Tryz.sizeOf123
 v105 := Tryz.zeroValue123
 t116 := Tryz.underlying115
 a116 := Tryz.isAgg115
 z116 := Tryz.sizeOf115
 t117 := Tryz.underlying116
 a117 := Tryz.isAgg116
 z117 := Tryz.sizeOf116
 v117 := Tryz.zeroValue116
 t119 := Tryz.underlying130
 a119 := Tryz.isAgg130
 z119 := Tryz.sizeOf130
 t124 := Tryz.underlying119
 a124 := Tryz.isAgg119
 z124 := Tryz.sizeOf119
 v124 := Tryz.zeroValue119
 t138 := Tryz.underlying132
 a138 := Tryz.isAgg132
 z138 := Tryz.sizeOf132
 v138 := Tryz.zeroValue132
 t139 := Tryz.underlying133
 a139 := Tryz.isAgg133
 z139 := Tryz.sizeOf133
 v139 := Tryz.zeroValue133
 g3 := by kernel_rfl
 g4 := by kernel_rfl }
def Tryz.lays137_ren : Go.Shelf.Ren := ⟨fun | 137 => 74 | 217 => 91 | 266 => 109 | n => n, fun | 9 => 9 | 5 => 5 | 3 => 3 | n => n, fun | n => n⟩
theorem Tryz.lays137 : Go.Proofs.Lays.n137 Tryz.prog Tryz.lays137_ren := {
 mixed := by kernel_rfl
 f137 := Tryz.func74.trans (congrArg some (by kernel_rfl))
 f217 := Tryz.func91.trans (congrArg some (by kernel_rfl))
 f266 := Tryz.func109.trans (congrArg some (by kernel_rfl))
 t3 := Tryz.underlying3
 a3 := Tryz.isAgg3
 z3 := Tryz.sizeOf3
 v3 := Tryz.zeroValue3
 t5 := Tryz.underlying5
 a5 := Tryz.isAgg5
 z5 := Tryz.sizeOf5
 v5 := Tryz.zeroValue5
 t9 := Tryz.underlying9
 a9 := Tryz.isAgg9
 z9 := Tryz.sizeOf9
 v9 := Tryz.zeroValue9 }
open Go.RowKit in
theorem Tryz.strings_IndexByte (s : ByteArray) (c : Int) (w : World) :
  Calls Tryz.prog 74 #[.string s, .int .u8 c] w fun e w' => e = .returned (.int .i64 (Lib.indexByte s.data.toList c.toNat.toUInt8)) ∧ w' = w := Any.strings_IndexByte Tryz.lays137 s c w
def Tryz.lays145_ren : Go.Shelf.Ren := ⟨fun | 145 => 75 | 220 => 92 | 219 => 110 | 217 => 91 | 225 => 118 | 224 => 119 | 267 => 120 | 266 => 109 | 314 => 124 | n => n, fun | 9 => 9 | 4 => 4 | 59 => 88 | 3 => 3 | 5 => 5 | 46 => 82 | 146 => 128 | 51 => 98 | n => n, fun | 1 => 0 | n => n⟩
theorem Tryz.lays145 : Go.Proofs.Lays.n145 Tryz.prog Tryz.lays145_ren := {
 mixed := by kernel_rfl
 f145 := Tryz.func75.trans (congrArg some (by kernel_rfl))
 f217 := Tryz.func91.trans (congrArg some (by kernel_rfl))
 f219 := Tryz.func110.trans (congrArg some (by kernel_rfl))
 f220 := Tryz.func92.trans (congrArg some (by kernel_rfl))
 f224 := Tryz.func119.trans (congrArg some (by kernel_rfl))
 f225 := Tryz.func118.trans (congrArg some (by kernel_rfl))
 f266 := Tryz.func109.trans (congrArg some (by kernel_rfl))
 f267 := Tryz.func120.trans (congrArg some (by kernel_rfl))
 f314 := Tryz.func124.trans (congrArg some (by kernel_rfl))
 t3 := Tryz.underlying3
 a3 := Tryz.isAgg3
 z3 := Tryz.sizeOf3
 v3 := Tryz.zeroValue3
 t4 := Tryz.underlying4
 a4 := Tryz.isAgg4
 z4 := Tryz.sizeOf4
 v4 := Tryz.zeroValue4
 t5 := Tryz.underlying5
 a5 := Tryz.isAgg5
 z5 := Tryz.sizeOf5
 v5 := Tryz.zeroValue5
 t9 := Tryz.underlying9
 a9 := Tryz.isAgg9
 z9 := Tryz.sizeOf9
 v9 := Tryz.zeroValue9
 t46 := Tryz.underlying82
 a46 := Tryz.isAgg82
 z46 := Tryz.sizeOf82
 v46 := Tryz.zeroValue82
 t51 := Tryz.underlying98
 a51 := Tryz.isAgg98
 z51 := Tryz.sizeOf98
 v51 := Tryz.zeroValue98
 t59 := Tryz.underlying88
 a59 := Tryz.isAgg88
 z59 := Tryz.sizeOf88
 v59 := Tryz.zeroValue88
 t146 := Tryz.underlying128
 a146 := Tryz.isAgg128
 z146 := Tryz.sizeOf128
 v146 := Tryz.zeroValue128
 g1 := by kernel_rfl }
open Go.RowKit Go.Lib in
theorem Tryz.strings_Cut (s sep : ByteArray) (m : Int) (w : World) (hs : s.size < 4294967281) (hm : w.cell? ⟨0, 0, none⟩ = some (.int .i64 m)) :
  Calls Tryz.prog 75 #[.string s, .string sep] w fun e w' => e = .returned (.tuple #[.string ⟨(Lib.cut s.data.toList sep.data.toList).1.toArray⟩, .string ⟨(Lib.cut s.data.toList sep.data.toList).2.1.toArray⟩, .bool (Lib.cut s.data.toList sep.data.toList).2.2]) ∧ ∃ n, w' = w.drewN n := Any.strings_Cut Tryz.lays145 s sep m w hs hm
def Tryz.lays190_ren : Go.Shelf.Ren := ⟨fun | 190 => 42 | 125 => 65 | 258 => 64 | 128 => 85 | 129 => 86 | 302 => 76 | 303 => 77 | 304 => 78 | 305 => 79 | 306 => 80 | 307 => 81 | 308 => 82 | 309 => 83 | 310 => 84 | 333 => 93 | 329 => 94 | 330 => 95 | 334 => 96 | 335 => 97 | 336 => 98 | 344 => 111 | n => n, fun | 31 => 31 | 9 => 9 | 3 => 3 | 46 => 82 | 0 => 0 | 51 => 98 | 53 => 86 | 4 => 4 | 183 => 92 | 182 => 91 | 131 => 55 | 5 => 5 | 218 => 105 | 222 => 109 | 228 => 120 | 229 => 121 | n => n, fun | n => n⟩
theorem Tryz.lays190 : Go.Proofs.Lays.n190 Tryz.prog Tryz.lays190_ren := {
 mixed := by kernel_rfl
 f125 := Tryz.func65.trans (congrArg some (by kernel_rfl))
 f128 := Tryz.func85.trans (congrArg some (by kernel_rfl))
 f129 := Tryz.func86.trans (congrArg some (by kernel_rfl))
 f190 := Tryz.func42.trans (congrArg some (by kernel_rfl))
 f258 := Tryz.func64.trans (congrArg some (by kernel_rfl))
 f302 := Tryz.func76.trans (congrArg some (by kernel_rfl))
 f303 := Tryz.func77.trans (congrArg some (by kernel_rfl))
 f304 := Tryz.func78.trans (congrArg some (by kernel_rfl))
 f305 := Tryz.func79.trans (congrArg some (by kernel_rfl))
 f306 := Tryz.func80.trans (congrArg some (by kernel_rfl))
 f307 := Tryz.func81.trans (congrArg some (by kernel_rfl))
 f308 := Tryz.func82.trans (congrArg some (by kernel_rfl))
 f309 := Tryz.func83.trans (congrArg some (by kernel_rfl))
 f310 := Tryz.func84.trans (congrArg some (by kernel_rfl))
 f329 := Tryz.func94.trans (congrArg some (by kernel_rfl))
 f330 := Tryz.func95.trans (congrArg some (by kernel_rfl))
 f333 := Tryz.func93.trans (congrArg some (by kernel_rfl))
 f334 := Tryz.func96.trans (congrArg some (by kernel_rfl))
 f335 := Tryz.func97.trans (congrArg some (by kernel_rfl))
 f336 := Tryz.func98.trans (congrArg some (by kernel_rfl))
 f344 := Tryz.func111.trans (congrArg some (by kernel_rfl))
 t0 := Tryz.underlying0
 a0 := Tryz.isAgg0
 z0 := Tryz.sizeOf0
 v0 := Tryz.zeroValue0
 t3 := Tryz.underlying3
 a3 := Tryz.isAgg3
 z3 := Tryz.sizeOf3
 v3 := Tryz.zeroValue3
 t4 := Tryz.underlying4
 a4 := Tryz.isAgg4
 z4 := Tryz.sizeOf4
 v4 := Tryz.zeroValue4
 t5 := Tryz.underlying5
 a5 := Tryz.isAgg5
 z5 := Tryz.sizeOf5
 v5 := Tryz.zeroValue5
 t9 := Tryz.underlying9
 a9 := Tryz.isAgg9
 z9 := Tryz.sizeOf9
 v9 := Tryz.zeroValue9
 t31 := Tryz.underlying31
 a31 := Tryz.isAgg31
 z31 := Tryz.sizeOf31
 v31 := Tryz.zeroValue31
 t46 := Tryz.underlying82
 a46 := Tryz.isAgg82
 z46 := Tryz.sizeOf82
 v46 := Tryz.zeroValue82
 t51 := Tryz.underlying98
 a51 := Tryz.isAgg98
 z51 := Tryz.sizeOf98
 v51 := Tryz.zeroValue98
 t53 := Tryz.underlying86
 a53 := Tryz.isAgg86
 z53 := Tryz.sizeOf86
 v53 := Tryz.zeroValue86
 t131 := Tryz.underlying55
 a131 := Tryz.isAgg55
 z131 := Tryz.sizeOf55
 v131 := Tryz.zeroValue55
 t182 := Tryz.underlying91
 a182 := Tryz.isAgg91
 z182 := Tryz.sizeOf91
 v182 := Tryz.zeroValue91
 t183 := Tryz.underlying92
 a183 := Tryz.isAgg92
 z183 := Tryz.sizeOf92
 v183 := Tryz.zeroValue92
 t218 := Tryz.underlying105
 a218 := Tryz.isAgg105
 z218 := Tryz.sizeOf105
 v218 := Tryz.zeroValue105
 t222 := Tryz.underlying109
 a222 := Tryz.isAgg109
 z222 := Tryz.sizeOf109
 v222 := Tryz.zeroValue109
 t228 := Tryz.underlying120
 a228 := Tryz.isAgg120
 z228 := Tryz.sizeOf120
 v228 := Tryz.zeroValue120
 t229 := Tryz.underlying121
 a229 := Tryz.isAgg121
 z229 := Tryz.sizeOf121
 v229 := Tryz.zeroValue121 }
open Go.Sort Go.RowKit in
theorem Tryz.slices_Sort_string (blk off cap : Nat) (ss : List (List UInt8)) (w : World) (hH : Holds encStr w blk off ss.toArray) (hblk : blk < w.heap.size) (hsz : ss.length < 4611686018427387904) :
  Calls Tryz.prog 42 #[.slice (some ⟨blk, off, none⟩) ss.length cap] w fun e w' =>
   e = .returned (.tuple #[]) ∧ ∃ n os, w' = grow (putRow encStr (Sort.ahead w n) blk off (ss.mergeSort fun x y => decide (x ≤ y)).toArray) os := Any.slices_Sort_string Tryz.lays190 blk off cap ss w hH hblk hsz
def Tryz.lays146_ren : Go.Shelf.Ren := ⟨fun | 146 => 68 | 221 => 89 | 268 => 99 | 138 => 100 | 143 => 101 | 195 => 112 | 197 => 113 | 218 => 114 | 219 => 110 | 260 => 121 | 217 => 91 | 225 => 118 | 224 => 119 | 267 => 120 | 266 => 109 | 314 => 124 | n => n, fun | 9 => 9 | 31 => 31 | 3 => 3 | 4 => 4 | 0 => 0 | 105 => 123 | 21 => 21 | 5 => 5 | 46 => 82 | 119 => 130 | 139 => 133 | 138 => 132 | 146 => 128 | 51 => 98 | n => n, fun | 1 => 0 | 3 => 1 | 4 => 2 | n => n⟩
theorem Tryz.lays146 : Go.Proofs.Lays.n146 Tryz.prog Tryz.lays146_ren := {
 mixed := by kernel_rfl
 f138 := Tryz.func100.trans (congrArg some (by kernel_rfl))
 f143 := Tryz.func101.trans (congrArg some (by kernel_rfl))
 f146 := Tryz.func68.trans (congrArg some (by kernel_rfl))
 f195 := Tryz.func112.trans (congrArg some (by kernel_rfl))
 f197 := Tryz.func113.trans (congrArg some (by kernel_rfl))
 f217 := Tryz.func91.trans (congrArg some (by kernel_rfl))
 f218 := Tryz.func114.trans (congrArg some (by kernel_rfl))
 f219 := Tryz.func110.trans (congrArg some (by kernel_rfl))
 f221 := Tryz.func89.trans (congrArg some (by kernel_rfl))
 f224 := Tryz.func119.trans (congrArg some (by kernel_rfl))
 f225 := Tryz.func118.trans (congrArg some (by kernel_rfl))
 f260 := Tryz.func121.trans (congrArg some (by kernel_rfl))
 f266 := Tryz.func109.trans (congrArg some (by kernel_rfl))
 f267 := Tryz.func120.trans (congrArg some (by kernel_rfl))
 f268 := Tryz.func99.trans (congrArg some (by kernel_rfl))
 f314 := Tryz.func124.trans (congrArg some (by kernel_rfl))
 t0 := Tryz.underlying0
 a0 := Tryz.isAgg0
 z0 := Tryz.sizeOf0
 v0 := Tryz.zeroValue0
 t3 := Tryz.underlying3
 a3 := Tryz.isAgg3
 z3 := Tryz.sizeOf3
 v3 := Tryz.zeroValue3
 t4 := Tryz.underlying4
 a4 := Tryz.isAgg4
 z4 := Tryz.sizeOf4
 v4 := Tryz.zeroValue4
 t5 := Tryz.underlying5
 a5 := Tryz.isAgg5
 z5 := Tryz.sizeOf5
 v5 := Tryz.zeroValue5
 t9 := Tryz.underlying9
 a9 := Tryz.isAgg9
 z9 := Tryz.sizeOf9
 v9 := Tryz.zeroValue9
 t21 := Tryz.underlying21
 a21 := Tryz.isAgg21
 z21 := Tryz.sizeOf21
 v21 := Tryz.zeroValue21
 t31 := Tryz.underlying31
 a31 := Tryz.isAgg31
 z31 := Tryz.sizeOf31
 v31 := Tryz.zeroValue31
 t46 := Tryz.underlying82
 a46 := Tryz.isAgg82
 z46 := Tryz.sizeOf82
 v46 := Tryz.zeroValue82
 t51 := Tryz.underlying98
 a51 := Tryz.isAgg98
 z51 := Tryz.sizeOf98
 v51 := Tryz.zeroValue98
 t105 := Tryz.underlying123
 a105 := Tryz.isAgg123
 z105 := Tryz.sizeOf123
 v105 := Tryz.zeroValue123
 t119 := Tryz.underlying130
 a119 := Tryz.isAgg130
 z119 := Tryz.sizeOf130
 t138 := Tryz.underlying132
 a138 := Tryz.isAgg132
 z138 := Tryz.sizeOf132
 v138 := Tryz.zeroValue132
 t139 := Tryz.underlying133
 a139 := Tryz.isAgg133
 z139 := Tryz.sizeOf133
 v139 := Tryz.zeroValue133
 t146 := Tryz.underlying128
 a146 := Tryz.isAgg128
 z146 := Tryz.sizeOf128
 v146 := Tryz.zeroValue128
 g1 := by kernel_rfl
 g3 := by kernel_rfl
 g4 := by kernel_rfl }
open Go.RowKit Go.Lib in
theorem Tryz.strings_Split (s sep : ByteArray) (m : Int) (w : World) (hs : s.size < 4294967281) (hm : w.cell? ⟨0, 0, none⟩ = some (.int .i64 m)) (h1 : 1 ≤ sep.size) :
  Calls Tryz.prog 68 #[.string s, .string sep] w fun e w' =>
   e = .returned (.slice (some ⟨w.heap.size, 0, none⟩) (Lib.countB s sep + 1) (Lib.countB s sep + 1)) ∧ w' = w.alloc (.cells ((Lib.splitB sep 0 (Lib.countB s sep) s).map Value.string).toArray 9) := Any.strings_Split Tryz.lays146 (by kernel_rfl) s sep m w hs hm h1
def Tryz.lays194_ren : Go.Shelf.Ren := ⟨fun | 194 => 44 | n => n, fun | 31 => 31 | 9 => 9 | 3 => 3 | 4 => 4 | 0 => 0 | n => n, fun | n => n⟩
theorem Tryz.lays194 : Go.Proofs.Lays.n194 Tryz.prog Tryz.lays194_ren := {
 mixed := by kernel_rfl
 f194 := Tryz.func44.trans (congrArg some (by kernel_rfl))
 t0 := Tryz.underlying0
 a0 := Tryz.isAgg0
 z0 := Tryz.sizeOf0
 v0 := Tryz.zeroValue0
 t3 := Tryz.underlying3
 a3 := Tryz.isAgg3
 z3 := Tryz.sizeOf3
 v3 := Tryz.zeroValue3
 t4 := Tryz.underlying4
 a4 := Tryz.isAgg4
 z4 := Tryz.sizeOf4
 v4 := Tryz.zeroValue4
 t9 := Tryz.underlying9
 a9 := Tryz.isAgg9
 z9 := Tryz.sizeOf9
 v9 := Tryz.zeroValue9
 t31 := Tryz.underlying31
 a31 := Tryz.isAgg31
 z31 := Tryz.sizeOf31
 v31 := Tryz.zeroValue31 }
open Go.RowKit Go.Lib Go.Sort in
theorem Tryz.slices_Compact_string (blk off cap : Nat) (zs : List (List UInt8)) (w : World) (hH : Holds encStr w blk off zs.toArray) (hsz : zs.length ≤ 9223372036854775807) (hcap : zs.length ≤ cap) :
  Calls Tryz.prog 44 #[.slice (some ⟨blk, off, none⟩) zs.length cap] w fun e w' => e = .returned (.slice (some ⟨blk, off, none⟩) (Lib.compact zs).length cap) ∧ ∃ q, w' = putRow encStr (Sort.ahead w q) blk off (Lib.compact zs ++ List.replicate (zs.length - (Lib.compact zs).length) []).toArray := Any.slices_Compact_string Tryz.lays194 blk off cap zs w hH hsz hcap
open Go.RowKit Go.Lib Go.Sort in
theorem Tryz.slices_Compact_string_empty (a : Option Addr) (cap : Nat) (w : World) :
  Calls Tryz.prog 44 #[.slice a 0 cap] w fun e w' => e = .returned (.slice a 0 cap) ∧ w' = w := Any.slices_Compact_string_empty Tryz.lays194 a cap w
open Go.RowKit Go.Sort in
theorem Tryz.slices_Sort_string_none (p : Option Addr) (cap : Nat) (w : World) :
  Calls Tryz.prog 42 #[.slice p 0 cap] w fun e w' => e = .returned (.tuple #[]) ∧ w' = w := Any.slices_Sort_string_none Tryz.lays190 p cap w
end Go.Proofs
