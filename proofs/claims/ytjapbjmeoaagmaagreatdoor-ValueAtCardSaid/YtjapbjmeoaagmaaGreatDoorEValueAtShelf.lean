/- A text of this proof. -/
import Derived.Shelf.Strings.Trim
import Derived.Shelf.Small.Utf8
import Derived.Shelf.Small.Strs
import Derived.Shelf.Small.Wraps
import Derived.Shelf.Strconv.Itoa0
import Derived.Shelf.Strconv.Itoa1
import Derived.Shelf.LaysM
import Derived.Shelf.Strconv.Itoa2
import Derived.Shelf.Strconv.Itoa3
import Derived.Shelf.Strings.Search1
import Derived.Shelf.Strings.Search2
import Derived.Shelf.Strings.Search3
import Derived.Shelf.Strings.Count
import Derived.Shelf.Strings.Shaped
import Derived.Shelf.Strings.Prefix
import Derived.Shelf.Strings.Runes
import Derived.Shelf.Strings.AsciiSet
import Derived.Shelf.Bits.Mul64
import Derived.Shelf.Strings.Repeat
import Derived.Shelf.Unicode.DecodeSlow
import Derived.Shelf.Unicode.DecodeAny
import Derived.Shelf.Unicode.DecodeLast
import Derived.Test.YtjapbjmeoaagmaaGreatDoorProg
set_option linter.unusedVariables false
set_option linter.unusedSimpArgs false
namespace Go.Proofs
open Go.Shelf
def Tryz.lays160_ren : Go.Shelf.Ren := ⟨fun | 160 => 137 | 232 => 166 | 231 => 165 | 227 => 167 | 234 => 169 | 233 => 168 | 236 => 171 | 235 => 170 | 228 => 199 | 271 => 202 | 151 => 201 | 197 => 200 | 120 => 220 | 152 => 219 | 260 => 218 | 137 => 105 | 119 => 234 | 224 => 235 | 225 => 236 | 217 => 140 | 266 => 174 | n => n, fun | 9 => 9 | 4 => 4 | 3 => 3 | 5 => 5 | 117 => 193 | 116 => 192 | 0 => 0 | 124 => 196 | 21 => 21 | 105 => 173 | 46 => 130 | 119 => 210 | 139 => 256 | 138 => 255 | n => n, fun | 3 => 2 | 4 => 3 | n => n⟩
theorem Tryz.lays160 : Go.Proofs.Lays.n160 Tryz.prog Tryz.lays160_ren := {
 mixed := by kernel_rfl
 f119 := Tryz.func234.trans (congrArg some (by kernel_rfl))
 f120 := Tryz.func220.trans (congrArg some (by kernel_rfl))
 f137 := Tryz.func105.trans (congrArg some (by kernel_rfl))
 f151 := Tryz.func201.trans (congrArg some (by kernel_rfl))
 f152 := Tryz.func219.trans (congrArg some (by kernel_rfl))
 f160 := Tryz.func137.trans (congrArg some (by kernel_rfl))
 f197 := Tryz.func200.trans (congrArg some (by kernel_rfl))
 f217 := Tryz.func140.trans (congrArg some (by kernel_rfl))
 f224 := Tryz.func235.trans (congrArg some (by kernel_rfl))
 f225 := Tryz.func236.trans (congrArg some (by kernel_rfl))
 f227 := Tryz.func167.trans (congrArg some (by kernel_rfl))
 f228 := Tryz.func199.trans (congrArg some (by kernel_rfl))
 f231 := Tryz.func165.trans (congrArg some (by kernel_rfl))
 f232 := Tryz.func166.trans (congrArg some (by kernel_rfl))
 f233 := Tryz.func168.trans (congrArg some (by kernel_rfl))
 f234 := Tryz.func169.trans (congrArg some (by kernel_rfl))
 f235 := Tryz.func170.trans (congrArg some (by kernel_rfl))
 f236 := Tryz.func171.trans (congrArg some (by kernel_rfl))
 f260 := Tryz.func218.trans (congrArg some (by kernel_rfl))
 f266 := Tryz.func174.trans (congrArg some (by kernel_rfl))
 f271 := Tryz.func202.trans (congrArg some (by kernel_rfl))
 t0 := Tryz.underlying0
 a0 := Tryz.isAgg0
 z0 := Tryz.sizeOf0
 v0 := Tryz.zeroValue0
 t3 := Tryz.underlying3
 a3 := Tryz.isAgg3
 z3 := Tryz.sizeOf3
 v3 := Tryz.zeroValue3
 t4 := Tryz.underlying4
 a4 := Tryz.isAgg4
 z4 := Tryz.sizeOf4
 v4 := Tryz.zeroValue4
 t5 := Tryz.underlying5
 a5 := Tryz.isAgg5
 z5 := Tryz.sizeOf5
 v5 := Tryz.zeroValue5
 t9 := Tryz.underlying9
 a9 := Tryz.isAgg9
 z9 := Tryz.sizeOf9
 v9 := Tryz.zeroValue9
 t21 := Tryz.underlying21
 a21 := Tryz.isAgg21
 z21 := Tryz.sizeOf21
 v21 := Tryz.zeroValue21
 t46 := Tryz.underlying130
 a46 := Tryz.isAgg130
 z46 := Tryz.sizeOf130
 v46 := Tryz.zeroValue130
 t105 := Tryz.underlying173
 a105 := Tryz.isAgg173
 z105 := Tryz.sizeOf173
 v105 := Tryz.zeroValue173
 t116 := Tryz.underlying192
 a116 := Tryz.isAgg192
 z116 := Tryz.sizeOf192
 t117 := Tryz.underlying193
 a117 := Tryz.isAgg193
 z117 := Tryz.sizeOf193
 v117 := Tryz.zeroValue193
 t119 := Tryz.underlying210
 a119 := Tryz.isAgg210
 z119 := Tryz.sizeOf210
 t124 := Tryz.underlying196
 a124 := Tryz.isAgg196
 z124 := Tryz.sizeOf196
 v124 := Tryz.zeroValue196
 t138 := Tryz.underlying255
 a138 := Tryz.isAgg255
 z138 := Tryz.sizeOf255
 v138 := Tryz.zeroValue255
 t139 := Tryz.underlying256
 a139 := Tryz.isAgg256
 z139 := Tryz.sizeOf256
 v139 := Tryz.zeroValue256
 g3 := by kernel_rfl
 g4 := by kernel_rfl }
def Tryz.lays137_ren : Go.Shelf.Ren := ⟨fun | 137 => 105 | 217 => 140 | 266 => 174 | n => n, fun | 9 => 9 | 5 => 5 | 3 => 3 | n => n, fun | n => n⟩
theorem Tryz.lays137 : Go.Proofs.Lays.n137 Tryz.prog Tryz.lays137_ren := {
 mixed := by kernel_rfl
 f137 := Tryz.func105.trans (congrArg some (by kernel_rfl))
 f217 := Tryz.func140.trans (congrArg some (by kernel_rfl))
 f266 := Tryz.func174.trans (congrArg some (by kernel_rfl))
 t3 := Tryz.underlying3
 a3 := Tryz.isAgg3
 z3 := Tryz.sizeOf3
 v3 := Tryz.zeroValue3
 t5 := Tryz.underlying5
 a5 := Tryz.isAgg5
 z5 := Tryz.sizeOf5
 v5 := Tryz.zeroValue5
 t9 := Tryz.underlying9
 a9 := Tryz.isAgg9
 z9 := Tryz.sizeOf9
 v9 := Tryz.zeroValue9 }
open Go.RowKit in
theorem Tryz.strings_IndexByte (s : ByteArray) (c : Int) (w : World) :
 Calls Tryz.prog 105 #[.string s, .int .u8 c] w fun e w' => e = .returned (.int .i64 (Lib.indexByte s.data.toList c.toNat.toUInt8)) ∧ w' = w := Any.strings_IndexByte Tryz.lays137 s c w
def Tryz.laysM171_ren : Go.Shelf.Ren := ⟨fun | 171 => 65 | 243 => 89 | 246 => 108 | 283 => 144 | 284 => 145 | 285 => 146 | 286 => 147 | 129 => 182 | 317 => 181 | 318 => 183 | 319 => 184 | 320 => 185 | 337 => 209 | 338 => 210 | n => n, fun | 3 => 3 | 9 => 9 | 2 => 2 | 4 => 4 | 171 => 177 | 0 => 0 | 53 => 178 | 37 => 56 | 5 => 5 | 173 => 181 | 212 => 219 | 51 => 135 | 20 => 20 | 213 => 220 | 46 => 130 | 232 => 266 | 233 => 267 | n => n, fun | 17 => 0 | 18 => 4 | 19 => 5 | n => n⟩
theorem Tryz.laysM171 : Go.Proofs.LaysM.n171 Tryz.prog Tryz.laysM171_ren := {
 mixed := by kernel_rfl
 f129 := Tryz.func182.trans (congrArg some (by kernel_rfl))
 f171 := Tryz.func65.trans (congrArg some (by kernel_rfl))
 f243 := Tryz.func89.trans (congrArg some (by kernel_rfl))
 f246 := Tryz.func108.trans (congrArg some (by kernel_rfl))
 f283 := Tryz.func144.trans (congrArg some (by kernel_rfl))
 f284 := Tryz.func145.trans (congrArg some (by kernel_rfl))
 f285 := Tryz.func146.trans (congrArg some (by kernel_rfl))
 f286 := Tryz.func147.trans (congrArg some (by kernel_rfl))
 f317 := Tryz.func181.trans (congrArg some (by kernel_rfl))
 f318 := Tryz.func183.trans (congrArg some (by kernel_rfl))
 f319 := Tryz.func184.trans (congrArg some (by kernel_rfl))
 f320 := Tryz.func185.trans (congrArg some (by kernel_rfl))
 f337 := Tryz.func209.trans (congrArg some (by kernel_rfl))
 f338 := Tryz.func210.trans (congrArg some (by kernel_rfl))
 t0 := Tryz.underlying0
 a0 := Tryz.isAgg0
 z0 := Tryz.sizeOf0
 v0 := Tryz.zeroValue0
 t2 := Tryz.underlying2
 a2 := Tryz.isAgg2
 z2 := Tryz.sizeOf2
 v2 := Tryz.zeroValue2
 t3 := Tryz.underlying3
 a3 := Tryz.isAgg3
 z3 := Tryz.sizeOf3
 v3 := Tryz.zeroValue3
 t4 := Tryz.underlying4
 a4 := Tryz.isAgg4
 z4 := Tryz.sizeOf4
 v4 := Tryz.zeroValue4
 t5 := Tryz.underlying5
 a5 := Tryz.isAgg5
 z5 := Tryz.sizeOf5
 v5 := Tryz.zeroValue5
 t9 := Tryz.underlying9
 a9 := Tryz.isAgg9
 z9 := Tryz.sizeOf9
 v9 := Tryz.zeroValue9
 t20 := Tryz.underlying20
 a20 := Tryz.isAgg20
 z20 := Tryz.sizeOf20
 v20 := Tryz.zeroValue20
 t37 := Tryz.underlying56
 a37 := Tryz.isAgg56
 z37 := Tryz.sizeOf56
 v37 := Tryz.zeroValue56
 t46 := Tryz.underlying130
 a46 := Tryz.isAgg130
 z46 := Tryz.sizeOf130
 v46 := Tryz.zeroValue130
 t51 := Tryz.underlying135
 a51 := Tryz.isAgg135
 z51 := Tryz.sizeOf135
 v51 := Tryz.zeroValue135
 t53 := Tryz.underlying178
 a53 := Tryz.isAgg178
 z53 := Tryz.sizeOf178
 v53 := Tryz.zeroValue178
 t171 := Tryz.underlying177
 a171 := Tryz.isAgg177
 z171 := Tryz.sizeOf177
 v171 := Tryz.zeroValue177
 t173 := Tryz.underlying181
 a173 := Tryz.isAgg181
 z173 := Tryz.sizeOf181
 v173 := Tryz.zeroValue181
 t212 := Tryz.underlying219
 a212 := Tryz.isAgg219
 z212 := Tryz.sizeOf219
 v212 := Tryz.zeroValue219
 t213 := Tryz.underlying220
 a213 := Tryz.isAgg220
 z213 := Tryz.sizeOf220
 t232 := Tryz.underlying266
 a232 := Tryz.isAgg266
 z232 := Tryz.sizeOf266
 v232 := Tryz.zeroValue266
 t233 := Tryz.underlying267
 a233 := Tryz.isAgg267
 z233 := Tryz.sizeOf267
 v233 := Tryz.zeroValue267
 g17 := by kernel_rfl
 g18 := by kernel_rfl
 g19 := by kernel_rfl
 i0 := by kernel_rfl
 i2 := by kernel_rfl
 i3 := by kernel_rfl
 i4 := by kernel_rfl
 i5 := by kernel_rfl
 i9 := by kernel_rfl
 i20 := by kernel_rfl
 i37 := by kernel_rfl
 i46 := by kernel_rfl
 i51 := by kernel_rfl
 i53 := by kernel_rfl
 i171 := by kernel_rfl
 i173 := by kernel_rfl
 i212 := by kernel_rfl
 i232 := by kernel_rfl
 i233 := by kernel_rfl
 m17 := by kernel_rfl
 m18 := by kernel_rfl
 m19 := by kernel_rfl }
open Go.RowKit Go.Sort Go.Lib in
theorem Tryz.strconv_Itoa (n : Int) (h0 : -9223372036854775808 ≤ n) (h1 : n ≤ 9223372036854775807) (w : World) (htab : Lib.TabIs Tryz.prog w "internal/strconv.uint64pow10" .u64 Lib.pow10Tab) :
 Calls Tryz.prog 65 #[.int .i64 n] w fun e w' => e = .returned (.string ⟨(Lib.itoa n).toArray⟩) ∧ ∃ k os, w' = grow (w.drewN k) os := Any.strconv_Itoa Tryz.laysM171 n h0 h1 w htab
end Go.Proofs
