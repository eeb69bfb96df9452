/- Contracts of the library, laid by the shelf's tools for this translation. -/
import Derived.Shelf.Strings.Trim
import Derived.Shelf.Small.Utf8
import Derived.Shelf.Small.Strs
import Derived.Shelf.Small.Wraps
import Derived.Shelf.Strings.Search1
import Derived.Shelf.Strings.Prefix
import Derived.Shelf.Strings.Runes
import Derived.Shelf.Strings.AsciiSet
import Derived.Shelf.Unicode.DecodeSlow
import Derived.Shelf.Unicode.DecodeAny
import Derived.Shelf.Unicode.DecodeLast
import Derived.Test.YtglcpfnfldaimaaDoorProg
set_option linter.unusedVariables false
namespace Go.Proofs
open Go.Shelf
def Tryd.lays161_ren : Go.Shelf.Ren := ⟨fun | 161 => 21 | 231 => 38 | 227 => 39 | 233 => 40 | 235 => 41 | 228 => 58 | 197 => 59 | 151 => 60 | 260 => 79 | 152 => 80 | 137 => 55 | 119 => 88 | 224 => 89 | 225 => 90 | 217 => 78 | 266 => 87 | n => n, fun | 9 => 9 | 4 => 4 | 3 => 3 | 5 => 5 | 117 => 76 | 116 => 75 | 0 => 0 | 124 => 79 | 105 => 71 | 21 => 21 | 119 => 114 | 46 => 88 | 139 => 117 | 138 => 116 | n => n, fun | 3 => 0 | 4 => 1 | n => n⟩
theorem Tryd.lays161 : Go.Proofs.Lays.n161 Tryd.prog Tryd.lays161_ren := {
  mixed := by kernel_rfl
  f119 := Tryd.func88.trans (congrArg some (by kernel_rfl))
  f137 := Tryd.func55.trans (congrArg some (by kernel_rfl))
  f151 := Tryd.func60.trans (congrArg some (by kernel_rfl))
  f152 := Tryd.func80.trans (congrArg some (by kernel_rfl))
  f161 := Tryd.func21.trans (congrArg some (by kernel_rfl))
  f197 := Tryd.func59.trans (congrArg some (by kernel_rfl))
  f217 := Tryd.func78.trans (congrArg some (by kernel_rfl))
  f224 := Tryd.func89.trans (congrArg some (by kernel_rfl))
  f225 := Tryd.func90.trans (congrArg some (by kernel_rfl))
  f227 := Tryd.func39.trans (congrArg some (by kernel_rfl))
  f228 := Tryd.func58.trans (congrArg some (by kernel_rfl))
  f231 := Tryd.func38.trans (congrArg some (by kernel_rfl))
  f233 := Tryd.func40.trans (congrArg some (by kernel_rfl))
  f235 := Tryd.func41.trans (congrArg some (by kernel_rfl))
  f260 := Tryd.func79.trans (congrArg some (by kernel_rfl))
  f266 := Tryd.func87.trans (congrArg some (by kernel_rfl))
  t0 := Tryd.underlying0
  a0 := Tryd.isAgg0
  z0 := Tryd.sizeOf0
  v0 := Tryd.zeroValue0
  t3 := Tryd.underlying3
  a3 := Tryd.isAgg3
  z3 := Tryd.sizeOf3
  v3 := Tryd.zeroValue3
  t4 := Tryd.underlying4
  a4 := Tryd.isAgg4
  z4 := Tryd.sizeOf4
  v4 := Tryd.zeroValue4
  t5 := Tryd.underlying5
  a5 := Tryd.isAgg5
  z5 := Tryd.sizeOf5
  v5 := Tryd.zeroValue5
  t9 := Tryd.underlying9
  a9 := Tryd.isAgg9
  z9 := Tryd.sizeOf9
  v9 := Tryd.zeroValue9
  t21 := Tryd.underlying21
  a21 := Tryd.isAgg21
  z21 := Tryd.sizeOf21
  v21 := Tryd.zeroValue21
  t46 := Tryd.underlying88
  a46 := Tryd.isAgg88
  z46 := Tryd.sizeOf88
  v46 := Tryd.zeroValue88
  t105 := Tryd.underlying71
  a105 := Tryd.isAgg71
  z105 := Tryd.sizeOf71
  v105 := Tryd.zeroValue71
  t116 := Tryd.underlying75
  a116 := Tryd.isAgg75
  z116 := Tryd.sizeOf75
  t117 := Tryd.underlying76
  a117 := Tryd.isAgg76
  z117 := Tryd.sizeOf76
  v117 := Tryd.zeroValue76
  t119 := Tryd.underlying114
  a119 := Tryd.isAgg114
  z119 := Tryd.sizeOf114
  t124 := Tryd.underlying79
  a124 := Tryd.isAgg79
  z124 := Tryd.sizeOf79
  v124 := Tryd.zeroValue79
  t138 := Tryd.underlying116
  a138 := Tryd.isAgg116
  z138 := Tryd.sizeOf116
  v138 := Tryd.zeroValue116
  t139 := Tryd.underlying117
  a139 := Tryd.isAgg117
  z139 := Tryd.sizeOf117
  v139 := Tryd.zeroValue117
  g3 := by kernel_rfl
  g4 := by kernel_rfl }
def Tryd.lays162_ren : Go.Shelf.Ren := ⟨fun | 162 => 83 | 232 => 91 | 227 => 39 | 234 => 92 | 236 => 93 | 228 => 58 | 271 => 98 | 151 => 60 | 120 => 99 | 197 => 59 | 152 => 80 | 260 => 79 | 137 => 55 | 119 => 88 | 224 => 89 | 225 => 90 | 217 => 78 | 266 => 87 | n => n, fun | 9 => 9 | 4 => 4 | 3 => 3 | 5 => 5 | 117 => 76 | 116 => 75 | 0 => 0 | 124 => 79 | 21 => 21 | 105 => 71 | 46 => 88 | 119 => 114 | 139 => 117 | 138 => 116 | n => n, fun | 3 => 0 | 4 => 1 | n => n⟩
theorem Tryd.lays162 : Go.Proofs.Lays.n162 Tryd.prog Tryd.lays162_ren := {
  mixed := by kernel_rfl
  f119 := Tryd.func88.trans (congrArg some (by kernel_rfl))
  f120 := Tryd.func99.trans (congrArg some (by kernel_rfl))
  f137 := Tryd.func55.trans (congrArg some (by kernel_rfl))
  f151 := Tryd.func60.trans (congrArg some (by kernel_rfl))
  f152 := Tryd.func80.trans (congrArg some (by kernel_rfl))
  f162 := Tryd.func83.trans (congrArg some (by kernel_rfl))
  f197 := Tryd.func59.trans (congrArg some (by kernel_rfl))
  f217 := Tryd.func78.trans (congrArg some (by kernel_rfl))
  f224 := Tryd.func89.trans (congrArg some (by kernel_rfl))
  f225 := Tryd.func90.trans (congrArg some (by kernel_rfl))
  f227 := Tryd.func39.trans (congrArg some (by kernel_rfl))
  f228 := Tryd.func58.trans (congrArg some (by kernel_rfl))
  f232 := Tryd.func91.trans (congrArg some (by kernel_rfl))
  f234 := Tryd.func92.trans (congrArg some (by kernel_rfl))
  f236 := Tryd.func93.trans (congrArg some (by kernel_rfl))
  f260 := Tryd.func79.trans (congrArg some (by kernel_rfl))
  f266 := Tryd.func87.trans (congrArg some (by kernel_rfl))
  f271 := Tryd.func98.trans (congrArg some (by kernel_rfl))
  t0 := Tryd.underlying0
  a0 := Tryd.isAgg0
  z0 := Tryd.sizeOf0
  v0 := Tryd.zeroValue0
  t3 := Tryd.underlying3
  a3 := Tryd.isAgg3
  z3 := Tryd.sizeOf3
  v3 := Tryd.zeroValue3
  t4 := Tryd.underlying4
  a4 := Tryd.isAgg4
  z4 := Tryd.sizeOf4
  v4 := Tryd.zeroValue4
  t5 := Tryd.underlying5
  a5 := Tryd.isAgg5
  z5 := Tryd.sizeOf5
  v5 := Tryd.zeroValue5
  t9 := Tryd.underlying9
  a9 := Tryd.isAgg9
  z9 := Tryd.sizeOf9
  v9 := Tryd.zeroValue9
  t21 := Tryd.underlying21
  a21 := Tryd.isAgg21
  z21 := Tryd.sizeOf21
  v21 := Tryd.zeroValue21
  t46 := Tryd.underlying88
  a46 := Tryd.isAgg88
  z46 := Tryd.sizeOf88
  v46 := Tryd.zeroValue88
  t105 := Tryd.underlying71
  a105 := Tryd.isAgg71
  z105 := Tryd.sizeOf71
  v105 := Tryd.zeroValue71
  t116 := Tryd.underlying75
  a116 := Tryd.isAgg75
  z116 := Tryd.sizeOf75
  t117 := Tryd.underlying76
  a117 := Tryd.isAgg76
  z117 := Tryd.sizeOf76
  v117 := Tryd.zeroValue76
  t119 := Tryd.underlying114
  a119 := Tryd.isAgg114
  z119 := Tryd.sizeOf114
  t124 := Tryd.underlying79
  a124 := Tryd.isAgg79
  z124 := Tryd.sizeOf79
  v124 := Tryd.zeroValue79
  t138 := Tryd.underlying116
  a138 := Tryd.isAgg116
  z138 := Tryd.sizeOf116
  v138 := Tryd.zeroValue116
  t139 := Tryd.underlying117
  a139 := Tryd.isAgg117
  z139 := Tryd.sizeOf117
  v139 := Tryd.zeroValue117
  g3 := by kernel_rfl
  g4 := by kernel_rfl }
def Tryd.lays160_ren : Go.Shelf.Ren := ⟨fun | 160 => 94 | 232 => 91 | 231 => 38 | 227 => 39 | 234 => 92 | 233 => 40 | 236 => 93 | 235 => 41 | 228 => 58 | 271 => 98 | 151 => 60 | 197 => 59 | 120 => 99 | 152 => 80 | 260 => 79 | 137 => 55 | 119 => 88 | 224 => 89 | 225 => 90 | 217 => 78 | 266 => 87 | n => n, fun | 9 => 9 | 4 => 4 | 3 => 3 | 5 => 5 | 117 => 76 | 116 => 75 | 0 => 0 | 124 => 79 | 21 => 21 | 105 => 71 | 46 => 88 | 119 => 114 | 139 => 117 | 138 => 116 | n => n, fun | 3 => 0 | 4 => 1 | n => n⟩
theorem Tryd.lays160 : Go.Proofs.Lays.n160 Tryd.prog Tryd.lays160_ren := {
  mixed := by kernel_rfl
  f119 := Tryd.func88.trans (congrArg some (by kernel_rfl))
  f120 := Tryd.func99.trans (congrArg some (by kernel_rfl))
  f137 := Tryd.func55.trans (congrArg some (by kernel_rfl))
  f151 := Tryd.func60.trans (congrArg some (by kernel_rfl))
  f152 := Tryd.func80.trans (congrArg some (by kernel_rfl))
  f160 := Tryd.func94.trans (congrArg some (by kernel_rfl))
  f197 := Tryd.func59.trans (congrArg some (by kernel_rfl))
  f217 := Tryd.func78.trans (congrArg some (by kernel_rfl))
  f224 := Tryd.func89.trans (congrArg some (by kernel_rfl))
  f225 := Tryd.func90.trans (congrArg some (by kernel_rfl))
  f227 := Tryd.func39.trans (congrArg some (by kernel_rfl))
  f228 := Tryd.func58.trans (congrArg some (by kernel_rfl))
  f231 := Tryd.func38.trans (congrArg some (by kernel_rfl))
  f232 := Tryd.func91.trans (congrArg some (by kernel_rfl))
  f233 := Tryd.func40.trans (congrArg some (by kernel_rfl))
  f234 := Tryd.func92.trans (congrArg some (by kernel_rfl))
  f235 := Tryd.func41.trans (congrArg some (by kernel_rfl))
  f236 := Tryd.func93.trans (congrArg some (by kernel_rfl))
  f260 := Tryd.func79.trans (congrArg some (by kernel_rfl))
  f266 := Tryd.func87.trans (congrArg some (by kernel_rfl))
  f271 := Tryd.func98.trans (congrArg some (by kernel_rfl))
  t0 := Tryd.underlying0
  a0 := Tryd.isAgg0
  z0 := Tryd.sizeOf0
  v0 := Tryd.zeroValue0
  t3 := Tryd.underlying3
  a3 := Tryd.isAgg3
  z3 := Tryd.sizeOf3
  v3 := Tryd.zeroValue3
  t4 := Tryd.underlying4
  a4 := Tryd.isAgg4
  z4 := Tryd.sizeOf4
  v4 := Tryd.zeroValue4
  t5 := Tryd.underlying5
  a5 := Tryd.isAgg5
  z5 := Tryd.sizeOf5
  v5 := Tryd.zeroValue5
  t9 := Tryd.underlying9
  a9 := Tryd.isAgg9
  z9 := Tryd.sizeOf9
  v9 := Tryd.zeroValue9
  t21 := Tryd.underlying21
  a21 := Tryd.isAgg21
  z21 := Tryd.sizeOf21
  v21 := Tryd.zeroValue21
  t46 := Tryd.underlying88
  a46 := Tryd.isAgg88
  z46 := Tryd.sizeOf88
  v46 := Tryd.zeroValue88
  t105 := Tryd.underlying71
  a105 := Tryd.isAgg71
  z105 := Tryd.sizeOf71
  v105 := Tryd.zeroValue71
  t116 := Tryd.underlying75
  a116 := Tryd.isAgg75
  z116 := Tryd.sizeOf75
  t117 := Tryd.underlying76
  a117 := Tryd.isAgg76
  z117 := Tryd.sizeOf76
  v117 := Tryd.zeroValue76
  t119 := Tryd.underlying114
  a119 := Tryd.isAgg114
  z119 := Tryd.sizeOf114
  t124 := Tryd.underlying79
  a124 := Tryd.isAgg79
  z124 := Tryd.sizeOf79
  v124 := Tryd.zeroValue79
  t138 := Tryd.underlying116
  a138 := Tryd.isAgg116
  z138 := Tryd.sizeOf116
  v138 := Tryd.zeroValue116
  t139 := Tryd.underlying117
  a139 := Tryd.isAgg117
  z139 := Tryd.sizeOf117
  v139 := Tryd.zeroValue117
  g3 := by kernel_rfl
  g4 := by kernel_rfl }
def Tryd.lays137_ren : Go.Shelf.Ren := ⟨fun | 137 => 55 | 217 => 78 | 266 => 87 | n => n, fun | 9 => 9 | 5 => 5 | 3 => 3 | n => n, fun | n => n⟩
theorem Tryd.lays137 : Go.Proofs.Lays.n137 Tryd.prog Tryd.lays137_ren := {
  mixed := by kernel_rfl
  f137 := Tryd.func55.trans (congrArg some (by kernel_rfl))
  f217 := Tryd.func78.trans (congrArg some (by kernel_rfl))
  f266 := Tryd.func87.trans (congrArg some (by kernel_rfl))
  t3 := Tryd.underlying3
  a3 := Tryd.isAgg3
  z3 := Tryd.sizeOf3
  v3 := Tryd.zeroValue3
  t5 := Tryd.underlying5
  a5 := Tryd.isAgg5
  z5 := Tryd.sizeOf5
  v5 := Tryd.zeroValue5
  t9 := Tryd.underlying9
  a9 := Tryd.isAgg9
  z9 := Tryd.sizeOf9
  v9 := Tryd.zeroValue9 }
open Go.RowKit in
/-- strings.IndexByte: "IndexByte returns the index of the first instance of c in s, or -1 if c is not present in s.": IT RETURNS 'Lib.indexByte s c'; the world is as it was. (LAID: no walk: one application.) -/
theorem Tryd.strings_IndexByte (s : ByteArray) (c : Int) (w : World) :
    Calls Tryd.prog 55 #[.string s, .int .u8 c] w fun e w' => e = .returned (.int .i64 (Lib.indexByte s.data.toList c.toNat.toUInt8)) ∧ w' = w := Any.strings_IndexByte Tryd.lays137 s c w
def Tryd.lays103_ren : Go.Shelf.Ren := ⟨fun | 103 => 62 | 210 => 82 | 206 => 81 | n => n, fun | 9 => 9 | 4 => 4 | 24 => 96 | 3 => 3 | n => n, fun | n => n⟩
theorem Tryd.lays103 : Go.Proofs.Lays.n103 Tryd.prog Tryd.lays103_ren := {
  mixed := by kernel_rfl
  f103 := Tryd.func62.trans (congrArg some (by kernel_rfl))
  f206 := Tryd.func81.trans (congrArg some (by kernel_rfl))
  f210 := Tryd.func82.trans (congrArg some (by kernel_rfl))
  t3 := Tryd.underlying3
  a3 := Tryd.isAgg3
  z3 := Tryd.sizeOf3
  v3 := Tryd.zeroValue3
  t4 := Tryd.underlying4
  a4 := Tryd.isAgg4
  z4 := Tryd.sizeOf4
  v4 := Tryd.zeroValue4
  t9 := Tryd.underlying9
  a9 := Tryd.isAgg9
  z9 := Tryd.sizeOf9
  v9 := Tryd.zeroValue9
  t24 := Tryd.underlying96
  a24 := Tryd.isAgg96
  z24 := Tryd.sizeOf96
  v24 := Tryd.zeroValue96 }
open Go.RowKit in
/-- strings.CutPrefix: "CutPrefix returns s without the provided leading prefix string and reports whether it found the prefix. If s doesn't start with prefix, CutPrefix returns s, false. If prefix is the empty string, CutPrefix returns s, true.": IT RETURNS '(Lib.trimPrefix s p, Lib.hasPrefix s p)'; the world is as it was. (LAID: no walk: one application.) -/
theorem Tryd.strings_CutPrefix (s p : ByteArray) (w : World) :
    Calls Tryd.prog 62 #[.string s, .string p] w fun e w' => e = .returned (.tuple #[.string ⟨(Lib.trimPrefix s.data.toList p.data.toList).toArray⟩, .bool (Lib.hasPrefix s.data.toList p.data.toList)]) ∧ w' = w := Any.strings_CutPrefix Tryd.lays103 s p w
def Tryd.lays99_ren : Go.Shelf.Ren := ⟨fun | 99 => 61 | 206 => 81 | n => n, fun | 9 => 9 | 4 => 4 | 3 => 3 | n => n, fun | n => n⟩
theorem Tryd.lays99 : Go.Proofs.Lays.n99 Tryd.prog Tryd.lays99_ren := {
  mixed := by kernel_rfl
  f99 := Tryd.func61.trans (congrArg some (by kernel_rfl))
  f206 := Tryd.func81.trans (congrArg some (by kernel_rfl))
  t3 := Tryd.underlying3
  a3 := Tryd.isAgg3
  z3 := Tryd.sizeOf3
  v3 := Tryd.zeroValue3
  t4 := Tryd.underlying4
  a4 := Tryd.isAgg4
  z4 := Tryd.sizeOf4
  v4 := Tryd.zeroValue4
  t9 := Tryd.underlying9
  a9 := Tryd.isAgg9
  z9 := Tryd.sizeOf9
  v9 := Tryd.zeroValue9 }
open Go.RowKit Go.Lib in
/-- strings.HasPrefix: "HasPrefix reports whether the string s begins with prefix.": IT RETURNS 'Lib.hasPrefix s prefix'; the world is as it was. (LAID: no walk: one application.) -/
theorem Tryd.strings_HasPrefix (s p : ByteArray) (w : World) :
    Calls Tryd.prog 61 #[.string s, .string p] w fun e w' => e = .returned (.bool (Lib.hasPrefix s.data.toList p.data.toList)) ∧ w' = w := Any.strings_HasPrefix Tryd.lays99 s p w

end Go.Proofs
