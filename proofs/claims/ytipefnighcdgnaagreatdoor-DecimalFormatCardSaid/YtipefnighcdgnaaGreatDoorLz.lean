import Derived.Shelf.Strings.Builder1
import Derived.Shelf.Strings.Builder2
import Derived.Shelf.Strings.Trim
import Derived.Shelf.Small.Utf8
import Derived.Shelf.Small.Strs
import Derived.Shelf.Strings.BuilderF
import Derived.Shelf.Strconv.Itoa0
import Derived.Shelf.Strconv.Itoa1
import Derived.Shelf.LaysM
import Derived.Shelf.Strconv.Itoa2
import Derived.Shelf.Strconv.Itoa3
import Derived.Shelf.Strconv.ParseIntEmpty
import Derived.Shelf.Strconv.Clone
import Derived.Shelf.Strconv.SyntaxError
import Derived.Shelf.LaysC
import Derived.Shelf.Strconv.ToError
import Derived.Shelf.Strconv.Lower
import Derived.Shelf.Strconv.ParseUint10
import Derived.Shelf.Strconv.ParseUint10Empty
import Derived.Shelf.Strconv.ParseUint10Any
import Derived.Shelf.Strconv.ParseInt10
import Derived.Shelf.Strconv.RangeError
import Derived.Shelf.Strconv.ToErrorRange
import Derived.Shelf.Strconv.ParseUintEmpty
import Derived.Shelf.Strconv.ParseUint10b64
import Derived.Shelf.Strconv.ParseUint10b32
import Derived.Shelf.Strconv.ParseUint10b16
import Derived.Shelf.Strconv.ParseUint10b8
import Derived.Shelf.Strconv.ParseUint10At
import Derived.Shelf.Strconv.ParseInt10At64
import Derived.Shelf.Strconv.ParseInt10At32
import Derived.Shelf.Strconv.ParseInt10At16
import Derived.Shelf.Strconv.ParseInt10At8
import Derived.Shelf.Strconv.ParseInt10All
import Derived.Shelf.Strconv.ParseIntPublic10
import Derived.Shelf.Strings.Search1
import Derived.Shelf.Strings.Search2
import Derived.Shelf.Strings.Cut
import Derived.Shelf.Strings.Shaped
import Derived.Shelf.Strings.Prefix
import Derived.Shelf.Unicode.Decode
import Derived.Shelf.Strings.Runes
import Derived.Shelf.Strings.AsciiSet
import Derived.Shelf.Bits.Mul64
import Derived.Shelf.Strings.Repeat
import Derived.Shelf.Unicode.DecodeSlow
import Derived.Shelf.Unicode.DecodeAny
import Derived.Shelf.Unicode.DecodeLast
import Derived.Test.YtipefnighcdgnaaGreatDoorProg
namespace Go.Proofs.YtipefnighcdgnaaGreatDoor
open Go.Shelf
def lays161_ren : Go.Shelf.Ren := ⟨fun | 161 => 114 | 231 => 151 | 227 => 127 | 233 => 152 | 235 => 153 | 228 => 165 | 197 => 181 | 151 => 167 | 260 => 200 | 152 => 188 | 137 => 203 | 119 => 204 | 224 => 198 | 225 => 197 | 217 => 196 | 266 => 206 | n => n, fun | 9 => 9 | 4 => 4 | 3 => 3 | 5 => 5 | 117 => 123 | 116 => 122 | 0 => 0 | 124 => 126 | 105 => 154 | 21 => 21 | 119 => 194 | 46 => 128 | 139 => 197 | 138 => 196 | n => n, fun | 3 => 4 | 4 => 5 | n => n⟩
theorem lays161 : Go.Proofs.Lays.n161 Tryz.prog lays161_ren := {
 mixed := by kernel_rfl
 f119 := Tryz.func204.trans (congrArg some (by kernel_rfl))
 f137 := Tryz.func203.trans (congrArg some (by kernel_rfl))
 f151 := Tryz.func167.trans (congrArg some (by kernel_rfl))
 f152 := Tryz.func188.trans (congrArg some (by kernel_rfl))
 f161 := Tryz.func114.trans (congrArg some (by kernel_rfl))
 f197 := Tryz.func181.trans (congrArg some (by kernel_rfl))
 f217 := Tryz.func196.trans (congrArg some (by kernel_rfl))
 f224 := Tryz.func198.trans (congrArg some (by kernel_rfl))
 f225 := Tryz.func197.trans (congrArg some (by kernel_rfl))
 f227 := Tryz.func127.trans (congrArg some (by kernel_rfl))
 f228 := Tryz.func165.trans (congrArg some (by kernel_rfl))
 f231 := Tryz.func151.trans (congrArg some (by kernel_rfl))
 f233 := Tryz.func152.trans (congrArg some (by kernel_rfl))
 f235 := Tryz.func153.trans (congrArg some (by kernel_rfl))
 f260 := Tryz.func200.trans (congrArg some (by kernel_rfl))
 f266 := Tryz.func206.trans (congrArg some (by kernel_rfl))
 t0 := Tryz.underlying0
 a0 := Tryz.isAgg0
 z0 := Tryz.sizeOf0
 v0 := Tryz.zeroValue0
 t3 := Tryz.underlying3
 a3 := Tryz.isAgg3
 z3 := Tryz.sizeOf3
 v3 := Tryz.zeroValue3
 t4 := Tryz.underlying4
 a4 := Tryz.isAgg4
 z4 := Tryz.sizeOf4
 v4 := Tryz.zeroValue4
 t5 := Tryz.underlying5
 a5 := Tryz.isAgg5
 z5 := Tryz.sizeOf5
 v5 := Tryz.zeroValue5
 t9 := Tryz.underlying9
 a9 := Tryz.isAgg9
 z9 := Tryz.sizeOf9
 v9 := Tryz.zeroValue9
 t21 := Tryz.underlying21
 a21 := Tryz.isAgg21
 z21 := Tryz.sizeOf21
 v21 := Tryz.zeroValue21
 t46 := Tryz.underlying128
 a46 := Tryz.isAgg128
 z46 := Tryz.sizeOf128
 v46 := Tryz.zeroValue128
 t105 := Tryz.underlying154
 a105 := Tryz.isAgg154
 z105 := Tryz.sizeOf154
 v105 := Tryz.zeroValue154
 t116 := Tryz.underlying122
 a116 := Tryz.isAgg122
 z116 := Tryz.sizeOf122
 t117 := Tryz.underlying123
 a117 := Tryz.isAgg123
 z117 := Tryz.sizeOf123
 v117 := Tryz.zeroValue123
 t119 := Tryz.underlying194
 a119 := Tryz.isAgg194
 z119 := Tryz.sizeOf194
 t124 := Tryz.underlying126
 a124 := Tryz.isAgg126
 z124 := Tryz.sizeOf126
 v124 := Tryz.zeroValue126
 t138 := Tryz.underlying196
 a138 := Tryz.isAgg196
 z138 := Tryz.sizeOf196
 v138 := Tryz.zeroValue196
 t139 := Tryz.underlying197
 a139 := Tryz.isAgg197
 z139 := Tryz.sizeOf197
 v139 := Tryz.zeroValue197
 g3 := by kernel_rfl
 g4 := by kernel_rfl }
def lays162_ren : Go.Shelf.Ren := ⟨fun | 162 => 87 | 232 => 126 | 227 => 127 | 234 => 128 | 236 => 129 | 228 => 165 | 271 => 166 | 151 => 167 | 120 => 187 | 197 => 181 | 152 => 188 | 260 => 200 | 137 => 203 | 119 => 204 | 224 => 198 | 225 => 197 | 217 => 196 | 266 => 206 | n => n, fun | 9 => 9 | 4 => 4 | 3 => 3 | 5 => 5 | 117 => 123 | 116 => 122 | 0 => 0 | 124 => 126 | 21 => 21 | 105 => 154 | 46 => 128 | 119 => 194 | 139 => 197 | 138 => 196 | n => n, fun | 3 => 4 | 4 => 5 | n => n⟩
theorem lays162 : Go.Proofs.Lays.n162 Tryz.prog lays162_ren := {
 mixed := by kernel_rfl
 f119 := Tryz.func204.trans (congrArg some (by kernel_rfl))
 f120 := Tryz.func187.trans (congrArg some (by kernel_rfl))
 f137 := Tryz.func203.trans (congrArg some (by kernel_rfl))
 f151 := Tryz.func167.trans (congrArg some (by kernel_rfl))
 f152 := Tryz.func188.trans (congrArg some (by kernel_rfl))
 f162 := Tryz.func87.trans (congrArg some (by kernel_rfl))
 f197 := Tryz.func181.trans (congrArg some (by kernel_rfl))
 f217 := Tryz.func196.trans (congrArg some (by kernel_rfl))
 f224 := Tryz.func198.trans (congrArg some (by kernel_rfl))
 f225 := Tryz.func197.trans (congrArg some (by kernel_rfl))
 f227 := Tryz.func127.trans (congrArg some (by kernel_rfl))
 f228 := Tryz.func165.trans (congrArg some (by kernel_rfl))
 f232 := Tryz.func126.trans (congrArg some (by kernel_rfl))
 f234 := Tryz.func128.trans (congrArg some (by kernel_rfl))
 f236 := Tryz.func129.trans (congrArg some (by kernel_rfl))
 f260 := Tryz.func200.trans (congrArg some (by kernel_rfl))
 f266 := Tryz.func206.trans (congrArg some (by kernel_rfl))
 f271 := Tryz.func166.trans (congrArg some (by kernel_rfl))
 t0 := Tryz.underlying0
 a0 := Tryz.isAgg0
 z0 := Tryz.sizeOf0
 v0 := Tryz.zeroValue0
 t3 := Tryz.underlying3
 a3 := Tryz.isAgg3
 z3 := Tryz.sizeOf3
 v3 := Tryz.zeroValue3
 t4 := Tryz.underlying4
 a4 := Tryz.isAgg4
 z4 := Tryz.sizeOf4
 v4 := Tryz.zeroValue4
 t5 := Tryz.underlying5
 a5 := Tryz.isAgg5
 z5 := Tryz.sizeOf5
 v5 := Tryz.zeroValue5
 t9 := Tryz.underlying9
 a9 := Tryz.isAgg9
 z9 := Tryz.sizeOf9
 v9 := Tryz.zeroValue9
 t21 := Tryz.underlying21
 a21 := Tryz.isAgg21
 z21 := Tryz.sizeOf21
 v21 := Tryz.zeroValue21
 t46 := Tryz.underlying128
 a46 := Tryz.isAgg128
 z46 := Tryz.sizeOf128
 v46 := Tryz.zeroValue128
 t105 := Tryz.underlying154
 a105 := Tryz.isAgg154
 z105 := Tryz.sizeOf154
 v105 := Tryz.zeroValue154
 t116 := Tryz.underlying122
 a116 := Tryz.isAgg122
 z116 := Tryz.sizeOf122
 t117 := Tryz.underlying123
 a117 := Tryz.isAgg123
 z117 := Tryz.sizeOf123
 v117 := Tryz.zeroValue123
 t119 := Tryz.underlying194
 a119 := Tryz.isAgg194
 z119 := Tryz.sizeOf194
 t124 := Tryz.underlying126
 a124 := Tryz.isAgg126
 z124 := Tryz.sizeOf126
 v124 := Tryz.zeroValue126
 t138 := Tryz.underlying196
 a138 := Tryz.isAgg196
 z138 := Tryz.sizeOf196
 v138 := Tryz.zeroValue196
 t139 := Tryz.underlying197
 a139 := Tryz.isAgg197
 z139 := Tryz.sizeOf197
 v139 := Tryz.zeroValue197
 g3 := by kernel_rfl
 g4 := by kernel_rfl }
def lays160_ren : Go.Shelf.Ren := ⟨fun | 160 => 150 | 232 => 126 | 231 => 151 | 227 => 127 | 234 => 128 | 233 => 152 | 236 => 129 | 235 => 153 | 228 => 165 | 271 => 166 | 151 => 167 | 197 => 181 | 120 => 187 | 152 => 188 | 260 => 200 | 137 => 203 | 119 => 204 | 224 => 198 | 225 => 197 | 217 => 196 | 266 => 206 | n => n, fun | 9 => 9 | 4 => 4 | 3 => 3 | 5 => 5 | 117 => 123 | 116 => 122 | 0 => 0 | 124 => 126 | 21 => 21 | 105 => 154 | 46 => 128 | 119 => 194 | 139 => 197 | 138 => 196 | n => n, fun | 3 => 4 | 4 => 5 | n => n⟩
theorem lays160 : Go.Proofs.Lays.n160 Tryz.prog lays160_ren := {
 mixed := by kernel_rfl
 f119 := Tryz.func204.trans (congrArg some (by kernel_rfl))
 f120 := Tryz.func187.trans (congrArg some (by kernel_rfl))
 f137 := Tryz.func203.trans (congrArg some (by kernel_rfl))
 f151 := Tryz.func167.trans (congrArg some (by kernel_rfl))
 f152 := Tryz.func188.trans (congrArg some (by kernel_rfl))
 f160 := Tryz.func150.trans (congrArg some (by kernel_rfl))
 f197 := Tryz.func181.trans (congrArg some (by kernel_rfl))
 f217 := Tryz.func196.trans (congrArg some (by kernel_rfl))
 f224 := Tryz.func198.trans (congrArg some (by kernel_rfl))
 f225 := Tryz.func197.trans (congrArg some (by kernel_rfl))
 f227 := Tryz.func127.trans (congrArg some (by kernel_rfl))
 f228 := Tryz.func165.trans (congrArg some (by kernel_rfl))
 f231 := Tryz.func151.trans (congrArg some (by kernel_rfl))
 f232 := Tryz.func126.trans (congrArg some (by kernel_rfl))
 f233 := Tryz.func152.trans (congrArg some (by kernel_rfl))
 f234 := Tryz.func128.trans (congrArg some (by kernel_rfl))
 f235 := Tryz.func153.trans (congrArg some (by kernel_rfl))
 f236 := Tryz.func129.trans (congrArg some (by kernel_rfl))
 f260 := Tryz.func200.trans (congrArg some (by kernel_rfl))
 f266 := Tryz.func206.trans (congrArg some (by kernel_rfl))
 f271 := Tryz.func166.trans (congrArg some (by kernel_rfl))
 t0 := Tryz.underlying0
 a0 := Tryz.isAgg0
 z0 := Tryz.sizeOf0
 v0 := Tryz.zeroValue0
 t3 := Tryz.underlying3
 a3 := Tryz.isAgg3
 z3 := Tryz.sizeOf3
 v3 := Tryz.zeroValue3
 t4 := Tryz.underlying4
 a4 := Tryz.isAgg4
 z4 := Tryz.sizeOf4
 v4 := Tryz.zeroValue4
 t5 := Tryz.underlying5
 a5 := Tryz.isAgg5
 z5 := Tryz.sizeOf5
 v5 := Tryz.zeroValue5
 t9 := Tryz.underlying9
 a9 := Tryz.isAgg9
 z9 := Tryz.sizeOf9
 v9 := Tryz.zeroValue9
 t21 := Tryz.underlying21
 a21 := Tryz.isAgg21
 z21 := Tryz.sizeOf21
 v21 := Tryz.zeroValue21
 t46 := Tryz.underlying128
 a46 := Tryz.isAgg128
 z46 := Tryz.sizeOf128
 v46 := Tryz.zeroValue128
 t105 := Tryz.underlying154
 a105 := Tryz.isAgg154
 z105 := Tryz.sizeOf154
 v105 := Tryz.zeroValue154
 t116 := Tryz.underlying122
 a116 := Tryz.isAgg122
 z116 := Tryz.sizeOf122
 t117 := Tryz.underlying123
 a117 := Tryz.isAgg123
 z117 := Tryz.sizeOf123
 v117 := Tryz.zeroValue123
 t119 := Tryz.underlying194
 a119 := Tryz.isAgg194
 z119 := Tryz.sizeOf194
 t124 := Tryz.underlying126
 a124 := Tryz.isAgg126
 z124 := Tryz.sizeOf126
 v124 := Tryz.zeroValue126
 t138 := Tryz.underlying196
 a138 := Tryz.isAgg196
 z138 := Tryz.sizeOf196
 v138 := Tryz.zeroValue196
 t139 := Tryz.underlying197
 a139 := Tryz.isAgg197
 z139 := Tryz.sizeOf197
 v139 := Tryz.zeroValue197
 g3 := by kernel_rfl
 g4 := by kernel_rfl }
def lays283_ren : Go.Shelf.Ren := ⟨fun | 283 => 161 | n => n, fun | 3 => 3 | 9 => 9 | 4 => 4 | n => n, fun | n => n⟩
theorem lays283 : Go.Proofs.Lays.n283 Tryz.prog lays283_ren := {
 mixed := by kernel_rfl
 f283 := Tryz.func161.trans (congrArg some (by kernel_rfl))
 t3 := Tryz.underlying3
 a3 := Tryz.isAgg3
 z3 := Tryz.sizeOf3
 v3 := Tryz.zeroValue3
 t4 := Tryz.underlying4
 a4 := Tryz.isAgg4
 z4 := Tryz.sizeOf4
 v4 := Tryz.zeroValue4
 t9 := Tryz.underlying9
 a9 := Tryz.isAgg9
 z9 := Tryz.sizeOf9
 v9 := Tryz.zeroValue9 }
def laysM284_ren : Go.Shelf.Ren := ⟨fun | 284 => 162 | 129 => 183 | 317 => 182 | 318 => 184 | n => n, fun | 53 => 79 | 3 => 3 | 212 => 174 | 0 => 0 | 4 => 4 | 46 => 128 | 5 => 5 | 9 => 9 | n => n, fun | 17 => 0 | n => n⟩
theorem laysM284 : Go.Proofs.LaysM.n284 Tryz.prog laysM284_ren := {
 mixed := by kernel_rfl
 f129 := Tryz.func183.trans (congrArg some (by kernel_rfl))
 f284 := Tryz.func162.trans (congrArg some (by kernel_rfl))
 f317 := Tryz.func182.trans (congrArg some (by kernel_rfl))
 f318 := Tryz.func184.trans (congrArg some (by kernel_rfl))
 t0 := Tryz.underlying0
 a0 := Tryz.isAgg0
 z0 := Tryz.sizeOf0
 v0 := Tryz.zeroValue0
 t3 := Tryz.underlying3
 a3 := Tryz.isAgg3
 z3 := Tryz.sizeOf3
 v3 := Tryz.zeroValue3
 t4 := Tryz.underlying4
 a4 := Tryz.isAgg4
 z4 := Tryz.sizeOf4
 v4 := Tryz.zeroValue4
 t5 := Tryz.underlying5
 a5 := Tryz.isAgg5
 z5 := Tryz.sizeOf5
 v5 := Tryz.zeroValue5
 t9 := Tryz.underlying9
 a9 := Tryz.isAgg9
 z9 := Tryz.sizeOf9
 v9 := Tryz.zeroValue9
 t46 := Tryz.underlying128
 a46 := Tryz.isAgg128
 z46 := Tryz.sizeOf128
 v46 := Tryz.zeroValue128
 t53 := Tryz.underlying79
 a53 := Tryz.isAgg79
 z53 := Tryz.sizeOf79
 v53 := Tryz.zeroValue79
 t212 := Tryz.underlying174
 a212 := Tryz.isAgg174
 z212 := Tryz.sizeOf174
 v212 := Tryz.zeroValue174
 g17 := by kernel_rfl
 i0 := by kernel_rfl
 i3 := by kernel_rfl
 i4 := by kernel_rfl
 i5 := by kernel_rfl
 i9 := by kernel_rfl
 i46 := by kernel_rfl
 i53 := by kernel_rfl
 i212 := by kernel_rfl
 m17 := by kernel_rfl }
def lays285_ren : Go.Shelf.Ren := ⟨fun | 285 => 163 | n => n, fun | 37 => 115 | 53 => 79 | 3 => 3 | 4 => 4 | 51 => 73 | 9 => 9 | 5 => 5 | 0 => 0 | n => n, fun | n => n⟩
theorem lays285 : Go.Proofs.Lays.n285 Tryz.prog lays285_ren := {
 mixed := by kernel_rfl
 f285 := Tryz.func163.trans (congrArg some (by kernel_rfl))
 t0 := Tryz.underlying0
 a0 := Tryz.isAgg0
 z0 := Tryz.sizeOf0
 v0 := Tryz.zeroValue0
 t3 := Tryz.underlying3
 a3 := Tryz.isAgg3
 z3 := Tryz.sizeOf3
 v3 := Tryz.zeroValue3
 t4 := Tryz.underlying4
 a4 := Tryz.isAgg4
 z4 := Tryz.sizeOf4
 v4 := Tryz.zeroValue4
 t5 := Tryz.underlying5
 a5 := Tryz.isAgg5
 z5 := Tryz.sizeOf5
 v5 := Tryz.zeroValue5
 t9 := Tryz.underlying9
 a9 := Tryz.isAgg9
 z9 := Tryz.sizeOf9
 v9 := Tryz.zeroValue9
 t37 := Tryz.underlying115
 a37 := Tryz.isAgg115
 z37 := Tryz.sizeOf115
 v37 := Tryz.zeroValue115
 t51 := Tryz.underlying73
 a51 := Tryz.isAgg73
 z51 := Tryz.sizeOf73
 v51 := Tryz.zeroValue73
 t53 := Tryz.underlying79
 a53 := Tryz.isAgg79
 z53 := Tryz.sizeOf79
 v53 := Tryz.zeroValue79 }
def lays217_ren : Go.Shelf.Ren := ⟨fun | 217 => 196 | 266 => 206 | n => n, fun | 9 => 9 | 5 => 5 | 3 => 3 | n => n, fun | n => n⟩
theorem lays217 : Go.Proofs.Lays.n217 Tryz.prog lays217_ren := {
 mixed := by kernel_rfl
 f217 := Tryz.func196.trans (congrArg some (by kernel_rfl))
 f266 := Tryz.func206.trans (congrArg some (by kernel_rfl))
 t3 := Tryz.underlying3
 a3 := Tryz.isAgg3
 z3 := Tryz.sizeOf3
 v3 := Tryz.zeroValue3
 t5 := Tryz.underlying5
 a5 := Tryz.isAgg5
 z5 := Tryz.sizeOf5
 v5 := Tryz.zeroValue5
 t9 := Tryz.underlying9
 a9 := Tryz.isAgg9
 z9 := Tryz.sizeOf9
 v9 := Tryz.zeroValue9 }
end Go.Proofs.YtipefnighcdgnaaGreatDoor
