import Derived.Shelf.Strings.Builder1
import Derived.Shelf.Strings.Builder2
import Derived.Shelf.Strings.Trim
import Derived.Shelf.Small.Utf8
import Derived.Shelf.Small.Strs
import Derived.Shelf.Strings.BuilderF
import Derived.Shelf.Strconv.Itoa0
import Derived.Shelf.Strconv.Itoa1
import Derived.Shelf.LaysM
import Derived.Shelf.Strconv.Itoa2
import Derived.Shelf.Strconv.Itoa3
import Derived.Shelf.Strconv.ParseIntEmpty
import Derived.Shelf.Strconv.Clone
import Derived.Shelf.Strconv.SyntaxError
import Derived.Shelf.LaysC
import Derived.Shelf.Strconv.ToError
import Derived.Shelf.Strconv.Lower
import Derived.Shelf.Strconv.ParseUint10
import Derived.Shelf.Strconv.ParseUint10Empty
import Derived.Shelf.Strconv.ParseUint10Any
import Derived.Shelf.Strconv.ParseInt10
import Derived.Shelf.Strconv.RangeError
import Derived.Shelf.Strconv.ToErrorRange
import Derived.Shelf.Strconv.ParseUintEmpty
import Derived.Shelf.Strconv.ParseUint10b64
import Derived.Shelf.Strconv.ParseUint10b32
import Derived.Shelf.Strconv.ParseUint10b16
import Derived.Shelf.Strconv.ParseUint10b8
import Derived.Shelf.Strconv.ParseUint10At
import Derived.Shelf.Strconv.ParseInt10At64
import Derived.Shelf.Strconv.ParseInt10At32
import Derived.Shelf.Strconv.ParseInt10At16
import Derived.Shelf.Strconv.ParseInt10At8
import Derived.Shelf.Strconv.ParseInt10All
import Derived.Shelf.Strconv.ParseIntPublic10
import Derived.Shelf.Strings.Search1
import Derived.Shelf.Strings.Search2
import Derived.Shelf.Strings.Cut
import Derived.Shelf.Strings.Shaped
import Derived.Shelf.Strings.Prefix
import Derived.Shelf.Unicode.Decode
import Derived.Shelf.Strings.Runes
import Derived.Shelf.Strings.AsciiSet
import Derived.Shelf.Bits.Mul64
import Derived.Shelf.Strings.Repeat
import Derived.Shelf.Unicode.DecodeSlow
import Derived.Shelf.Unicode.DecodeAny
import Derived.Shelf.Unicode.DecodeLast
import Derived.Test.YtipefnighcdgnaaGreatDoorProg
namespace Go.Proofs.YtipefnighcdgnaaGreatDoor
open Go.Shelf
def lays161_ren : Go.Shelf.Ren := ⟨fun | 161 => 114 | 231 => 151 | 227 => 127 | 233 => 152 | 235 => 153 | 228 => 165 | 197 => 181 | 151 => 167 | 260 => 200 | 152 => 188 | 137 => 203 | 119 => 204 | 224 => 198 | 225 => 197 | 217 => 196 | 266 => 206 | n => n, fun | 9 => 9 | 4 => 4 | 3 => 3 | 5 => 5 | 117 => 123 | 116 => 122 | 0 => 0 | 124 => 126 | 105 => 154 | 21 => 21 | 119 => 194 | 46 => 128 | 139 => 197 | 138 => 196 | n => n, fun | 3 => 4 | 4 => 5 | n => n⟩
theorem lays161 : Go.Proofs.Lays.n161 Tryz.prog lays161_ren := {
 mixed := by kernel_rfl
 f119 := Tryz.func204.trans (congrArg some (by kernel_rfl))
 f137 := Tryz.func203.trans (congrArg some (by kernel_rfl))
 f151 := Tryz.func167.trans (congrArg some (by kernel_rfl))
 f152 := Tryz.func188.trans (congrArg some (by kernel_rfl))
 f161 := Tryz.func114.trans (congrArg some (by kernel_rfl))
 f197 := Tryz.func181.trans (congrArg some (by kernel_rfl))
 f217 := Tryz.func196.trans (congrArg some (by kernel_rfl))
 f224 := Tryz.func198.trans (congrArg some (by kernel_rfl))
 f225 := Tryz.func197.trans (congrArg some (by kernel_rfl))
 f227 := Tryz.func127.trans (congrArg some (by kernel_rfl))
 f228 := Tryz.func165.trans (congrArg some (by kernel_rfl))
 f231 := Tryz.func151.trans (congrArg some (by kernel_rfl))
 f233 := Tryz.func152.trans (congrArg some (by kernel_rfl))
 f235 := Tryz.func153.trans (congrArg some (by kernel_rfl))
 f260 := Tryz.func200.trans (congrArg some (by kernel_rfl))
 f266 := Tryz.func206.trans (congrArg some (by kernel_rfl))
 t0 := Tryz.underlying0
 a0 := Tryz.isAgg0
 z0 := Tryz.sizeOf0
 v0 := Tryz.zeroValue0
 t3 := Tryz.underlying3
 a3 := Tryz.isAgg3
 z3 := Tryz.sizeOf3
 v3 := Tryz.zeroValue3
 t4 := Tryz.underlying4
 a4 := Tryz.isAgg4
 z4 := Tryz.sizeOf4
 v4 := Tryz.zeroValue4
 t5 := Tryz.underlying5
 a5 := Tryz.isAgg5
 z5 := Tryz.sizeOf5
 v5 := Tryz.zeroValue5
 t9 := Tryz.underlying9
 a9 := Tryz.isAgg9
 z9 := Tryz.sizeOf9
 v9 := Tryz.zeroValue9
 t21 := Tryz.underlying21
 a21 := Tryz.isAgg21
 z21 := Tryz.sizeOf21
 v21 := Tryz.zeroValue21
 t46 := Tryz.underlying128
 a46 := Tryz.isAgg128
 z46 := Tryz.sizeOf128
 v46 := Tryz.zeroValue128
 t105 := Tryz.underlying154
 a105 := Tryz.isAgg154
 z105 := Tryz.sizeOf154
 v105 := Tryz.zeroValue154
 t116 := Tryz.underlying122
 a116 := Tryz.isAgg122
 z116 := Tryz.sizeOf122
 t117 := Tryz.underlying123
 a117 := Tryz.isAgg123
 z117 := Tryz.sizeOf123
 v117 := Tryz.zeroValue123
 t119 := Tryz.underlying194
 a119 := Tryz.isAgg194
 z119 := Tryz.sizeOf194
 t124 := Tryz.underlying126
 a124 := Tryz.isAgg126
 z124 := Tryz.sizeOf126
 v124 := Tryz.zeroValue126
 t138 := Tryz.underlying196
 a138 := Tryz.isAgg196
 z138 := Tryz.sizeOf196
 v138 := Tryz.zeroValue196
 t139 := Tryz.underlying197
 a139 := Tryz.isAgg197
 z139 := Tryz.sizeOf197
 v139 := Tryz.zeroValue197
 g3 := by kernel_rfl
 g4 := by kernel_rfl }
def lays162_ren : Go.Shelf.Ren := ⟨fun | 162 => 87 | 232 => 126 | 227 => 127 | 234 => 128 | 236 => 129 | 228 => 165 | 271 => 166 | 151 => 167 | 120 => 187 | 197 => 181 | 152 => 188 | 260 => 200 | 137 => 203 | 119 => 204 | 224 => 198 | 225 => 197 | 217 => 196 | 266 => 206 | n => n, fun | 9 => 9 | 4 => 4 | 3 => 3 | 5 => 5 | 117 => 123 | 116 => 122 | 0 => 0 | 124 => 126 | 21 => 21 | 105 => 154 | 46 => 128 | 119 => 194 | 139 => 197 | 138 => 196 | n => n, fun | 3 => 4 | 4 => 5 | n => n⟩
theorem lays162 : Go.Proofs.Lays.n162 Tryz.prog lays162_ren := {
 mixed := by kernel_rfl
 f119 := Tryz.func204.trans (congrArg some (by kernel_rfl))
 f120 := Tryz.func187.trans (congrArg some (by kernel_rfl))
 f137 := Tryz.func203.trans (congrArg some (by kernel_rfl))
 f151 := Tryz.func167.trans (congrArg some (by kernel_rfl))
 f152 := Tryz.func188.trans (congrArg some (by kernel_rfl))
 f162 := Tryz.func87.trans (congrArg some (by kernel_rfl))
 f197 := Tryz.func181.trans (congrArg some (by kernel_rfl))
 f217 := Tryz.func196.trans (congrArg some (by kernel_rfl))
 f224 := Tryz.func198.trans (congrArg some (by kernel_rfl))
 f225 := Tryz.func197.trans (congrArg some (by kernel_rfl))
 f227 := Tryz.func127.trans (congrArg some (by kernel_rfl))
 f228 := Tryz.func165.trans (congrArg some (by kernel_rfl))
 f232 := Tryz.func126.trans (congrArg some (by kernel_rfl))
 f234 := Tryz.func128.trans (congrArg some (by kernel_rfl))
 f236 := Tryz.func129.trans (congrArg some (by kernel_rfl))
 f260 := Tryz.func200.trans (congrArg some (by kernel_rfl))
 f266 := Tryz.func206.trans (congrArg some (by kernel_rfl))
 f271 := Tryz.func166.trans (congrArg some (by kernel_rfl))
 t0 := Tryz.underlying0
 a0 := Tryz.isAgg0
 z0 := Tryz.sizeOf0
 v0 := Tryz.zeroValue0
 t3 := Tryz.underlying3
 a3 := Tryz.isAgg3
 z3 := Tryz.sizeOf3
 v3 := Tryz.zeroValue3
 t4 := Tryz.underlying4
 a4 := Tryz.isAgg4
 z4 := Tryz.sizeOf4
 v4 := Tryz.zeroValue4
 t5 := Tryz.underlying5
 a5 := Tryz.isAgg5
 z5 := Tryz.sizeOf5
 v5 := Tryz.zeroValue5
 t9 := Tryz.underlying9
 a9 := Tryz.isAgg9
 z9 := Tryz.sizeOf9
 v9 := Tryz.zeroValue9
 t21 := Tryz.underlying21
 a21 := Tryz.isAgg21
 z21 := Tryz.sizeOf21
 v21 := Tryz.zeroValue21
 t46 := Tryz.underlying128
 a46 := Tryz.isAgg128
 z46 := Tryz.sizeOf128
 v46 := Tryz.zeroValue128
 t105 := Tryz.underlying154
 a105 := Tryz.isAgg154
 z105 := Tryz.sizeOf154
 v105 := Tryz.zeroValue154
 t116 := Tryz.underlying122
 a116 := Tryz.isAgg122
 z116 := Tryz.sizeOf122
 t117 := Tryz.underlying123
 a117 := Tryz.isAgg123
 z117 := Tryz.sizeOf123
 v117 := Tryz.zeroValue123
 t119 := Tryz.underlying194
 a119 := Tryz.isAgg194
 z119 := Tryz.sizeOf194
 t124 := Tryz.underlying126
 a124 := Tryz.isAgg126
 z124 := Tryz.sizeOf126
 v124 := Tryz.zeroValue126
 t138 := Tryz.underlying196
 a138 := Tryz.isAgg196
 z138 := Tryz.sizeOf196
 v138 := Tryz.zeroValue196
 t139 := Tryz.underlying197
 a139 := Tryz.isAgg197
 z139 := Tryz.sizeOf197
 v139 := Tryz.zeroValue197
 g3 := by kernel_rfl
 g4 := by kernel_rfl }
def lays160_ren : Go.Shelf.Ren := ⟨fun | 160 => 150 | 232 => 126 | 231 => 151 | 227 => 127 | 234 => 128 | 233 => 152 | 236 => 129 | 235 => 153 | 228 => 165 | 271 => 166 | 151 => 167 | 197 => 181 | 120 => 187 | 152 => 188 | 260 => 200 | 137 => 203 | 119 => 204 | 224 => 198 | 225 => 197 | 217 => 196 | 266 => 206 | n => n, fun | 9 => 9 | 4 => 4 | 3 => 3 | 5 => 5 | 117 => 123 | 116 => 122 | 0 => 0 | 124 => 126 | 21 => 21 | 105 => 154 | 46 => 128 | 119 => 194 | 139 => 197 | 138 => 196 | n => n, fun | 3 => 4 | 4 => 5 | n => n⟩
theorem lays160 : Go.Proofs.Lays.n160 Tryz.prog lays160_ren := {
 mixed := by kernel_rfl
 f119 := Tryz.func204.trans (congrArg some (by kernel_rfl))
 f120 := Tryz.func187.trans (congrArg some (by kernel_rfl))
 f137 := Tryz.func203.trans (congrArg some (by kernel_rfl))
 f151 := Tryz.func167.trans (congrArg some (by kernel_rfl))
 f152 := Tryz.func188.trans (congrArg some (by kernel_rfl))
 f160 := Tryz.func150.trans (congrArg some (by kernel_rfl))
 f197 := Tryz.func181.trans (congrArg some (by kernel_rfl))
 f217 := Tryz.func196.trans (congrArg some (by kernel_rfl))
 f224 := Tryz.func198.trans (congrArg some (by kernel_rfl))
 f225 := Tryz.func197.trans (congrArg some (by kernel_rfl))
 f227 := Tryz.func127.trans (congrArg some (by kernel_rfl))
 f228 := Tryz.func165.trans (congrArg some (by kernel_rfl))
 f231 := Tryz.func151.trans (congrArg some (by kernel_rfl))
 f232 := Tryz.func126.trans (congrArg some (by kernel_rfl))
 f233 := Tryz.func152.trans (congrArg some (by kernel_rfl))
 f234 := Tryz.func128.trans (congrArg some (by kernel_rfl))
 f235 := Tryz.func153.trans (congrArg some (by kernel_rfl))
 f236 := Tryz.func129.trans (congrArg some (by kernel_rfl))
 f260 := Tryz.func200.trans (congrArg some (by kernel_rfl))
 f266 := Tryz.func206.trans (congrArg some (by kernel_rfl))
 f271 := Tryz.func166.trans (congrArg some (by kernel_rfl))
 t0 := Tryz.underlying0
 a0 := Tryz.isAgg0
 z0 := Tryz.sizeOf0
 v0 := Tryz.zeroValue0
 t3 := Tryz.underlying3
 a3 := Tryz.isAgg3
 z3 := Tryz.sizeOf3
 v3 := Tryz.zeroValue3
 t4 := Tryz.underlying4
 a4 := Tryz.isAgg4
 z4 := Tryz.sizeOf4
 v4 := Tryz.zeroValue4
 t5 := Tryz.underlying5
 a5 := Tryz.isAgg5
 z5 := Tryz.sizeOf5
 v5 := Tryz.zeroValue5
 t9 := Tryz.underlying9
 a9 := Tryz.isAgg9
 z9 := Tryz.sizeOf9
 v9 := Tryz.zeroValue9
 t21 := Tryz.underlying21
 a21 := Tryz.isAgg21
 z21 := Tryz.sizeOf21
 v21 := Tryz.zeroValue21
 t46 := Tryz.underlying128
 a46 := Tryz.isAgg128
 z46 := Tryz.sizeOf128
 v46 := Tryz.zeroValue128
 t105 := Tryz.underlying154
 a105 := Tryz.isAgg154
 z105 := Tryz.sizeOf154
 v105 := Tryz.zeroValue154
 t116 := Tryz.underlying122
 a116 := Tryz.isAgg122
 z116 := Tryz.sizeOf122
 t117 := Tryz.underlying123
 a117 := Tryz.isAgg123
 z117 := Tryz.sizeOf123
 v117 := Tryz.zeroValue123
 t119 := Tryz.underlying194
 a119 := Tryz.isAgg194
 z119 := Tryz.sizeOf194
 t124 := Tryz.underlying126
 a124 := Tryz.isAgg126
 z124 := Tryz.sizeOf126
 v124 := Tryz.zeroValue126
 t138 := Tryz.underlying196
 a138 := Tryz.isAgg196
 z138 := Tryz.sizeOf196
 v138 := Tryz.zeroValue196
 t139 := Tryz.underlying197
 a139 := Tryz.isAgg197
 z139 := Tryz.sizeOf197
 v139 := Tryz.zeroValue197
 g3 := by kernel_rfl
 g4 := by kernel_rfl }
def lays283_ren : Go.Shelf.Ren := ⟨fun | 283 => 161 | n => n, fun | 3 => 3 | 9 => 9 | 4 => 4 | n => n, fun | n => n⟩
theorem lays283 : Go.Proofs.Lays.n283 Tryz.prog lays283_ren := {
 mixed := by kernel_rfl
 f283 := Tryz.func161.trans (congrArg some (by kernel_rfl))
 t3 := Tryz.underlying3
 a3 := Tryz.isAgg3
 z3 := Tryz.sizeOf3
 v3 := Tryz.zeroValue3
 t4 := Tryz.underlying4
 a4 := Tryz.isAgg4
 z4 := Tryz.sizeOf4
 v4 := Tryz.zeroValue4
 t9 := Tryz.underlying9
 a9 := Tryz.isAgg9
 z9 := Tryz.sizeOf9
 v9 := Tryz.zeroValue9 }
def laysM284_ren : Go.Shelf.Ren := ⟨fun | 284 => 162 | 129 => 183 | 317 => 182 | 318 => 184 | n => n, fun | 53 => 79 | 3 => 3 | 212 => 174 | 0 => 0 | 4 => 4 | 46 => 128 | 5 => 5 | 9 => 9 | n => n, fun | 17 => 0 | n => n⟩
theorem laysM284 : Go.Proofs.LaysM.n284 Tryz.prog laysM284_ren := {
 mixed := by kernel_rfl
 f129 := Tryz.func183.trans (congrArg some (by kernel_rfl))
 f284 := Tryz.func162.trans (congrArg some (by kernel_rfl))
 f317 := Tryz.func182.trans (congrArg some (by kernel_rfl))
 f318 := Tryz.func184.trans (congrArg some (by kernel_rfl))
 t0 := Tryz.underlying0
 a0 := Tryz.isAgg0
 z0 := Tryz.sizeOf0
 v0 := Tryz.zeroValue0
 t3 := Tryz.underlying3
 a3 := Tryz.isAgg3
 z3 := Tryz.sizeOf3
 v3 := Tryz.zeroValue3
 t4 := Tryz.underlying4
 a4 := Tryz.isAgg4
 z4 := Tryz.sizeOf4
 v4 := Tryz.zeroValue4
 t5 := Tryz.underlying5
 a5 := Tryz.isAgg5
 z5 := Tryz.sizeOf5
 v5 := Tryz.zeroValue5
 t9 := Tryz.underlying9
 a9 := Tryz.isAgg9
 z9 := Tryz.sizeOf9
 v9 := Tryz.zeroValue9
 t46 := Tryz.underlying128
 a46 := Tryz.isAgg128
 z46 := Tryz.sizeOf128
 v46 := Tryz.zeroValue128
 t53 := Tryz.underlying79
 a53 := Tryz.isAgg79
 z53 := Tryz.sizeOf79
 v53 := Tryz.zeroValue79
 t212 := Tryz.underlying174
 a212 := Tryz.isAgg174
 z212 := Tryz.sizeOf174
 v212 := Tryz.zeroValue174
 g17 := by kernel_rfl
 i0 := by kernel_rfl
 i3 := by kernel_rfl
 i4 := by kernel_rfl
 i5 := by kernel_rfl
 i9 := by kernel_rfl
 i46 := by kernel_rfl
 i53 := by kernel_rfl
 i212 := by kernel_rfl
 m17 := by kernel_rfl }
def lays285_ren : Go.Shelf.Ren := ⟨fun | 285 => 163 | n => n, fun | 37 => 115 | 53 => 79 | 3 => 3 | 4 => 4 | 51 => 73 | 9 => 9 | 5 => 5 | 0 => 0 | n => n, fun | n => n⟩
theorem lays285 : Go.Proofs.Lays.n285 Tryz.prog lays285_ren := {
 mixed := by kernel_rfl
 f285 := Tryz.func163.trans (congrArg some (by kernel_rfl))
 t0 := Tryz.underlying0
 a0 := Tryz.isAgg0
 z0 := Tryz.sizeOf0
 v0 := Tryz.zeroValue0
 t3 := Tryz.underlying3
 a3 := Tryz.isAgg3
 z3 := Tryz.sizeOf3
 v3 := Tryz.zeroValue3
 t4 := Tryz.underlying4
 a4 := Tryz.isAgg4
 z4 := Tryz.sizeOf4
 v4 := Tryz.zeroValue4
 t5 := Tryz.underlying5
 a5 := Tryz.isAgg5
 z5 := Tryz.sizeOf5
 v5 := Tryz.zeroValue5
 t9 := Tryz.underlying9
 a9 := Tryz.isAgg9
 z9 := Tryz.sizeOf9
 v9 := Tryz.zeroValue9
 t37 := Tryz.underlying115
 a37 := Tryz.isAgg115
 z37 := Tryz.sizeOf115
 v37 := Tryz.zeroValue115
 t51 := Tryz.underlying73
 a51 := Tryz.isAgg73
 z51 := Tryz.sizeOf73
 v51 := Tryz.zeroValue73
 t53 := Tryz.underlying79
 a53 := Tryz.isAgg79
 z53 := Tryz.sizeOf79
 v53 := Tryz.zeroValue79 }
def laysC174_ren : Go.Shelf.Ren := ⟨fun | 174 => 88 | 247 => 130 | 245 => 131 | 287 => 168 | 279 => 169 | 280 => 170 | 281 => 171 | 282 => 172 | 321 => 189 | 322 => 190 | 316 => 191 | 171 => 193 | 205 => 192 | 243 => 205 | 246 => 208 | 283 => 161 | 284 => 162 | 285 => 163 | 286 => 164 | 129 => 183 | 317 => 182 | 318 => 184 | 319 => 185 | 320 => 186 | 337 => 201 | 338 => 202 | n => n, fun | 9 => 9 | 3 => 3 | 2 => 2 | 75 => 99 | 85 => 100 | 4 => 4 | 167 => 157 | 5 => 5 | 53 => 79 | 175 => 158 | 46 => 128 | 168 => 160 | 37 => 115 | 0 => 0 | 210 => 182 | 21 => 21 | 127 => 167 | 145 => 192 | 143 => 190 | 171 => 148 | 173 => 151 | 212 => 174 | 51 => 73 | 20 => 20 | 213 => 175 | 232 => 198 | 233 => 199 | 80 => 139 | n => n, fun | 15 => 1 | 16 => 2 | 17 => 0 | 18 => 6 | 19 => 7 | n => n⟩
theorem laysC174 : Go.Proofs.LaysC.n174 Tryz.prog laysC174_ren := {
 mixed := by kernel_rfl
 f129 := Tryz.func183.trans (congrArg some (by kernel_rfl))
 f171 := Tryz.func193.trans (congrArg some (by kernel_rfl))
 f174 := Tryz.func88.trans (congrArg some (by kernel_rfl))
 f205 := Tryz.func192.trans (congrArg some (by kernel_rfl))
 f243 := Tryz.func205.trans (congrArg some (by kernel_rfl))
 f245 := Tryz.func131.trans (congrArg some (by kernel_rfl))
 f246 := Tryz.func208.trans (congrArg some (by kernel_rfl))
 f247 := Tryz.func130.trans (congrArg some (by kernel_rfl))
 f279 := Tryz.func169.trans (congrArg some (by kernel_rfl))
 f280 := Tryz.func170.trans (congrArg some (by kernel_rfl))
 f281 := Tryz.func171.trans (congrArg some (by kernel_rfl))
 f282 := Tryz.func172.trans (congrArg some (by kernel_rfl))
 f283 := Tryz.func161.trans (congrArg some (by kernel_rfl))
 f284 := Tryz.func162.trans (congrArg some (by kernel_rfl))
 f285 := Tryz.func163.trans (congrArg some (by kernel_rfl))
 f286 := Tryz.func164.trans (congrArg some (by kernel_rfl))
 f287 := Tryz.func168.trans (congrArg some (by kernel_rfl))
 f316 := Tryz.func191.trans (congrArg some (by kernel_rfl))
 f317 := Tryz.func182.trans (congrArg some (by kernel_rfl))
 f318 := Tryz.func184.trans (congrArg some (by kernel_rfl))
 f319 := Tryz.func185.trans (congrArg some (by kernel_rfl))
 f320 := Tryz.func186.trans (congrArg some (by kernel_rfl))
 f321 := Tryz.func189.trans (congrArg some (by kernel_rfl))
 f322 := Tryz.func190.trans (congrArg some (by kernel_rfl))
 f337 := Tryz.func201.trans (congrArg some (by kernel_rfl))
 f338 := Tryz.func202.trans (congrArg some (by kernel_rfl))
 t0 := Tryz.underlying0
 a0 := Tryz.isAgg0
 z0 := Tryz.sizeOf0
 v0 := Tryz.zeroValue0
 t2 := Tryz.underlying2
 a2 := Tryz.isAgg2
 z2 := Tryz.sizeOf2
 v2 := Tryz.zeroValue2
 t3 := Tryz.underlying3
 a3 := Tryz.isAgg3
 z3 := Tryz.sizeOf3
 v3 := Tryz.zeroValue3
 t4 := Tryz.underlying4
 a4 := Tryz.isAgg4
 z4 := Tryz.sizeOf4
 v4 := Tryz.zeroValue4
 t5 := Tryz.underlying5
 a5 := Tryz.isAgg5
 z5 := Tryz.sizeOf5
 v5 := Tryz.zeroValue5
 t9 := Tryz.underlying9
 a9 := Tryz.isAgg9
 z9 := Tryz.sizeOf9
 v9 := Tryz.zeroValue9
 t20 := Tryz.underlying20
 a20 := Tryz.isAgg20
 z20 := Tryz.sizeOf20
 v20 := Tryz.zeroValue20
 t21 := Tryz.underlying21
 a21 := Tryz.isAgg21
 z21 := Tryz.sizeOf21
 v21 := Tryz.zeroValue21
 t37 := Tryz.underlying115
 a37 := Tryz.isAgg115
 z37 := Tryz.sizeOf115
 v37 := Tryz.zeroValue115
 t46 := Tryz.underlying128
 a46 := Tryz.isAgg128
 z46 := Tryz.sizeOf128
 v46 := Tryz.zeroValue128
 t51 := Tryz.underlying73
 a51 := Tryz.isAgg73
 z51 := Tryz.sizeOf73
 v51 := Tryz.zeroValue73
 t53 := Tryz.underlying79
 a53 := Tryz.isAgg79
 z53 := Tryz.sizeOf79
 v53 := Tryz.zeroValue79
 t75 := Tryz.underlying99
 a75 := Tryz.isAgg99
 z75 := Tryz.sizeOf99
 v75 := Tryz.zeroValue99
 t85 := Tryz.underlying100
 a85 := Tryz.isAgg100
 z85 := Tryz.sizeOf100
 v85 := Tryz.zeroValue100
 t127 := Tryz.underlying167
 a127 := Tryz.isAgg167
 z127 := Tryz.sizeOf167
 v127 := Tryz.zeroValue167
 t143 := Tryz.underlying190
 a143 := Tryz.isAgg190
 z143 := Tryz.sizeOf190
 v143 := Tryz.zeroValue190
 t145 := Tryz.underlying192
 a145 := Tryz.isAgg192
 z145 := Tryz.sizeOf192
 v145 := Tryz.zeroValue192
 t167 := Tryz.underlying157
 a167 := Tryz.isAgg157
 z167 := Tryz.sizeOf157
 v167 := Tryz.zeroValue157
 t168 := Tryz.underlying160
 a168 := Tryz.isAgg160
 z168 := Tryz.sizeOf160
 v168 := Tryz.zeroValue160
 t171 := Tryz.underlying148
 a171 := Tryz.isAgg148
 z171 := Tryz.sizeOf148
 v171 := Tryz.zeroValue148
 t173 := Tryz.underlying151
 a173 := Tryz.isAgg151
 z173 := Tryz.sizeOf151
 v173 := Tryz.zeroValue151
 t175 := Tryz.underlying158
 a175 := Tryz.isAgg158
 z175 := Tryz.sizeOf158
 v175 := Tryz.zeroValue158
 t210 := Tryz.underlying182
 a210 := Tryz.isAgg182
 z210 := Tryz.sizeOf182
 v210 := Tryz.zeroValue182
 t212 := Tryz.underlying174
 a212 := Tryz.isAgg174
 z212 := Tryz.sizeOf174
 v212 := Tryz.zeroValue174
 t213 := Tryz.underlying175
 a213 := Tryz.isAgg175
 z213 := Tryz.sizeOf175
 t232 := Tryz.underlying198
 a232 := Tryz.isAgg198
 z232 := Tryz.sizeOf198
 v232 := Tryz.zeroValue198
 t233 := Tryz.underlying199
 a233 := Tryz.isAgg199
 z233 := Tryz.sizeOf199
 v233 := Tryz.zeroValue199
 g15 := by kernel_rfl
 g16 := by kernel_rfl
 g17 := by kernel_rfl
 g18 := by kernel_rfl
 g19 := by kernel_rfl
 t80 := Tryz.underlying139
 a80 := Tryz.isAgg139
 z80 := Tryz.sizeOf139
 v80 := Tryz.zeroValue139
 i0 := by kernel_rfl
 i2 := by kernel_rfl
 i3 := by kernel_rfl
 i4 := by kernel_rfl
 i5 := by kernel_rfl
 i9 := by kernel_rfl
 i20 := by kernel_rfl
 i21 := by kernel_rfl
 i37 := by kernel_rfl
 i46 := by kernel_rfl
 i51 := by kernel_rfl
 i53 := by kernel_rfl
 i75 := by kernel_rfl
 i80 := by kernel_rfl
 i85 := by kernel_rfl
 i127 := by kernel_rfl
 i143 := by kernel_rfl
 i145 := by kernel_rfl
 i167 := by kernel_rfl
 i168 := by kernel_rfl
 i171 := by kernel_rfl
 i173 := by kernel_rfl
 i175 := by kernel_rfl
 i210 := by kernel_rfl
 i212 := by kernel_rfl
 i232 := by kernel_rfl
 i233 := by kernel_rfl
 m15 := by kernel_rfl
 m16 := by kernel_rfl
 m17 := by kernel_rfl
 m18 := by kernel_rfl
 m19 := by kernel_rfl
 c0 := by kernel_rfl
 c2 := by kernel_rfl
 c3 := by kernel_rfl
 c4 := by kernel_rfl
 c5 := by kernel_rfl
 c9 := by kernel_rfl
 c20 := by kernel_rfl
 c21 := by kernel_rfl
 c37 := by kernel_rfl
 c46 := by kernel_rfl
 c51 := by kernel_rfl
 c53 := by kernel_rfl
 c75 := by kernel_rfl
 c80 := by kernel_rfl
 c85 := by kernel_rfl
 c127 := by kernel_rfl
 c143 := by kernel_rfl
 c145 := by kernel_rfl
 c167 := by kernel_rfl
 c168 := by kernel_rfl
 c171 := by kernel_rfl
 c173 := by kernel_rfl
 c175 := by kernel_rfl
 c210 := by kernel_rfl
 c212 := by kernel_rfl
 c213 := by kernel_rfl
 c232 := by kernel_rfl
 c233 := by kernel_rfl }
def lays217_ren : Go.Shelf.Ren := ⟨fun | 217 => 196 | 266 => 206 | n => n, fun | 9 => 9 | 5 => 5 | 3 => 3 | n => n, fun | n => n⟩
theorem lays217 : Go.Proofs.Lays.n217 Tryz.prog lays217_ren := {
 mixed := by kernel_rfl
 f217 := Tryz.func196.trans (congrArg some (by kernel_rfl))
 f266 := Tryz.func206.trans (congrArg some (by kernel_rfl))
 t3 := Tryz.underlying3
 a3 := Tryz.isAgg3
 z3 := Tryz.sizeOf3
 v3 := Tryz.zeroValue3
 t5 := Tryz.underlying5
 a5 := Tryz.isAgg5
 z5 := Tryz.sizeOf5
 v5 := Tryz.zeroValue5
 t9 := Tryz.underlying9
 a9 := Tryz.isAgg9
 z9 := Tryz.sizeOf9
 v9 := Tryz.zeroValue9 }
end Go.Proofs.YtipefnighcdgnaaGreatDoor
