import Derived.Shelf.Strings.Builder1
import Derived.Shelf.Strings.Trim
import Derived.Shelf.Small.Utf8
import Derived.Shelf.Small.Strs
import Derived.Shelf.Strconv.Itoa0
import Derived.Shelf.Strconv.Itoa1
import Derived.Shelf.LaysM
import Derived.Shelf.Strconv.Itoa2
import Derived.Shelf.Strconv.Itoa3
import Derived.Shelf.Strconv.ParseIntEmpty
import Derived.Shelf.Strconv.Clone
import Derived.Shelf.Strconv.SyntaxError
import Derived.Shelf.LaysC
import Derived.Shelf.Strconv.ToError
import Derived.Shelf.Strconv.Lower
import Derived.Shelf.Strconv.ParseUint10
import Derived.Shelf.Strconv.ParseUint10Empty
import Derived.Shelf.Strconv.ParseUint10Any
import Derived.Shelf.Strconv.ParseInt10
import Derived.Shelf.Strconv.RangeError
import Derived.Shelf.Strconv.ToErrorRange
import Derived.Shelf.Strconv.ParseUintEmpty
import Derived.Shelf.Strconv.ParseUint10b64
import Derived.Shelf.Strconv.ParseUint10b32
import Derived.Shelf.Strconv.ParseUint10b16
import Derived.Shelf.Strconv.ParseUint10b8
import Derived.Shelf.Strconv.ParseUint10At
import Derived.Shelf.Strconv.ParseInt10At64
import Derived.Shelf.Strconv.ParseInt10At32
import Derived.Shelf.Strconv.ParseInt10At16
import Derived.Shelf.Strconv.ParseInt10At8
import Derived.Shelf.Strconv.ParseInt10All
import Derived.Shelf.Strconv.ParseIntPublic10
import Derived.Shelf.Strings.Search1
import Derived.Shelf.Strings.Search2
import Derived.Shelf.Strings.Search3
import Derived.Shelf.Strings.Cut
import Derived.Shelf.Strings.Count
import Derived.Shelf.Strings.Shaped
import Derived.Shelf.Strings.Split
import Derived.Shelf.Strings.SplitShaped
import Derived.Shelf.Unicode.Decode
import Derived.Shelf.Strings.Runes
import Derived.Shelf.Strings.RuneCount
import Derived.Shelf.Strings.AsciiSet
import Derived.Shelf.Strings.Explode
import Derived.Shelf.Unicode.DecodeSlow
import Derived.Test.YtpdjgamdnjfmkaaGreatDoorProg
namespace Go.Proofs.YtpdjgamdnjfmkaaGreatDoor
open Go.Shelf
def lays161_ren : Go.Shelf.Ren := ⟨fun | 161 => 78 | 231 => 108 | 227 => 109 | 233 => 110 | 235 => 111 | 228 => 135 | 197 => 114 | 151 => 136 | 260 => 137 | 152 => 150 | 137 => 28 | 119 => 155 | 224 => 117 | 225 => 116 | 217 => 52 | 266 => 81 | n => n, fun | 9 => 9 | 4 => 4 | 3 => 3 | 5 => 5 | 117 => 136 | 116 => 135 | 0 => 0 | 124 => 139 | 105 => 140 | 21 => 21 | 119 => 164 | 46 => 122 | 139 => 167 | 138 => 166 | n => n, fun | 3 => 3 | 4 => 4 | n => n⟩
theorem lays161 : Go.Proofs.Lays.n161 Tryz.prog lays161_ren := {
 mixed := by kernel_rfl
 f119 := Tryz.func155.trans (congrArg some (by kernel_rfl))
 f137 := Tryz.func28.trans (congrArg some (by kernel_rfl))
 f151 := Tryz.func136.trans (congrArg some (by kernel_rfl))
 f152 := Tryz.func150.trans (congrArg some (by kernel_rfl))
 f161 := Tryz.func78.trans (congrArg some (by kernel_rfl))
 f197 := Tryz.func114.trans (congrArg some (by kernel_rfl))
 f217 := Tryz.func52.trans (congrArg some (by kernel_rfl))
 f224 := Tryz.func117.trans (congrArg some (by kernel_rfl))
 f225 := Tryz.func116.trans (congrArg some (by kernel_rfl))
 f227 := Tryz.func109.trans (congrArg some (by kernel_rfl))
 f228 := Tryz.func135.trans (congrArg some (by kernel_rfl))
 f231 := Tryz.func108.trans (congrArg some (by kernel_rfl))
 f233 := Tryz.func110.trans (congrArg some (by kernel_rfl))
 f235 := Tryz.func111.trans (congrArg some (by kernel_rfl))
 f260 := Tryz.func137.trans (congrArg some (by kernel_rfl))
 f266 := Tryz.func81.trans (congrArg some (by kernel_rfl))
 t0 := Tryz.underlying0
 a0 := Tryz.isAgg0
 z0 := Tryz.sizeOf0
 v0 := Tryz.zeroValue0
 t3 := Tryz.underlying3
 a3 := Tryz.isAgg3
 z3 := Tryz.sizeOf3
 v3 := Tryz.zeroValue3
 t4 := Tryz.underlying4
 a4 := Tryz.isAgg4
 z4 := Tryz.sizeOf4
 v4 := Tryz.zeroValue4
 t5 := Tryz.underlying5
 a5 := Tryz.isAgg5
 z5 := Tryz.sizeOf5
 v5 := Tryz.zeroValue5
 t9 := Tryz.underlying9
 a9 := Tryz.isAgg9
 z9 := Tryz.sizeOf9
 v9 := Tryz.zeroValue9
 t21 := Tryz.underlying21
 a21 := Tryz.isAgg21
 z21 := Tryz.sizeOf21
 v21 := Tryz.zeroValue21
 t46 := Tryz.underlying122
 a46 := Tryz.isAgg122
 z46 := Tryz.sizeOf122
 v46 := Tryz.zeroValue122
 t105 := Tryz.underlying140
 a105 := Tryz.isAgg140
 z105 := Tryz.sizeOf140
 v105 := Tryz.zeroValue140
 t116 := Tryz.underlying135
 a116 := Tryz.isAgg135
 z116 := Tryz.sizeOf135
 t117 := Tryz.underlying136
 a117 := Tryz.isAgg136
 z117 := Tryz.sizeOf136
 v117 := Tryz.zeroValue136
 t119 := Tryz.underlying164
 a119 := Tryz.isAgg164
 z119 := Tryz.sizeOf164
 t124 := Tryz.underlying139
 a124 := Tryz.isAgg139
 z124 := Tryz.sizeOf139
 v124 := Tryz.zeroValue139
 t138 := Tryz.underlying166
 a138 := Tryz.isAgg166
 z138 := Tryz.sizeOf166
 v138 := Tryz.zeroValue166
 t139 := Tryz.underlying167
 a139 := Tryz.isAgg167
 z139 := Tryz.sizeOf167
 v139 := Tryz.zeroValue167
 g3 := by kernel_rfl
 g4 := by kernel_rfl }
def lays160_ren : Go.Shelf.Ren := ⟨fun | 160 => 107 | 232 => 132 | 231 => 108 | 227 => 109 | 234 => 133 | 233 => 110 | 236 => 134 | 235 => 111 | 228 => 135 | 271 => 149 | 151 => 136 | 197 => 114 | 120 => 154 | 152 => 150 | 260 => 137 | 137 => 28 | 119 => 155 | 224 => 117 | 225 => 116 | 217 => 52 | 266 => 81 | n => n, fun | 9 => 9 | 4 => 4 | 3 => 3 | 5 => 5 | 117 => 136 | 116 => 135 | 0 => 0 | 124 => 139 | 21 => 21 | 105 => 140 | 46 => 122 | 119 => 164 | 139 => 167 | 138 => 166 | n => n, fun | 3 => 3 | 4 => 4 | n => n⟩
theorem lays160 : Go.Proofs.Lays.n160 Tryz.prog lays160_ren := {
 mixed := by kernel_rfl
 f119 := Tryz.func155.trans (congrArg some (by kernel_rfl))
 f120 := Tryz.func154.trans (congrArg some (by kernel_rfl))
 f137 := Tryz.func28.trans (congrArg some (by kernel_rfl))
 f151 := Tryz.func136.trans (congrArg some (by kernel_rfl))
 f152 := Tryz.func150.trans (congrArg some (by kernel_rfl))
 f160 := Tryz.func107.trans (congrArg some (by kernel_rfl))
 f197 := Tryz.func114.trans (congrArg some (by kernel_rfl))
 f217 := Tryz.func52.trans (congrArg some (by kernel_rfl))
 f224 := Tryz.func117.trans (congrArg some (by kernel_rfl))
 f225 := Tryz.func116.trans (congrArg some (by kernel_rfl))
 f227 := Tryz.func109.trans (congrArg some (by kernel_rfl))
 f228 := Tryz.func135.trans (congrArg some (by kernel_rfl))
 f231 := Tryz.func108.trans (congrArg some (by kernel_rfl))
 f232 := Tryz.func132.trans (congrArg some (by kernel_rfl))
 f233 := Tryz.func110.trans (congrArg some (by kernel_rfl))
 f234 := Tryz.func133.trans (congrArg some (by kernel_rfl))
 f235 := Tryz.func111.trans (congrArg some (by kernel_rfl))
 f236 := Tryz.func134.trans (congrArg some (by kernel_rfl))
 f260 := Tryz.func137.trans (congrArg some (by kernel_rfl))
 f266 := Tryz.func81.trans (congrArg some (by kernel_rfl))
 f271 := Tryz.func149.trans (congrArg some (by kernel_rfl))
 t0 := Tryz.underlying0
 a0 := Tryz.isAgg0
 z0 := Tryz.sizeOf0
 v0 := Tryz.zeroValue0
 t3 := Tryz.underlying3
 a3 := Tryz.isAgg3
 z3 := Tryz.sizeOf3
 v3 := Tryz.zeroValue3
 t4 := Tryz.underlying4
 a4 := Tryz.isAgg4
 z4 := Tryz.sizeOf4
 v4 := Tryz.zeroValue4
 t5 := Tryz.underlying5
 a5 := Tryz.isAgg5
 z5 := Tryz.sizeOf5
 v5 := Tryz.zeroValue5
 t9 := Tryz.underlying9
 a9 := Tryz.isAgg9
 z9 := Tryz.sizeOf9
 v9 := Tryz.zeroValue9
 t21 := Tryz.underlying21
 a21 := Tryz.isAgg21
 z21 := Tryz.sizeOf21
 v21 := Tryz.zeroValue21
 t46 := Tryz.underlying122
 a46 := Tryz.isAgg122
 z46 := Tryz.sizeOf122
 v46 := Tryz.zeroValue122
 t105 := Tryz.underlying140
 a105 := Tryz.isAgg140
 z105 := Tryz.sizeOf140
 v105 := Tryz.zeroValue140
 t116 := Tryz.underlying135
 a116 := Tryz.isAgg135
 z116 := Tryz.sizeOf135
 t117 := Tryz.underlying136
 a117 := Tryz.isAgg136
 z117 := Tryz.sizeOf136
 v117 := Tryz.zeroValue136
 t119 := Tryz.underlying164
 a119 := Tryz.isAgg164
 z119 := Tryz.sizeOf164
 t124 := Tryz.underlying139
 a124 := Tryz.isAgg139
 z124 := Tryz.sizeOf139
 v124 := Tryz.zeroValue139
 t138 := Tryz.underlying166
 a138 := Tryz.isAgg166
 z138 := Tryz.sizeOf166
 v138 := Tryz.zeroValue166
 t139 := Tryz.underlying167
 a139 := Tryz.isAgg167
 z139 := Tryz.sizeOf167
 v139 := Tryz.zeroValue167
 g3 := by kernel_rfl
 g4 := by kernel_rfl }
def laysC174_ren : Go.Shelf.Ren := ⟨fun | 174 => 36 | 247 => 61 | 245 => 62 | 287 => 86 | 279 => 87 | 280 => 88 | 281 => 89 | 282 => 90 | 321 => 119 | 322 => 120 | 316 => 121 | 171 => 123 | 205 => 122 | 243 => 139 | 246 => 151 | 283 => 156 | 284 => 157 | 285 => 158 | 286 => 159 | 129 => 161 | 317 => 160 | 318 => 162 | 319 => 163 | 320 => 164 | 337 => 165 | 338 => 166 | n => n, fun | 9 => 9 | 3 => 3 | 2 => 2 | 75 => 74 | 85 => 75 | 4 => 4 | 167 => 119 | 5 => 5 | 53 => 104 | 175 => 120 | 46 => 122 | 168 => 123 | 37 => 83 | 0 => 0 | 210 => 146 | 21 => 21 | 127 => 109 | 145 => 158 | 143 => 156 | 171 => 170 | 173 => 173 | 212 => 176 | 51 => 101 | 20 => 20 | 213 => 177 | 232 => 181 | 233 => 182 | 80 => 89 | n => n, fun | 15 => 1 | 16 => 2 | 17 => 5 | 18 => 6 | 19 => 7 | n => n⟩
theorem laysC174 : Go.Proofs.LaysC.n174 Tryz.prog laysC174_ren := {
 mixed := by kernel_rfl
 f129 := Tryz.func161.trans (congrArg some (by kernel_rfl))
 f171 := Tryz.func123.trans (congrArg some (by kernel_rfl))
 f174 := Tryz.func36.trans (congrArg some (by kernel_rfl))
 f205 := Tryz.func122.trans (congrArg some (by kernel_rfl))
 f243 := Tryz.func139.trans (congrArg some (by kernel_rfl))
 f245 := Tryz.func62.trans (congrArg some (by kernel_rfl))
 f246 := Tryz.func151.trans (congrArg some (by kernel_rfl))
 f247 := Tryz.func61.trans (congrArg some (by kernel_rfl))
 f279 := Tryz.func87.trans (congrArg some (by kernel_rfl))
 f280 := Tryz.func88.trans (congrArg some (by kernel_rfl))
 f281 := Tryz.func89.trans (congrArg some (by kernel_rfl))
 f282 := Tryz.func90.trans (congrArg some (by kernel_rfl))
 f283 := Tryz.func156.trans (congrArg some (by kernel_rfl))
 f284 := Tryz.func157.trans (congrArg some (by kernel_rfl))
 f285 := Tryz.func158.trans (congrArg some (by kernel_rfl))
 f286 := Tryz.func159.trans (congrArg some (by kernel_rfl))
 f287 := Tryz.func86.trans (congrArg some (by kernel_rfl))
 f316 := Tryz.func121.trans (congrArg some (by kernel_rfl))
 f317 := Tryz.func160.trans (congrArg some (by kernel_rfl))
 f318 := Tryz.func162.trans (congrArg some (by kernel_rfl))
 f319 := Tryz.func163.trans (congrArg some (by kernel_rfl))
 f320 := Tryz.func164.trans (congrArg some (by kernel_rfl))
 f321 := Tryz.func119.trans (congrArg some (by kernel_rfl))
 f322 := Tryz.func120.trans (congrArg some (by kernel_rfl))
 f337 := Tryz.func165.trans (congrArg some (by kernel_rfl))
 f338 := Tryz.func166.trans (congrArg some (by kernel_rfl))
 t0 := Tryz.underlying0
 a0 := Tryz.isAgg0
 z0 := Tryz.sizeOf0
 v0 := Tryz.zeroValue0
 t2 := Tryz.underlying2
 a2 := Tryz.isAgg2
 z2 := Tryz.sizeOf2
 v2 := Tryz.zeroValue2
 t3 := Tryz.underlying3
 a3 := Tryz.isAgg3
 z3 := Tryz.sizeOf3
 v3 := Tryz.zeroValue3
 t4 := Tryz.underlying4
 a4 := Tryz.isAgg4
 z4 := Tryz.sizeOf4
 v4 := Tryz.zeroValue4
 t5 := Tryz.underlying5
 a5 := Tryz.isAgg5
 z5 := Tryz.sizeOf5
 v5 := Tryz.zeroValue5
 t9 := Tryz.underlying9
 a9 := Tryz.isAgg9
 z9 := Tryz.sizeOf9
 v9 := Tryz.zeroValue9
 t20 := Tryz.underlying20
 a20 := Tryz.isAgg20
 z20 := Tryz.sizeOf20
 v20 := Tryz.zeroValue20
 t21 := Tryz.underlying21
 a21 := Tryz.isAgg21
 z21 := Tryz.sizeOf21
 v21 := Tryz.zeroValue21
 t37 := Tryz.underlying83
 a37 := Tryz.isAgg83
 z37 := Tryz.sizeOf83
 v37 := Tryz.zeroValue83
 t46 := Tryz.underlying122
 a46 := Tryz.isAgg122
 z46 := Tryz.sizeOf122
 v46 := Tryz.zeroValue122
 t51 := Tryz.underlying101
 a51 := Tryz.isAgg101
 z51 := Tryz.sizeOf101
 v51 := Tryz.zeroValue101
 t53 := Tryz.underlying104
 a53 := Tryz.isAgg104
 z53 := Tryz.sizeOf104
 v53 := Tryz.zeroValue104
 t75 := Tryz.underlying74
 a75 := Tryz.isAgg74
 z75 := Tryz.sizeOf74
 v75 := Tryz.zeroValue74
 t85 := Tryz.underlying75
 a85 := Tryz.isAgg75
 z85 := Tryz.sizeOf75
 v85 := Tryz.zeroValue75
 t127 := Tryz.underlying109
 a127 := Tryz.isAgg109
 z127 := Tryz.sizeOf109
 v127 := Tryz.zeroValue109
 t143 := Tryz.underlying156
 a143 := Tryz.isAgg156
 z143 := Tryz.sizeOf156
 v143 := Tryz.zeroValue156
 t145 := Tryz.underlying158
 a145 := Tryz.isAgg158
 z145 := Tryz.sizeOf158
 v145 := Tryz.zeroValue158
 t167 := Tryz.underlying119
 a167 := Tryz.isAgg119
 z167 := Tryz.sizeOf119
 v167 := Tryz.zeroValue119
 t168 := Tryz.underlying123
 a168 := Tryz.isAgg123
 z168 := Tryz.sizeOf123
 v168 := Tryz.zeroValue123
 t171 := Tryz.underlying170
 a171 := Tryz.isAgg170
 z171 := Tryz.sizeOf170
 v171 := Tryz.zeroValue170
 t173 := Tryz.underlying173
 a173 := Tryz.isAgg173
 z173 := Tryz.sizeOf173
 v173 := Tryz.zeroValue173
 t175 := Tryz.underlying120
 a175 := Tryz.isAgg120
 z175 := Tryz.sizeOf120
 v175 := Tryz.zeroValue120
 t210 := Tryz.underlying146
 a210 := Tryz.isAgg146
 z210 := Tryz.sizeOf146
 v210 := Tryz.zeroValue146
 t212 := Tryz.underlying176
 a212 := Tryz.isAgg176
 z212 := Tryz.sizeOf176
 v212 := Tryz.zeroValue176
 t213 := Tryz.underlying177
 a213 := Tryz.isAgg177
 z213 := Tryz.sizeOf177
 t232 := Tryz.underlying181
 a232 := Tryz.isAgg181
 z232 := Tryz.sizeOf181
 v232 := Tryz.zeroValue181
 t233 := Tryz.underlying182
 a233 := Tryz.isAgg182
 z233 := Tryz.sizeOf182
 v233 := Tryz.zeroValue182
 g15 := by kernel_rfl
 g16 := by kernel_rfl
 g17 := by kernel_rfl
 g18 := by kernel_rfl
 g19 := by kernel_rfl
 t80 := Tryz.underlying89
 a80 := Tryz.isAgg89
 z80 := Tryz.sizeOf89
 v80 := Tryz.zeroValue89
 i0 := by kernel_rfl
 i2 := by kernel_rfl
 i3 := by kernel_rfl
 i4 := by kernel_rfl
 i5 := by kernel_rfl
 i9 := by kernel_rfl
 i20 := by kernel_rfl
 i21 := by kernel_rfl
 i37 := by kernel_rfl
 i46 := by kernel_rfl
 i51 := by kernel_rfl
 i53 := by kernel_rfl
 i75 := by kernel_rfl
 i80 := by kernel_rfl
 i85 := by kernel_rfl
 i127 := by kernel_rfl
 i143 := by kernel_rfl
 i145 := by kernel_rfl
 i167 := by kernel_rfl
 i168 := by kernel_rfl
 i171 := by kernel_rfl
 i173 := by kernel_rfl
 i175 := by kernel_rfl
 i210 := by kernel_rfl
 i212 := by kernel_rfl
 i232 := by kernel_rfl
 i233 := by kernel_rfl
 m15 := by kernel_rfl
 m16 := by kernel_rfl
 m17 := by kernel_rfl
 m18 := by kernel_rfl
 m19 := by kernel_rfl
 c0 := by kernel_rfl
 c2 := by kernel_rfl
 c3 := by kernel_rfl
 c4 := by kernel_rfl
 c5 := by kernel_rfl
 c9 := by kernel_rfl
 c20 := by kernel_rfl
 c21 := by kernel_rfl
 c37 := by kernel_rfl
 c46 := by kernel_rfl
 c51 := by kernel_rfl
 c53 := by kernel_rfl
 c75 := by kernel_rfl
 c80 := by kernel_rfl
 c85 := by kernel_rfl
 c127 := by kernel_rfl
 c143 := by kernel_rfl
 c145 := by kernel_rfl
 c167 := by kernel_rfl
 c168 := by kernel_rfl
 c171 := by kernel_rfl
 c173 := by kernel_rfl
 c175 := by kernel_rfl
 c210 := by kernel_rfl
 c212 := by kernel_rfl
 c213 := by kernel_rfl
 c232 := by kernel_rfl
 c233 := by kernel_rfl }
def lays217_ren : Go.Shelf.Ren := ⟨fun | 217 => 52 | 266 => 81 | n => n, fun | 9 => 9 | 5 => 5 | 3 => 3 | n => n, fun | n => n⟩
theorem lays217 : Go.Proofs.Lays.n217 Tryz.prog lays217_ren := {
 mixed := by kernel_rfl
 f217 := Tryz.func52.trans (congrArg some (by kernel_rfl))
 f266 := Tryz.func81.trans (congrArg some (by kernel_rfl))
 t3 := Tryz.underlying3
 a3 := Tryz.isAgg3
 z3 := Tryz.sizeOf3
 v3 := Tryz.zeroValue3
 t5 := Tryz.underlying5
 a5 := Tryz.isAgg5
 z5 := Tryz.sizeOf5
 v5 := Tryz.zeroValue5
 t9 := Tryz.underlying9
 a9 := Tryz.isAgg9
 z9 := Tryz.sizeOf9
 v9 := Tryz.zeroValue9 }
def lays144_ren : Go.Shelf.Ren := ⟨fun | 144 => 35 | 143 => 60 | 219 => 85 | 217 => 52 | 225 => 116 | 224 => 117 | 267 => 118 | 266 => 81 | 314 => 138 | n => n, fun | 9 => 9 | 4 => 4 | 3 => 3 | 5 => 5 | 46 => 122 | 146 => 154 | 51 => 101 | n => n, fun | 1 => 0 | n => n⟩
theorem lays144 : Go.Proofs.Lays.n144 Tryz.prog lays144_ren := {
 mixed := by kernel_rfl
 f143 := Tryz.func60.trans (congrArg some (by kernel_rfl))
 f144 := Tryz.func35.trans (congrArg some (by kernel_rfl))
 f217 := Tryz.func52.trans (congrArg some (by kernel_rfl))
 f219 := Tryz.func85.trans (congrArg some (by kernel_rfl))
 f224 := Tryz.func117.trans (congrArg some (by kernel_rfl))
 f225 := Tryz.func116.trans (congrArg some (by kernel_rfl))
 f266 := Tryz.func81.trans (congrArg some (by kernel_rfl))
 f267 := Tryz.func118.trans (congrArg some (by kernel_rfl))
 f314 := Tryz.func138.trans (congrArg some (by kernel_rfl))
 t3 := Tryz.underlying3
 a3 := Tryz.isAgg3
 z3 := Tryz.sizeOf3
 v3 := Tryz.zeroValue3
 t4 := Tryz.underlying4
 a4 := Tryz.isAgg4
 z4 := Tryz.sizeOf4
 v4 := Tryz.zeroValue4
 t5 := Tryz.underlying5
 a5 := Tryz.isAgg5
 z5 := Tryz.sizeOf5
 v5 := Tryz.zeroValue5
 t9 := Tryz.underlying9
 a9 := Tryz.isAgg9
 z9 := Tryz.sizeOf9
 v9 := Tryz.zeroValue9
 t46 := Tryz.underlying122
 a46 := Tryz.isAgg122
 z46 := Tryz.sizeOf122
 v46 := Tryz.zeroValue122
 t51 := Tryz.underlying101
 a51 := Tryz.isAgg101
 z51 := Tryz.sizeOf101
 v51 := Tryz.zeroValue101
 t146 := Tryz.underlying154
 a146 := Tryz.isAgg154
 z146 := Tryz.sizeOf154
 v146 := Tryz.zeroValue154
 g1 := by kernel_rfl }
end Go.Proofs.YtpdjgamdnjfmkaaGreatDoor
