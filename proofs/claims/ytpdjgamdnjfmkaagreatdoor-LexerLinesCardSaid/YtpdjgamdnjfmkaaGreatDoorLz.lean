import Derived.Shelf.Strings.Builder1
import Derived.Shelf.Strings.Trim
import Derived.Shelf.Small.Utf8
import Derived.Shelf.Small.Strs
import Derived.Shelf.Strconv.Itoa0
import Derived.Shelf.Strconv.Itoa1
import Derived.Shelf.LaysM
import Derived.Shelf.Strconv.Itoa2
import Derived.Shelf.Strconv.Itoa3
import Derived.Shelf.Strconv.ParseIntEmpty
import Derived.Shelf.Strconv.Clone
import Derived.Shelf.Strconv.SyntaxError
import Derived.Shelf.LaysC
import Derived.Shelf.Strconv.ToError
import Derived.Shelf.Strconv.Lower
import Derived.Shelf.Strconv.ParseUint10
import Derived.Shelf.Strconv.ParseUint10Empty
import Derived.Shelf.Strconv.ParseUint10Any
import Derived.Shelf.Strconv.ParseInt10
import Derived.Shelf.Strconv.RangeError
import Derived.Shelf.Strconv.ToErrorRange
import Derived.Shelf.Strconv.ParseUintEmpty
import Derived.Shelf.Strconv.ParseUint10b64
import Derived.Shelf.Strconv.ParseUint10b32
import Derived.Shelf.Strconv.ParseUint10b16
import Derived.Shelf.Strconv.ParseUint10b8
import Derived.Shelf.Strconv.ParseUint10At
import Derived.Shelf.Strconv.ParseInt10At64
import Derived.Shelf.Strconv.ParseInt10At32
import Derived.Shelf.Strconv.ParseInt10At16
import Derived.Shelf.Strconv.ParseInt10At8
import Derived.Shelf.Strconv.ParseInt10All
import Derived.Shelf.Strconv.ParseIntPublic10
import Derived.Shelf.Strings.Search1
import Derived.Shelf.Strings.Search2
import Derived.Shelf.Strings.Search3
import Derived.Shelf.Strings.Cut
import Derived.Shelf.Strings.Count
import Derived.Shelf.Strings.Shaped
import Derived.Shelf.Strings.Split
import Derived.Shelf.Strings.SplitShaped
import Derived.Shelf.Unicode.Decode
import Derived.Shelf.Strings.Runes
import Derived.Shelf.Strings.RuneCount
import Derived.Shelf.Strings.AsciiSet
import Derived.Shelf.Strings.Explode
import Derived.Shelf.Unicode.DecodeSlow
import Derived.Test.YtpdjgamdnjfmkaaGreatDoorProg
namespace Go.Proofs.YtpdjgamdnjfmkaaGreatDoor
open Go.Shelf
def lays161_ren : Go.Shelf.Ren := ⟨fun | 161 => 78 | 231 => 108 | 227 => 109 | 233 => 110 | 235 => 111 | 228 => 135 | 197 => 114 | 151 => 136 | 260 => 137 | 152 => 150 | 137 => 28 | 119 => 155 | 224 => 117 | 225 => 116 | 217 => 52 | 266 => 81 | n => n, fun | 9 => 9 | 4 => 4 | 3 => 3 | 5 => 5 | 117 => 136 | 116 => 135 | 0 => 0 | 124 => 139 | 105 => 140 | 21 => 21 | 119 => 164 | 46 => 122 | 139 => 167 | 138 => 166 | n => n, fun | 3 => 3 | 4 => 4 | n => n⟩
theorem lays161 : Go.Proofs.Lays.n161 Tryz.prog lays161_ren := {
 mixed := by kernel_rfl
 f119 := Tryz.func155.trans (congrArg some (by kernel_rfl))
 f137 := Tryz.func28.trans (congrArg some (by kernel_rfl))
 f151 := Tryz.func136.trans (congrArg some (by kernel_rfl))
 f152 := Tryz.func150.trans (congrArg some (by kernel_rfl))
 f161 := Tryz.func78.trans (congrArg some (by kernel_rfl))
 f197 := Tryz.func114.trans (congrArg some (by kernel_rfl))
 f217 := Tryz.func52.trans (congrArg some (by kernel_rfl))
 f224 := Tryz.func117.trans (congrArg some (by kernel_rfl))
 f225 := Tryz.func116.trans (congrArg some (by kernel_rfl))
 f227 := Tryz.func109.trans (congrArg some (by kernel_rfl))
 f228 := Tryz.func135.trans (congrArg some (by kernel_rfl))
 f231 := Tryz.func108.trans (congrArg some (by kernel_rfl))
 f233 := Tryz.func110.trans (congrArg some (by kernel_rfl))
 f235 := Tryz.func111.trans (congrArg some (by kernel_rfl))
 f260 := Tryz.func137.trans (congrArg some (by kernel_rfl))
 f266 := Tryz.func81.trans (congrArg some (by kernel_rfl))
 t0 := Tryz.underlying0
 a0 := Tryz.isAgg0
 z0 := Tryz.sizeOf0
 v0 := Tryz.zeroValue0
 t3 := Tryz.underlying3
 a3 := Tryz.isAgg3
 z3 := Tryz.sizeOf3
 v3 := Tryz.zeroValue3
 t4 := Tryz.underlying4
 a4 := Tryz.isAgg4
 z4 := Tryz.sizeOf4
 v4 := Tryz.zeroValue4
 t5 := Tryz.underlying5
 a5 := Tryz.isAgg5
 z5 := Tryz.sizeOf5
 v5 := Tryz.zeroValue5
 t9 := Tryz.underlying9
 a9 := Tryz.isAgg9
 z9 := Tryz.sizeOf9
 v9 := Tryz.zeroValue9
 t21 := Tryz.underlying21
 a21 := Tryz.isAgg21
 z21 := Tryz.sizeOf21
 v21 := Tryz.zeroValue21
 t46 := Tryz.underlying122
 a46 := Tryz.isAgg122
 z46 := Tryz.sizeOf122
 v46 := Tryz.zeroValue122
 t105 := Tryz.underlying140
 a105 := Tryz.isAgg140
 z105 := Tryz.sizeOf140
 v105 := Tryz.zeroValue140
 t116 := Tryz.underlying135
 a116 := Tryz.isAgg135
 z116 := Tryz.sizeOf135
 t117 := Tryz.underlying136
 a117 := Tryz.isAgg136
 z117 := Tryz.sizeOf136
 v117 := Tryz.zeroValue136
 t119 := Tryz.underlying164
 a119 := Tryz.isAgg164
 z119 := Tryz.sizeOf164
 t124 := Tryz.underlying139
 a124 := Tryz.isAgg139
 z124 := Tryz.sizeOf139
 v124 := Tryz.zeroValue139
 t138 := Tryz.underlying166
 a138 := Tryz.isAgg166
 z138 := Tryz.sizeOf166
 v138 := Tryz.zeroValue166
 t139 := Tryz.underlying167
 a139 := Tryz.isAgg167
 z139 := Tryz.sizeOf167
 v139 := Tryz.zeroValue167
 g3 := by kernel_rfl
 g4 := by kernel_rfl }
def lays160_ren : Go.Shelf.Ren := ⟨fun | 160 => 107 | 232 => 132 | 231 => 108 | 227 => 109 | 234 => 133 | 233 => 110 | 236 => 134 | 235 => 111 | 228 => 135 | 271 => 149 | 151 => 136 | 197 => 114 | 120 => 154 | 152 => 150 | 260 => 137 | 137 => 28 | 119 => 155 | 224 => 117 | 225 => 116 | 217 => 52 | 266 => 81 | n => n, fun | 9 => 9 | 4 => 4 | 3 => 3 | 5 => 5 | 117 => 136 | 116 => 135 | 0 => 0 | 124 => 139 | 21 => 21 | 105 => 140 | 46 => 122 | 119 => 164 | 139 => 167 | 138 => 166 | n => n, fun | 3 => 3 | 4 => 4 | n => n⟩
theorem lays160 : Go.Proofs.Lays.n160 Tryz.prog lays160_ren := {
 mixed := by kernel_rfl
 f119 := Tryz.func155.trans (congrArg some (by kernel_rfl))
 f120 := Tryz.func154.trans (congrArg some (by kernel_rfl))
 f137 := Tryz.func28.trans (congrArg some (by kernel_rfl))
 f151 := Tryz.func136.trans (congrArg some (by kernel_rfl))
 f152 := Tryz.func150.trans (congrArg some (by kernel_rfl))
 f160 := Tryz.func107.trans (congrArg some (by kernel_rfl))
 f197 := Tryz.func114.trans (congrArg some (by kernel_rfl))
 f217 := Tryz.func52.trans (congrArg some (by kernel_rfl))
 f224 := Tryz.func117.trans (congrArg some (by kernel_rfl))
 f225 := Tryz.func116.trans (congrArg some (by kernel_rfl))
 f227 := Tryz.func109.trans (congrArg some (by kernel_rfl))
 f228 := Tryz.func135.trans (congrArg some (by kernel_rfl))
 f231 := Tryz.func108.trans (congrArg some (by kernel_rfl))
 f232 := Tryz.func132.trans (congrArg some (by kernel_rfl))
 f233 := Tryz.func110.trans (congrArg some (by kernel_rfl))
 f234 := Tryz.func133.trans (congrArg some (by kernel_rfl))
 f235 := Tryz.func111.trans (congrArg some (by kernel_rfl))
 f236 := Tryz.func134.trans (congrArg some (by kernel_rfl))
 f260 := Tryz.func137.trans (congrArg some (by kernel_rfl))
 f266 := Tryz.func81.trans (congrArg some (by kernel_rfl))
 f271 := Tryz.func149.trans (congrArg some (by kernel_rfl))
 t0 := Tryz.underlying0
 a0 := Tryz.isAgg0
 z0 := Tryz.sizeOf0
 v0 := Tryz.zeroValue0
 t3 := Tryz.underlying3
 a3 := Tryz.isAgg3
 z3 := Tryz.sizeOf3
 v3 := Tryz.zeroValue3
 t4 := Tryz.underlying4
 a4 := Tryz.isAgg4
 z4 := Tryz.sizeOf4
 v4 := Tryz.zeroValue4
 t5 := Tryz.underlying5
 a5 := Tryz.isAgg5
 z5 := Tryz.sizeOf5
 v5 := Tryz.zeroValue5
 t9 := Tryz.underlying9
 a9 := Tryz.isAgg9
 z9 := Tryz.sizeOf9
 v9 := Tryz.zeroValue9
 t21 := Tryz.underlying21
 a21 := Tryz.isAgg21
 z21 := Tryz.sizeOf21
 v21 := Tryz.zeroValue21
 t46 := Tryz.underlying122
 a46 := Tryz.isAgg122
 z46 := Tryz.sizeOf122
 v46 := Tryz.zeroValue122
 t105 := Tryz.underlying140
 a105 := Tryz.isAgg140
 z105 := Tryz.sizeOf140
 v105 := Tryz.zeroValue140
 t116 := Tryz.underlying135
 a116 := Tryz.isAgg135
 z116 := Tryz.sizeOf135
 t117 := Tryz.underlying136
 a117 := Tryz.isAgg136
 z117 := Tryz.sizeOf136
 v117 := Tryz.zeroValue136
 t119 := Tryz.underlying164
 a119 := Tryz.isAgg164
 z119 := Tryz.sizeOf164
 t124 := Tryz.underlying139
 a124 := Tryz.isAgg139
 z124 := Tryz.sizeOf139
 v124 := Tryz.zeroValue139
 t138 := Tryz.underlying166
 a138 := Tryz.isAgg166
 z138 := Tryz.sizeOf166
 v138 := Tryz.zeroValue166
 t139 := Tryz.underlying167
 a139 := Tryz.isAgg167
 z139 := Tryz.sizeOf167
 v139 := Tryz.zeroValue167
 g3 := by kernel_rfl
 g4 := by kernel_rfl }
def lays217_ren : Go.Shelf.Ren := ⟨fun | 217 => 52 | 266 => 81 | n => n, fun | 9 => 9 | 5 => 5 | 3 => 3 | n => n, fun | n => n⟩
theorem lays217 : Go.Proofs.Lays.n217 Tryz.prog lays217_ren := {
 mixed := by kernel_rfl
 f217 := Tryz.func52.trans (congrArg some (by kernel_rfl))
 f266 := Tryz.func81.trans (congrArg some (by kernel_rfl))
 t3 := Tryz.underlying3
 a3 := Tryz.isAgg3
 z3 := Tryz.sizeOf3
 v3 := Tryz.zeroValue3
 t5 := Tryz.underlying5
 a5 := Tryz.isAgg5
 z5 := Tryz.sizeOf5
 v5 := Tryz.zeroValue5
 t9 := Tryz.underlying9
 a9 := Tryz.isAgg9
 z9 := Tryz.sizeOf9
 v9 := Tryz.zeroValue9 }
def lays146_ren : Go.Shelf.Ren := ⟨fun | 146 => 34 | 221 => 59 | 268 => 83 | 138 => 84 | 143 => 60 | 195 => 113 | 197 => 114 | 218 => 115 | 219 => 85 | 260 => 137 | 217 => 52 | 225 => 116 | 224 => 117 | 267 => 118 | 266 => 81 | 314 => 138 | n => n, fun | 9 => 9 | 31 => 70 | 3 => 3 | 4 => 4 | 0 => 0 | 105 => 140 | 21 => 21 | 5 => 5 | 46 => 122 | 119 => 164 | 139 => 167 | 138 => 166 | 146 => 154 | 51 => 101 | n => n, fun | 1 => 0 | 3 => 3 | 4 => 4 | n => n⟩
theorem lays146 : Go.Proofs.Lays.n146 Tryz.prog lays146_ren := {
 mixed := by kernel_rfl
 f138 := Tryz.func84.trans (congrArg some (by kernel_rfl))
 f143 := Tryz.func60.trans (congrArg some (by kernel_rfl))
 f146 := Tryz.func34.trans (congrArg some (by kernel_rfl))
 f195 := Tryz.func113.trans (congrArg some (by kernel_rfl))
 f197 := Tryz.func114.trans (congrArg some (by kernel_rfl))
 f217 := Tryz.func52.trans (congrArg some (by kernel_rfl))
 f218 := Tryz.func115.trans (congrArg some (by kernel_rfl))
 f219 := Tryz.func85.trans (congrArg some (by kernel_rfl))
 f221 := Tryz.func59.trans (congrArg some (by kernel_rfl))
 f224 := Tryz.func117.trans (congrArg some (by kernel_rfl))
 f225 := Tryz.func116.trans (congrArg some (by kernel_rfl))
 f260 := Tryz.func137.trans (congrArg some (by kernel_rfl))
 f266 := Tryz.func81.trans (congrArg some (by kernel_rfl))
 f267 := Tryz.func118.trans (congrArg some (by kernel_rfl))
 f268 := Tryz.func83.trans (congrArg some (by kernel_rfl))
 f314 := Tryz.func138.trans (congrArg some (by kernel_rfl))
 t0 := Tryz.underlying0
 a0 := Tryz.isAgg0
 z0 := Tryz.sizeOf0
 v0 := Tryz.zeroValue0
 t3 := Tryz.underlying3
 a3 := Tryz.isAgg3
 z3 := Tryz.sizeOf3
 v3 := Tryz.zeroValue3
 t4 := Tryz.underlying4
 a4 := Tryz.isAgg4
 z4 := Tryz.sizeOf4
 v4 := Tryz.zeroValue4
 t5 := Tryz.underlying5
 a5 := Tryz.isAgg5
 z5 := Tryz.sizeOf5
 v5 := Tryz.zeroValue5
 t9 := Tryz.underlying9
 a9 := Tryz.isAgg9
 z9 := Tryz.sizeOf9
 v9 := Tryz.zeroValue9
 t21 := Tryz.underlying21
 a21 := Tryz.isAgg21
 z21 := Tryz.sizeOf21
 v21 := Tryz.zeroValue21
 t31 := Tryz.underlying70
 a31 := Tryz.isAgg70
 z31 := Tryz.sizeOf70
 v31 := Tryz.zeroValue70
 t46 := Tryz.underlying122
 a46 := Tryz.isAgg122
 z46 := Tryz.sizeOf122
 v46 := Tryz.zeroValue122
 t51 := Tryz.underlying101
 a51 := Tryz.isAgg101
 z51 := Tryz.sizeOf101
 v51 := Tryz.zeroValue101
 t105 := Tryz.underlying140
 a105 := Tryz.isAgg140
 z105 := Tryz.sizeOf140
 v105 := Tryz.zeroValue140
 t119 := Tryz.underlying164
 a119 := Tryz.isAgg164
 z119 := Tryz.sizeOf164
 t138 := Tryz.underlying166
 a138 := Tryz.isAgg166
 z138 := Tryz.sizeOf166
 v138 := Tryz.zeroValue166
 t139 := Tryz.underlying167
 a139 := Tryz.isAgg167
 z139 := Tryz.sizeOf167
 v139 := Tryz.zeroValue167
 t146 := Tryz.underlying154
 a146 := Tryz.isAgg154
 z146 := Tryz.sizeOf154
 v146 := Tryz.zeroValue154
 g1 := by kernel_rfl
 g3 := by kernel_rfl
 g4 := by kernel_rfl }
end Go.Proofs.YtpdjgamdnjfmkaaGreatDoor
