import Derived.Shelf.Strings.Builder1
import Derived.Shelf.Strings.Trim
import Derived.Shelf.Small.Utf8
import Derived.Shelf.Small.Strs
import Derived.Shelf.Strings.Search1
import Derived.Shelf.Strings.Search2
import Derived.Shelf.Strings.Cut
import Derived.Shelf.LaysM
import Derived.Shelf.Strings.Shaped
import Derived.Shelf.Strings.Runes
import Derived.Shelf.Strings.AsciiSet
import Derived.Shelf.Unicode.DecodeSlow
import Derived.Test.YtpdjgamdnjfmkaaDoorProg
namespace Go.Proofs.YtpdjgamdnjfmkaaDoor
open Go.Shelf
def lays161_ren : Go.Shelf.Ren := ⟨fun | 161 => 52 | 231 => 68 | 227 => 69 | 233 => 70 | 235 => 71 | 228 => 81 | 197 => 82 | 151 => 83 | 260 => 94 | 152 => 95 | 137 => 24 | 119 => 100 | 224 => 91 | 225 => 90 | 217 => 39 | 266 => 55 | n => n, fun | 9 => 9 | 4 => 4 | 3 => 3 | 5 => 5 | 117 => 97 | 116 => 96 | 0 => 0 | 124 => 100 | 105 => 108 | 21 => 21 | 119 => 119 | 46 => 115 | 139 => 122 | 138 => 121 | n => n, fun | 3 => 1 | 4 => 2 | n => n⟩
theorem lays161 : Go.Proofs.Lays.n161 Tryd.prog lays161_ren := {
 mixed := by kernel_rfl
 f119 := Tryd.func100.trans (congrArg some (by kernel_rfl))
 f137 := Tryd.func24.trans (congrArg some (by kernel_rfl))
 f151 := Tryd.func83.trans (congrArg some (by kernel_rfl))
 f152 := Tryd.func95.trans (congrArg some (by kernel_rfl))
 f161 := Tryd.func52.trans (congrArg some (by kernel_rfl))
 f197 := Tryd.func82.trans (congrArg some (by kernel_rfl))
 f217 := Tryd.func39.trans (congrArg some (by kernel_rfl))
 f224 := Tryd.func91.trans (congrArg some (by kernel_rfl))
 f225 := Tryd.func90.trans (congrArg some (by kernel_rfl))
 f227 := Tryd.func69.trans (congrArg some (by kernel_rfl))
 f228 := Tryd.func81.trans (congrArg some (by kernel_rfl))
 f231 := Tryd.func68.trans (congrArg some (by kernel_rfl))
 f233 := Tryd.func70.trans (congrArg some (by kernel_rfl))
 f235 := Tryd.func71.trans (congrArg some (by kernel_rfl))
 f260 := Tryd.func94.trans (congrArg some (by kernel_rfl))
 f266 := Tryd.func55.trans (congrArg some (by kernel_rfl))
 t0 := Tryd.underlying0
 a0 := Tryd.isAgg0
 z0 := Tryd.sizeOf0
 v0 := Tryd.zeroValue0
 t3 := Tryd.underlying3
 a3 := Tryd.isAgg3
 z3 := Tryd.sizeOf3
 v3 := Tryd.zeroValue3
 t4 := Tryd.underlying4
 a4 := Tryd.isAgg4
 z4 := Tryd.sizeOf4
 v4 := Tryd.zeroValue4
 t5 := Tryd.underlying5
 a5 := Tryd.isAgg5
 z5 := Tryd.sizeOf5
 v5 := Tryd.zeroValue5
 t9 := Tryd.underlying9
 a9 := Tryd.isAgg9
 z9 := Tryd.sizeOf9
 v9 := Tryd.zeroValue9
 t21 := Tryd.underlying21
 a21 := Tryd.isAgg21
 z21 := Tryd.sizeOf21
 v21 := Tryd.zeroValue21
 t46 := Tryd.underlying115
 a46 := Tryd.isAgg115
 z46 := Tryd.sizeOf115
 v46 := Tryd.zeroValue115
 t105 := Tryd.underlying108
 a105 := Tryd.isAgg108
 z105 := Tryd.sizeOf108
 v105 := Tryd.zeroValue108
 t116 := Tryd.underlying96
 a116 := Tryd.isAgg96
 z116 := Tryd.sizeOf96
 t117 := Tryd.underlying97
 a117 := Tryd.isAgg97
 z117 := Tryd.sizeOf97
 v117 := Tryd.zeroValue97
 t119 := Tryd.underlying119
 a119 := Tryd.isAgg119
 z119 := Tryd.sizeOf119
 t124 := Tryd.underlying100
 a124 := Tryd.isAgg100
 z124 := Tryd.sizeOf100
 v124 := Tryd.zeroValue100
 t138 := Tryd.underlying121
 a138 := Tryd.isAgg121
 z138 := Tryd.sizeOf121
 v138 := Tryd.zeroValue121
 t139 := Tryd.underlying122
 a139 := Tryd.isAgg122
 z139 := Tryd.sizeOf122
 v139 := Tryd.zeroValue122
 g3 := by kernel_rfl
 g4 := by kernel_rfl }
def lays160_ren : Go.Shelf.Ren := ⟨fun | 160 => 67 | 232 => 78 | 231 => 68 | 227 => 69 | 234 => 79 | 233 => 70 | 236 => 80 | 235 => 71 | 228 => 81 | 271 => 93 | 151 => 83 | 197 => 82 | 120 => 99 | 152 => 95 | 260 => 94 | 137 => 24 | 119 => 100 | 224 => 91 | 225 => 90 | 217 => 39 | 266 => 55 | n => n, fun | 9 => 9 | 4 => 4 | 3 => 3 | 5 => 5 | 117 => 97 | 116 => 96 | 0 => 0 | 124 => 100 | 21 => 21 | 105 => 108 | 46 => 115 | 119 => 119 | 139 => 122 | 138 => 121 | n => n, fun | 3 => 1 | 4 => 2 | n => n⟩
theorem lays160 : Go.Proofs.Lays.n160 Tryd.prog lays160_ren := {
 mixed := by kernel_rfl
 f119 := Tryd.func100.trans (congrArg some (by kernel_rfl))
 f120 := Tryd.func99.trans (congrArg some (by kernel_rfl))
 f137 := Tryd.func24.trans (congrArg some (by kernel_rfl))
 f151 := Tryd.func83.trans (congrArg some (by kernel_rfl))
 f152 := Tryd.func95.trans (congrArg some (by kernel_rfl))
 f160 := Tryd.func67.trans (congrArg some (by kernel_rfl))
 f197 := Tryd.func82.trans (congrArg some (by kernel_rfl))
 f217 := Tryd.func39.trans (congrArg some (by kernel_rfl))
 f224 := Tryd.func91.trans (congrArg some (by kernel_rfl))
 f225 := Tryd.func90.trans (congrArg some (by kernel_rfl))
 f227 := Tryd.func69.trans (congrArg some (by kernel_rfl))
 f228 := Tryd.func81.trans (congrArg some (by kernel_rfl))
 f231 := Tryd.func68.trans (congrArg some (by kernel_rfl))
 f232 := Tryd.func78.trans (congrArg some (by kernel_rfl))
 f233 := Tryd.func70.trans (congrArg some (by kernel_rfl))
 f234 := Tryd.func79.trans (congrArg some (by kernel_rfl))
 f235 := Tryd.func71.trans (congrArg some (by kernel_rfl))
 f236 := Tryd.func80.trans (congrArg some (by kernel_rfl))
 f260 := Tryd.func94.trans (congrArg some (by kernel_rfl))
 f266 := Tryd.func55.trans (congrArg some (by kernel_rfl))
 f271 := Tryd.func93.trans (congrArg some (by kernel_rfl))
 t0 := Tryd.underlying0
 a0 := Tryd.isAgg0
 z0 := Tryd.sizeOf0
 v0 := Tryd.zeroValue0
 t3 := Tryd.underlying3
 a3 := Tryd.isAgg3
 z3 := Tryd.sizeOf3
 v3 := Tryd.zeroValue3
 t4 := Tryd.underlying4
 a4 := Tryd.isAgg4
 z4 := Tryd.sizeOf4
 v4 := Tryd.zeroValue4
 t5 := Tryd.underlying5
 a5 := Tryd.isAgg5
 z5 := Tryd.sizeOf5
 v5 := Tryd.zeroValue5
 t9 := Tryd.underlying9
 a9 := Tryd.isAgg9
 z9 := Tryd.sizeOf9
 v9 := Tryd.zeroValue9
 t21 := Tryd.underlying21
 a21 := Tryd.isAgg21
 z21 := Tryd.sizeOf21
 v21 := Tryd.zeroValue21
 t46 := Tryd.underlying115
 a46 := Tryd.isAgg115
 z46 := Tryd.sizeOf115
 v46 := Tryd.zeroValue115
 t105 := Tryd.underlying108
 a105 := Tryd.isAgg108
 z105 := Tryd.sizeOf108
 v105 := Tryd.zeroValue108
 t116 := Tryd.underlying96
 a116 := Tryd.isAgg96
 z116 := Tryd.sizeOf96
 t117 := Tryd.underlying97
 a117 := Tryd.isAgg97
 z117 := Tryd.sizeOf97
 v117 := Tryd.zeroValue97
 t119 := Tryd.underlying119
 a119 := Tryd.isAgg119
 z119 := Tryd.sizeOf119
 t124 := Tryd.underlying100
 a124 := Tryd.isAgg100
 z124 := Tryd.sizeOf100
 v124 := Tryd.zeroValue100
 t138 := Tryd.underlying121
 a138 := Tryd.isAgg121
 z138 := Tryd.sizeOf121
 v138 := Tryd.zeroValue121
 t139 := Tryd.underlying122
 a139 := Tryd.isAgg122
 z139 := Tryd.sizeOf122
 v139 := Tryd.zeroValue122
 g3 := by kernel_rfl
 g4 := by kernel_rfl }
def lays217_ren : Go.Shelf.Ren := ⟨fun | 217 => 39 | 266 => 55 | n => n, fun | 9 => 9 | 5 => 5 | 3 => 3 | n => n, fun | n => n⟩
theorem lays217 : Go.Proofs.Lays.n217 Tryd.prog lays217_ren := {
 mixed := by kernel_rfl
 f217 := Tryd.func39.trans (congrArg some (by kernel_rfl))
 f266 := Tryd.func55.trans (congrArg some (by kernel_rfl))
 t3 := Tryd.underlying3
 a3 := Tryd.isAgg3
 z3 := Tryd.sizeOf3
 v3 := Tryd.zeroValue3
 t5 := Tryd.underlying5
 a5 := Tryd.isAgg5
 z5 := Tryd.sizeOf5
 v5 := Tryd.zeroValue5
 t9 := Tryd.underlying9
 a9 := Tryd.isAgg9
 z9 := Tryd.sizeOf9
 v9 := Tryd.zeroValue9 }
end Go.Proofs.YtpdjgamdnjfmkaaDoor
