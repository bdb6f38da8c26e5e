import Derived.Test.YtopjpenbieojmaaDoorSy2
import Derived.Laws.StructEq
import Derived.ChangeKeysEq
namespace Go.Proofs.YtopjpenbieojmaaDoor
open Go.RowKit
set_option linter.unusedSimpArgs false
@[simp] theorem und_2 : Tryd.prog.underlying 2 = some (.int .i64) := nr (by kernel_rfl)
@[simp] theorem sz_2 : sizeT Tryd.prog 2 = some 1 := nr (by kernel_rfl)
@[simp] theorem ag_2 : aggT Tryd.prog 2 = some false := nr (by kernel_rfl)
@[simp] theorem zero_2 : zeroV Tryd.prog 2 = some (.d (.int .i64 0)) := nr (by kernel_rfl)
@[simp] theorem und_3 : Tryd.prog.underlying 3 = some (.int .i64) := nr (by kernel_rfl)
@[simp] theorem sz_3 : sizeT Tryd.prog 3 = some 1 := nr (by kernel_rfl)
@[simp] theorem ag_3 : aggT Tryd.prog 3 = some false := nr (by kernel_rfl)
@[simp] theorem sz_4 : sizeT Tryd.prog 4 = some 1 := nr (by kernel_rfl)
@[simp] theorem ag_4 : aggT Tryd.prog 4 = some false := nr (by kernel_rfl)
@[simp] theorem zero_4 : zeroV Tryd.prog 4 = some (.d (.bool false)) := nr (by kernel_rfl)
@[simp] theorem und_5 : Tryd.prog.underlying 5 = some (.int .u8) := nr (by kernel_rfl)
@[simp] theorem sz_5 : sizeT Tryd.prog 5 = some 1 := nr (by kernel_rfl)
@[simp] theorem ag_5 : aggT Tryd.prog 5 = some false := nr (by kernel_rfl)
@[simp] theorem und_9 : Tryd.prog.underlying 9 = some (.string) := nr (by kernel_rfl)
@[simp] theorem sz_9 : sizeT Tryd.prog 9 = some 1 := nr (by kernel_rfl)
@[simp] theorem ag_9 : aggT Tryd.prog 9 = some false := nr (by kernel_rfl)
@[simp] theorem und_22 : Tryd.prog.underlying 22 = some (.slice 45) := nr (by kernel_rfl)
@[simp] theorem sz_24 : sizeT Tryd.prog 24 = some 3 := nr (by kernel_rfl)
@[simp] theorem ag_24 : aggT Tryd.prog 24 = some true := nr (by kernel_rfl)
@[simp] theorem zero_24 : zeroV Tryd.prog 24 = some (.agg [.d (.int .i64 0), .d (.int .i64 0), .d (.int .i64 0)]) := nr (by kernel_rfl)
@[simp] theorem fld_24_0 : fieldOf Tryd.prog 24 0 = some (0, 2) := nr (by kernel_rfl)
@[simp] theorem fld_24_1 : fieldOf Tryd.prog 24 1 = some (1, 2) := nr (by kernel_rfl)
@[simp] theorem fld_24_2 : fieldOf Tryd.prog 24 2 = some (2, 2) := nr (by kernel_rfl)
@[simp] theorem pl_24 : placesT Tryd.prog 24 = some (.struct [(0, 1), (1, 1), (2, 1)]) := nr (by kernel_rfl)
@[simp] theorem und_25 : Tryd.prog.underlying 25 = some (.array 6 24) := nr (by kernel_rfl)
@[simp] theorem sz_25 : sizeT Tryd.prog 25 = some 18 := nr (by kernel_rfl)
@[simp] theorem ag_25 : aggT Tryd.prog 25 = some true := nr (by kernel_rfl)
@[simp] theorem und_26 : Tryd.prog.underlying 26 = some (.slice 73) := nr (by kernel_rfl)
@[simp] theorem sz_26 : sizeT Tryd.prog 26 = some 1 := nr (by kernel_rfl)
@[simp] theorem ag_26 : aggT Tryd.prog 26 = some false := nr (by kernel_rfl)
@[simp] theorem sz_28 : sizeT Tryd.prog 28 = some 19 := nr (by kernel_rfl)
@[simp] theorem ag_28 : aggT Tryd.prog 28 = some true := nr (by kernel_rfl)
@[simp] theorem zero_28 : zeroV Tryd.prog 28 = some (.agg [.d (.int .i64 0), .d (.int .i64 0), .d (.int .i64 0), .d (.int .i64 0), .d (.int .i64 0), .d (.int .i64 0), .d (.int .i64 0), .d (.int .i64 0), .d (.int .i64 0), .d (.int .i64 0), .d (.int .i64 0), .d (.int .i64 0), .d (.int .i64 0), .d (.int .i64 0), .d (.int .i64 0), .d (.int .i64 0), .d (.int .i64 0), .d (.int .i64 0), .nil]) := nr (by kernel_rfl)
@[simp] theorem fld_28_0 : fieldOf Tryd.prog 28 0 = some (0, 25) := nr (by kernel_rfl)
@[simp] theorem fld_28_1 : fieldOf Tryd.prog 28 1 = some (18, 26) := nr (by kernel_rfl)
@[simp] theorem pl_28 : placesT Tryd.prog 28 = some (.struct [(0, 18), (18, 1)]) := nr (by kernel_rfl)
@[simp] theorem fld_30_0 : fieldOf Tryd.prog 30 0 = some (0, 28) := nr (by kernel_rfl)
@[simp] theorem fld_30_1 : fieldOf Tryd.prog 30 1 = some (19, 24) := nr (by kernel_rfl)
@[simp] theorem sz_38 : sizeT Tryd.prog 38 = some 2 := nr (by kernel_rfl)
@[simp] theorem ag_38 : aggT Tryd.prog 38 = some true := nr (by kernel_rfl)
@[simp] theorem zero_38 : zeroV Tryd.prog 38 = some (.agg [.d (.int .u8 0), .d (.int .i64 0)]) := nr (by kernel_rfl)
@[simp] theorem fld_38_0 : fieldOf Tryd.prog 38 0 = some (0, 5) := nr (by kernel_rfl)
@[simp] theorem fld_38_1 : fieldOf Tryd.prog 38 1 = some (1, 2) := nr (by kernel_rfl)
@[simp] theorem pl_38 : placesT Tryd.prog 38 = some (.struct [(0, 1), (1, 1)]) := nr (by kernel_rfl)
@[simp] theorem und_40 : Tryd.prog.underlying 40 = some (.slice 38) := nr (by kernel_rfl)
@[simp] theorem sz_40 : sizeT Tryd.prog 40 = some 1 := nr (by kernel_rfl)
@[simp] theorem ag_40 : aggT Tryd.prog 40 = some false := nr (by kernel_rfl)
@[simp] theorem app_40 : appT Tryd.prog 40 = some (38, 2) := nr (by kernel_rfl)
@[simp] theorem sz_42 : sizeT Tryd.prog 42 = some 3 := nr (by kernel_rfl)
@[simp] theorem ag_42 : aggT Tryd.prog 42 = some true := nr (by kernel_rfl)
@[simp] theorem zero_42 : zeroV Tryd.prog 42 = some (.agg [.d (.bool false), .nil, .d (.str [])]) := nr (by kernel_rfl)
@[simp] theorem fld_42_1 : fieldOf Tryd.prog 42 1 = some (1, 40) := nr (by kernel_rfl)
@[simp] theorem fld_42_2 : fieldOf Tryd.prog 42 2 = some (2, 9) := nr (by kernel_rfl)
@[simp] theorem pl_42 : placesT Tryd.prog 42 = some (.struct [(0, 1), (1, 1), (2, 1)]) := nr (by kernel_rfl)
@[simp] theorem und_43 : Tryd.prog.underlying 43 = some (.slice 42) := nr (by kernel_rfl)
@[simp] theorem app_43 : appT Tryd.prog 43 = some (42, 3) := nr (by kernel_rfl)
@[simp] theorem und_44 : Tryd.prog.underlying 44 = some (.int .i16) := nr (by kernel_rfl)
@[simp] theorem sz_44 : sizeT Tryd.prog 44 = some 1 := nr (by kernel_rfl)
@[simp] theorem ag_44 : aggT Tryd.prog 44 = some false := nr (by kernel_rfl)
@[simp] theorem und_45 : Tryd.prog.underlying 45 = some (.array 3 44) := nr (by kernel_rfl)
@[simp] theorem sz_45 : sizeT Tryd.prog 45 = some 3 := nr (by kernel_rfl)
@[simp] theorem ag_45 : aggT Tryd.prog 45 = some true := nr (by kernel_rfl)
@[simp] theorem zero_45 : zeroV Tryd.prog 45 = some (.agg [.d (.int .i16 0), .d (.int .i16 0), .d (.int .i16 0)]) := nr (by kernel_rfl)
@[simp] theorem und_47 : Tryd.prog.underlying 47 = some (.slice 67) := nr (by kernel_rfl)
@[simp] theorem app_47 : appT Tryd.prog 47 = some (67, 9) := nr (by kernel_rfl)
@[simp] theorem sz_49 : sizeT Tryd.prog 49 = some 2 := nr (by kernel_rfl)
@[simp] theorem ag_49 : aggT Tryd.prog 49 = some true := nr (by kernel_rfl)
@[simp] theorem zero_49 : zeroV Tryd.prog 49 = some (.agg [.d (.int .i64 0), .d (.int .i64 0)]) := nr (by kernel_rfl)
@[simp] theorem pl_49 : placesT Tryd.prog 49 = some (.struct [(0, 1), (1, 1)]) := nr (by kernel_rfl)
@[simp] theorem und_52 : Tryd.prog.underlying 52 = some (.slice 86) := nr (by kernel_rfl)
@[simp] theorem sz_52 : sizeT Tryd.prog 52 = some 1 := nr (by kernel_rfl)
@[simp] theorem ag_52 : aggT Tryd.prog 52 = some false := nr (by kernel_rfl)
@[simp] theorem app_52 : appT Tryd.prog 52 = some (86, 2) := nr (by kernel_rfl)
@[simp] theorem sz_54 : sizeT Tryd.prog 54 = some 19 := nr (by kernel_rfl)
@[simp] theorem ag_54 : aggT Tryd.prog 54 = some true := nr (by kernel_rfl)
@[simp] theorem zero_54 : zeroV Tryd.prog 54 = some (.agg [.d (.int .i64 0), .d (.int .i64 0), .d (.int .i64 0), .d (.int .i64 0), .d (.int .i64 0), .d (.int .i64 0), .d (.int .i64 0), .d (.int .i64 0), .d (.int .i64 0), .d (.int .i64 0), .d (.int .i64 0), .d (.int .i64 0), .d (.int .i64 0), .d (.int .i64 0), .d (.int .i64 0), .d (.int .i64 0), .d (.int .i64 0), .d (.int .i64 0), .nil]) := nr (by kernel_rfl)
@[simp] theorem fld_54_0 : fieldOf Tryd.prog 54 0 = some (0, 25) := nr (by kernel_rfl)
@[simp] theorem fld_54_1 : fieldOf Tryd.prog 54 1 = some (18, 52) := nr (by kernel_rfl)
@[simp] theorem pl_54 : placesT Tryd.prog 54 = some (.struct [(0, 18), (18, 1)]) := nr (by kernel_rfl)
@[simp] theorem sz_60 : sizeT Tryd.prog 60 = some 8 := nr (by kernel_rfl)
@[simp] theorem ag_60 : aggT Tryd.prog 60 = some true := nr (by kernel_rfl)
@[simp] theorem zero_60 : zeroV Tryd.prog 60 = some (.agg [.d (.int .i64 0), .d (.int .i64 0), .d (.int .i64 0), .d (.int .i64 0), .d (.int .i64 0), .d (.int .i64 0), .d (.int .i64 0), .d (.int .i64 0)]) := nr (by kernel_rfl)
@[simp] theorem fld_60_0 : fieldOf Tryd.prog 60 0 = some (0, 2) := nr (by kernel_rfl)
@[simp] theorem fld_60_1 : fieldOf Tryd.prog 60 1 = some (1, 2) := nr (by kernel_rfl)
@[simp] theorem fld_60_2 : fieldOf Tryd.prog 60 2 = some (2, 2) := nr (by kernel_rfl)
@[simp] theorem fld_60_3 : fieldOf Tryd.prog 60 3 = some (3, 2) := nr (by kernel_rfl)
@[simp] theorem fld_60_4 : fieldOf Tryd.prog 60 4 = some (4, 2) := nr (by kernel_rfl)
@[simp] theorem fld_60_5 : fieldOf Tryd.prog 60 5 = some (5, 2) := nr (by kernel_rfl)
@[simp] theorem fld_60_6 : fieldOf Tryd.prog 60 6 = some (6, 2) := nr (by kernel_rfl)
@[simp] theorem fld_60_7 : fieldOf Tryd.prog 60 7 = some (7, 2) := nr (by kernel_rfl)
@[simp] theorem pl_60 : placesT Tryd.prog 60 = some (.struct [(0, 1), (1, 1), (2, 1), (3, 1), (4, 1), (5, 1), (6, 1), (7, 1)]) := nr (by kernel_rfl)
@[simp] theorem sz_67 : sizeT Tryd.prog 67 = some 9 := nr (by kernel_rfl)
@[simp] theorem ag_67 : aggT Tryd.prog 67 = some true := nr (by kernel_rfl)
@[simp] theorem zero_67 : zeroV Tryd.prog 67 = some (.agg [.d (.int .i64 0), .d (.int .i64 0), .d (.int .i64 0), .d (.int .i64 0), .d (.int .i64 0), .d (.int .i64 0), .d (.int .i64 0), .d (.int .i64 0), .d (.int .i64 0)]) := nr (by kernel_rfl)
@[simp] theorem fld_67_1 : fieldOf Tryd.prog 67 1 = some (3, 24) := nr (by kernel_rfl)
@[simp] theorem fld_67_4 : fieldOf Tryd.prog 67 4 = some (8, 3) := nr (by kernel_rfl)
@[simp] theorem pl_67 : placesT Tryd.prog 67 = some (.struct [(0, 3), (3, 3), (6, 1), (7, 1), (8, 1)]) := nr (by kernel_rfl)
@[simp] theorem sz_73 : sizeT Tryd.prog 73 = some 2 := nr (by kernel_rfl)
@[simp] theorem ag_73 : aggT Tryd.prog 73 = some true := nr (by kernel_rfl)
@[simp] theorem zero_73 : zeroV Tryd.prog 73 = some (.agg [.d (.int .i64 0), .d (.int .i64 0)]) := nr (by kernel_rfl)
@[simp] theorem fld_73_0 : fieldOf Tryd.prog 73 0 = some (0, 2) := nr (by kernel_rfl)
@[simp] theorem fld_73_1 : fieldOf Tryd.prog 73 1 = some (1, 2) := nr (by kernel_rfl)
@[simp] theorem pl_73 : placesT Tryd.prog 73 = some (.struct [(0, 1), (1, 1)]) := nr (by kernel_rfl)
@[simp] theorem sz_79 : sizeT Tryd.prog 79 = some 7 := nr (by kernel_rfl)
@[simp] theorem ag_79 : aggT Tryd.prog 79 = some true := nr (by kernel_rfl)
@[simp] theorem zero_79 : zeroV Tryd.prog 79 = some (.agg [.d (.int .i64 0), .d (.int .i64 0), .d (.int .i64 0), .d (.int .i64 0), .d (.int .i64 0), .d (.int .i64 0), .d (.bool false)]) := nr (by kernel_rfl)
@[simp] theorem fld_79_0 : fieldOf Tryd.prog 79 0 = some (0, 2) := nr (by kernel_rfl)
@[simp] theorem fld_79_1 : fieldOf Tryd.prog 79 1 = some (1, 2) := nr (by kernel_rfl)
@[simp] theorem fld_79_2 : fieldOf Tryd.prog 79 2 = some (2, 2) := nr (by kernel_rfl)
@[simp] theorem fld_79_3 : fieldOf Tryd.prog 79 3 = some (3, 2) := nr (by kernel_rfl)
@[simp] theorem fld_79_4 : fieldOf Tryd.prog 79 4 = some (4, 2) := nr (by kernel_rfl)
@[simp] theorem fld_79_5 : fieldOf Tryd.prog 79 5 = some (5, 2) := nr (by kernel_rfl)
@[simp] theorem fld_79_6 : fieldOf Tryd.prog 79 6 = some (6, 4) := nr (by kernel_rfl)
@[simp] theorem pl_79 : placesT Tryd.prog 79 = some (.struct [(0, 1), (1, 1), (2, 1), (3, 1), (4, 1), (5, 1), (6, 1)]) := nr (by kernel_rfl)
@[simp] theorem und_84 : Tryd.prog.underlying 84 = some (.slice 2) := nr (by kernel_rfl)
@[simp] theorem sz_84 : sizeT Tryd.prog 84 = some 1 := nr (by kernel_rfl)
@[simp] theorem ag_84 : aggT Tryd.prog 84 = some false := nr (by kernel_rfl)
@[simp] theorem app_84 : appT Tryd.prog 84 = some (2, 1) := nr (by kernel_rfl)
@[simp] theorem sz_86 : sizeT Tryd.prog 86 = some 2 := nr (by kernel_rfl)
@[simp] theorem ag_86 : aggT Tryd.prog 86 = some true := nr (by kernel_rfl)
@[simp] theorem zero_86 : zeroV Tryd.prog 86 = some (.agg [.d (.int .i64 0), .d (.int .i64 0)]) := nr (by kernel_rfl)
@[simp] theorem fld_86_0 : fieldOf Tryd.prog 86 0 = some (0, 2) := nr (by kernel_rfl)
@[simp] theorem fld_86_1 : fieldOf Tryd.prog 86 1 = some (1, 2) := nr (by kernel_rfl)
@[simp] theorem pl_86 : placesT Tryd.prog 86 = some (.struct [(0, 1), (1, 1)]) := nr (by kernel_rfl)
@[simp] theorem und_100 : Tryd.prog.underlying 100 = some (.slice 104) := nr (by kernel_rfl)
@[simp] theorem app_100 : appT Tryd.prog 100 = some (104, 4) := nr (by kernel_rfl)
@[simp] theorem sz_104 : sizeT Tryd.prog 104 = some 4 := nr (by kernel_rfl)
@[simp] theorem ag_104 : aggT Tryd.prog 104 = some true := nr (by kernel_rfl)
@[simp] theorem zero_104 : zeroV Tryd.prog 104 = some (.agg [.d (.int .i64 0), .d (.int .i64 0), .d (.int .i64 0), .d (.int .i64 0)]) := nr (by kernel_rfl)
@[simp] theorem fld_104_0 : fieldOf Tryd.prog 104 0 = some (0, 24) := nr (by kernel_rfl)
@[simp] theorem fld_104_1 : fieldOf Tryd.prog 104 1 = some (3, 2) := nr (by kernel_rfl)
@[simp] theorem pl_104 : placesT Tryd.prog 104 = some (.struct [(0, 3), (3, 1)]) := nr (by kernel_rfl)
@[simp] theorem und_108 : Tryd.prog.underlying 108 = some (.slice 24) := nr (by kernel_rfl)
@[simp] theorem app_108 : appT Tryd.prog 108 = some (24, 3) := nr (by kernel_rfl)
@[simp] theorem und_111 : Tryd.prog.underlying 111 = some (.slice 5) := nr (by kernel_rfl)
@[simp] theorem und_113 : Tryd.prog.underlying 113 = some (.map 5 4) := nr (by kernel_rfl)
@[simp] theorem und_114 : Tryd.prog.underlying 114 = some (.map 3 4) := nr (by kernel_rfl)
@[simp] theorem sz_127 : sizeT Tryd.prog 127 = some 1 := nr (by kernel_rfl)
@[simp] theorem ag_127 : aggT Tryd.prog 127 = some false := nr (by kernel_rfl)
@[simp] theorem zero_127 : zeroV Tryd.prog 127 = some (.d (.other (.pointer none))) := nr (by kernel_rfl)
@[simp] theorem und_128 : Tryd.prog.underlying 128 = some (.slice 127) := nr (by kernel_rfl)
@[simp] theorem sz_133 : sizeT Tryd.prog 133 = some 2 := nr (by kernel_rfl)
@[simp] theorem ag_133 : aggT Tryd.prog 133 = some true := nr (by kernel_rfl)
@[simp] theorem zero_133 : zeroV Tryd.prog 133 = some (.agg [.d (.int .u8 0), .d (.other (.pointer none))]) := nr (by kernel_rfl)
@[simp] theorem fld_133_0 : fieldOf Tryd.prog 133 0 = some (0, 5) := nr (by kernel_rfl)
@[simp] theorem fld_133_1 : fieldOf Tryd.prog 133 1 = some (1, 127) := nr (by kernel_rfl)
@[simp] theorem pl_133 : placesT Tryd.prog 133 = some (.struct [(0, 1), (1, 1)]) := nr (by kernel_rfl)
@[simp] theorem und_134 : Tryd.prog.underlying 134 = some (.slice 133) := nr (by kernel_rfl)
@[simp] theorem und_137 : Tryd.prog.underlying 137 = some (.slice 144) := nr (by kernel_rfl)
@[simp] theorem sz_137 : sizeT Tryd.prog 137 = some 1 := nr (by kernel_rfl)
@[simp] theorem ag_137 : aggT Tryd.prog 137 = some false := nr (by kernel_rfl)
@[simp] theorem zero_137 : zeroV Tryd.prog 137 = some (.nil) := nr (by kernel_rfl)
@[simp] theorem app_137 : appT Tryd.prog 137 = some (144, 7) := nr (by kernel_rfl)
@[simp] theorem sz_141 : sizeT Tryd.prog 141 = some 2 := nr (by kernel_rfl)
@[simp] theorem ag_141 : aggT Tryd.prog 141 = some true := nr (by kernel_rfl)
@[simp] theorem zero_141 : zeroV Tryd.prog 141 = some (.agg [.d (.int .i64 0), .d (.int .i64 0)]) := nr (by kernel_rfl)
@[simp] theorem fld_141_0 : fieldOf Tryd.prog 141 0 = some (0, 2) := nr (by kernel_rfl)
@[simp] theorem fld_141_1 : fieldOf Tryd.prog 141 1 = some (1, 2) := nr (by kernel_rfl)
@[simp] theorem pl_141 : placesT Tryd.prog 141 = some (.struct [(0, 1), (1, 1)]) := nr (by kernel_rfl)
@[simp] theorem und_142 : Tryd.prog.underlying 142 = some (.slice 141) := nr (by kernel_rfl)
@[simp] theorem sz_144 : sizeT Tryd.prog 144 = some 7 := nr (by kernel_rfl)
@[simp] theorem ag_144 : aggT Tryd.prog 144 = some true := nr (by kernel_rfl)
@[simp] theorem zero_144 : zeroV Tryd.prog 144 = some (.agg [.d (.int .i64 0), .d (.int .i64 0), .d (.int .i64 0), .d (.int .i64 0), .d (.int .i64 0), .d (.int .i64 0), .d (.int .i64 0)]) := nr (by kernel_rfl)
@[simp] theorem fld_144_0 : fieldOf Tryd.prog 144 0 = some (0, 3) := nr (by kernel_rfl)
@[simp] theorem fld_144_1 : fieldOf Tryd.prog 144 1 = some (1, 24) := nr (by kernel_rfl)
@[simp] theorem fld_144_2 : fieldOf Tryd.prog 144 2 = some (4, 141) := nr (by kernel_rfl)
@[simp] theorem fld_144_3 : fieldOf Tryd.prog 144 3 = some (6, 2) := nr (by kernel_rfl)
@[simp] theorem pl_144 : placesT Tryd.prog 144 = some (.struct [(0, 1), (1, 3), (4, 2), (6, 1)]) := nr (by kernel_rfl)
@[simp] theorem und_156 : Tryd.prog.underlying 156 = some (.int .u64) := nr (by kernel_rfl)
@[simp] theorem und_168 : Tryd.prog.underlying 168 = some (.int .u64) := nr (by kernel_rfl)
theorem eq_24 : EqOk Tryd.prog 24 [.int .i64, .int .i64, .int .i64] := by
 refine ⟨by kernel_rfl, fun xs ys hx hy w => ?_⟩
 obtain ⟨xa0, ra0, ea0, ka0, hx0⟩ := kinds_cons hx
 obtain ⟨a0, rfl⟩ := kind_int ka0
 obtain ⟨xa1, ra1, ea1, ka1, hx1⟩ := kinds_cons hx0
 obtain ⟨a1, rfl⟩ := kind_int ka1
 obtain ⟨xa2, ra2, ea2, ka2, hx2⟩ := kinds_cons hx1
 obtain ⟨a2, rfl⟩ := kind_int ka2
 have za := kinds_nil hx2
 subst za
 subst ea2
 subst ea1
 subst ea0
 obtain ⟨xb0, rb0, eb0, kb0, hy0⟩ := kinds_cons hy
 obtain ⟨b0, rfl⟩ := kind_int kb0
 obtain ⟨xb1, rb1, eb1, kb1, hy1⟩ := kinds_cons hy0
 obtain ⟨b1, rfl⟩ := kind_int kb1
 obtain ⟨xb2, rb2, eb2, kb2, hy2⟩ := kinds_cons hy1
 obtain ⟨b2, rfl⟩ := kind_int kb2
 have zb := kinds_nil hy2
 subst zb
 subst eb2
 subst eb1
 subst eb0
 have hS : Tryd.prog.underlying 24 = some (.struct (Tryd.prog.fieldsOf 24)) := by kernel_rfl
 simp only [Op.equal, Op.maxDepth]
 rw [show (10000 : Nat) = 9999 + 1 from rfl, run_equalIn_agg w 9999 24 _ _ hS (by kernel_rfl)]
 simp only [Program.fieldsOf, Tryd.underlying24, List.map_cons, List.map_nil, D.val]
 go_simp
 simp only [eqAll, eqD]
 refine Decidable.byCases (p := a0 = b0) (fun h0 => ?_) (fun h0 => by simp [h0])
 refine Decidable.byCases (p := a1 = b1) (fun h1 => ?_) (fun h1 => by simp [h0, h1])
 refine Decidable.byCases (p := a2 = b2) (fun h2 => ?_) (fun h2 => by simp [h0, h1, h2])
 simp [h0, h1, h2]
theorem eq_38 : EqOk Tryd.prog 38 [.int .u8, .int .i64] := by
 refine ⟨by kernel_rfl, fun xs ys hx hy w => ?_⟩
 obtain ⟨xa0, ra0, ea0, ka0, hx0⟩ := kinds_cons hx
 obtain ⟨a0, rfl⟩ := kind_int ka0
 obtain ⟨xa1, ra1, ea1, ka1, hx1⟩ := kinds_cons hx0
 obtain ⟨a1, rfl⟩ := kind_int ka1
 have za := kinds_nil hx1
 subst za
 subst ea1
 subst ea0
 obtain ⟨xb0, rb0, eb0, kb0, hy0⟩ := kinds_cons hy
 obtain ⟨b0, rfl⟩ := kind_int kb0
 obtain ⟨xb1, rb1, eb1, kb1, hy1⟩ := kinds_cons hy0
 obtain ⟨b1, rfl⟩ := kind_int kb1
 have zb := kinds_nil hy1
 subst zb
 subst eb1
 subst eb0
 have hS : Tryd.prog.underlying 38 = some (.struct (Tryd.prog.fieldsOf 38)) := by kernel_rfl
 simp only [Op.equal, Op.maxDepth]
 rw [show (10000 : Nat) = 9999 + 1 from rfl, run_equalIn_agg w 9999 38 _ _ hS (by kernel_rfl)]
 simp only [Program.fieldsOf, Tryd.underlying38, List.map_cons, List.map_nil, D.val]
 go_simp
 simp only [eqAll, eqD]
 refine Decidable.byCases (p := a0 = b0) (fun h0 => ?_) (fun h0 => by simp [h0])
 refine Decidable.byCases (p := a1 = b1) (fun h1 => ?_) (fun h1 => by simp [h0, h1])
 simp [h0, h1]
theorem eq_49 : EqOk Tryd.prog 49 [.int .i64, .int .i64] := by
 refine ⟨by kernel_rfl, fun xs ys hx hy w => ?_⟩
 obtain ⟨xa0, ra0, ea0, ka0, hx0⟩ := kinds_cons hx
 obtain ⟨a0, rfl⟩ := kind_int ka0
 obtain ⟨xa1, ra1, ea1, ka1, hx1⟩ := kinds_cons hx0
 obtain ⟨a1, rfl⟩ := kind_int ka1
 have za := kinds_nil hx1
 subst za
 subst ea1
 subst ea0
 obtain ⟨xb0, rb0, eb0, kb0, hy0⟩ := kinds_cons hy
 obtain ⟨b0, rfl⟩ := kind_int kb0
 obtain ⟨xb1, rb1, eb1, kb1, hy1⟩ := kinds_cons hy0
 obtain ⟨b1, rfl⟩ := kind_int kb1
 have zb := kinds_nil hy1
 subst zb
 subst eb1
 subst eb0
 have hS : Tryd.prog.underlying 49 = some (.struct (Tryd.prog.fieldsOf 49)) := by kernel_rfl
 simp only [Op.equal, Op.maxDepth]
 rw [show (10000 : Nat) = 9999 + 1 from rfl, run_equalIn_agg w 9999 49 _ _ hS (by kernel_rfl)]
 simp only [Program.fieldsOf, Tryd.underlying49, List.map_cons, List.map_nil, D.val]
 go_simp
 simp only [eqAll, eqD]
 refine Decidable.byCases (p := a0 = b0) (fun h0 => ?_) (fun h0 => by simp [h0])
 refine Decidable.byCases (p := a1 = b1) (fun h1 => ?_) (fun h1 => by simp [h0, h1])
 simp [h0, h1]
theorem eq_60 : EqOk Tryd.prog 60 [.int .i64, .int .i64, .int .i64, .int .i64, .int .i64, .int .i64, .int .i64, .int .i64] := by
 refine ⟨by kernel_rfl, fun xs ys hx hy w => ?_⟩
 obtain ⟨xa0, ra0, ea0, ka0, hx0⟩ := kinds_cons hx
 obtain ⟨a0, rfl⟩ := kind_int ka0
 obtain ⟨xa1, ra1, ea1, ka1, hx1⟩ := kinds_cons hx0
 obtain ⟨a1, rfl⟩ := kind_int ka1
 obtain ⟨xa2, ra2, ea2, ka2, hx2⟩ := kinds_cons hx1
 obtain ⟨a2, rfl⟩ := kind_int ka2
 obtain ⟨xa3, ra3, ea3, ka3, hx3⟩ := kinds_cons hx2
 obtain ⟨a3, rfl⟩ := kind_int ka3
 obtain ⟨xa4, ra4, ea4, ka4, hx4⟩ := kinds_cons hx3
 obtain ⟨a4, rfl⟩ := kind_int ka4
 obtain ⟨xa5, ra5, ea5, ka5, hx5⟩ := kinds_cons hx4
 obtain ⟨a5, rfl⟩ := kind_int ka5
 obtain ⟨xa6, ra6, ea6, ka6, hx6⟩ := kinds_cons hx5
 obtain ⟨a6, rfl⟩ := kind_int ka6
 obtain ⟨xa7, ra7, ea7, ka7, hx7⟩ := kinds_cons hx6
 obtain ⟨a7, rfl⟩ := kind_int ka7
 have za := kinds_nil hx7
 subst za
 subst ea7
 subst ea6
 subst ea5
 subst ea4
 subst ea3
 subst ea2
 subst ea1
 subst ea0
 obtain ⟨xb0, rb0, eb0, kb0, hy0⟩ := kinds_cons hy
 obtain ⟨b0, rfl⟩ := kind_int kb0
 obtain ⟨xb1, rb1, eb1, kb1, hy1⟩ := kinds_cons hy0
 obtain ⟨b1, rfl⟩ := kind_int kb1
 obtain ⟨xb2, rb2, eb2, kb2, hy2⟩ := kinds_cons hy1
 obtain ⟨b2, rfl⟩ := kind_int kb2
 obtain ⟨xb3, rb3, eb3, kb3, hy3⟩ := kinds_cons hy2
 obtain ⟨b3, rfl⟩ := kind_int kb3
 obtain ⟨xb4, rb4, eb4, kb4, hy4⟩ := kinds_cons hy3
 obtain ⟨b4, rfl⟩ := kind_int kb4
 obtain ⟨xb5, rb5, eb5, kb5, hy5⟩ := kinds_cons hy4
 obtain ⟨b5, rfl⟩ := kind_int kb5
 obtain ⟨xb6, rb6, eb6, kb6, hy6⟩ := kinds_cons hy5
 obtain ⟨b6, rfl⟩ := kind_int kb6
 obtain ⟨xb7, rb7, eb7, kb7, hy7⟩ := kinds_cons hy6
 obtain ⟨b7, rfl⟩ := kind_int kb7
 have zb := kinds_nil hy7
 subst zb
 subst eb7
 subst eb6
 subst eb5
 subst eb4
 subst eb3
 subst eb2
 subst eb1
 subst eb0
 have hS : Tryd.prog.underlying 60 = some (.struct (Tryd.prog.fieldsOf 60)) := by kernel_rfl
 simp only [Op.equal, Op.maxDepth]
 rw [show (10000 : Nat) = 9999 + 1 from rfl, run_equalIn_agg w 9999 60 _ _ hS (by kernel_rfl)]
 simp only [Program.fieldsOf, Tryd.underlying60, List.map_cons, List.map_nil, D.val]
 go_simp
 simp only [eqAll, eqD]
 refine Decidable.byCases (p := a0 = b0) (fun h0 => ?_) (fun h0 => by simp [h0])
 refine Decidable.byCases (p := a1 = b1) (fun h1 => ?_) (fun h1 => by simp [h0, h1])
 refine Decidable.byCases (p := a2 = b2) (fun h2 => ?_) (fun h2 => by simp [h0, h1, h2])
 refine Decidable.byCases (p := a3 = b3) (fun h3 => ?_) (fun h3 => by simp [h0, h1, h2, h3])
 refine Decidable.byCases (p := a4 = b4) (fun h4 => ?_) (fun h4 => by simp [h0, h1, h2, h3, h4])
 refine Decidable.byCases (p := a5 = b5) (fun h5 => ?_) (fun h5 => by simp [h0, h1, h2, h3, h4, h5])
 refine Decidable.byCases (p := a6 = b6) (fun h6 => ?_) (fun h6 => by simp [h0, h1, h2, h3, h4, h5, h6])
 refine Decidable.byCases (p := a7 = b7) (fun h7 => ?_) (fun h7 => by simp [h0, h1, h2, h3, h4, h5, h6, h7])
 simp [h0, h1, h2, h3, h4, h5, h6, h7]
theorem eq_67 : EqOk Tryd.prog 67 [.int .i64, .int .i64, .int .i64, .int .i64, .int .i64, .int .i64, .int .i64, .int .i64, .int .i64] := by
 refine ⟨by kernel_rfl, fun xs ys hx hy w => ?_⟩
 obtain ⟨xa0, ra0, ea0, ka0, hx0⟩ := kinds_cons hx
 obtain ⟨a0, rfl⟩ := kind_int ka0
 obtain ⟨xa1, ra1, ea1, ka1, hx1⟩ := kinds_cons hx0
 obtain ⟨a1, rfl⟩ := kind_int ka1
 obtain ⟨xa2, ra2, ea2, ka2, hx2⟩ := kinds_cons hx1
 obtain ⟨a2, rfl⟩ := kind_int ka2
 obtain ⟨xa3, ra3, ea3, ka3, hx3⟩ := kinds_cons hx2
 obtain ⟨a3, rfl⟩ := kind_int ka3
 obtain ⟨xa4, ra4, ea4, ka4, hx4⟩ := kinds_cons hx3
 obtain ⟨a4, rfl⟩ := kind_int ka4
 obtain ⟨xa5, ra5, ea5, ka5, hx5⟩ := kinds_cons hx4
 obtain ⟨a5, rfl⟩ := kind_int ka5
 obtain ⟨xa6, ra6, ea6, ka6, hx6⟩ := kinds_cons hx5
 obtain ⟨a6, rfl⟩ := kind_int ka6
 obtain ⟨xa7, ra7, ea7, ka7, hx7⟩ := kinds_cons hx6
 obtain ⟨a7, rfl⟩ := kind_int ka7
 obtain ⟨xa8, ra8, ea8, ka8, hx8⟩ := kinds_cons hx7
 obtain ⟨a8, rfl⟩ := kind_int ka8
 have za := kinds_nil hx8
 subst za
 subst ea8
 subst ea7
 subst ea6
 subst ea5
 subst ea4
 subst ea3
 subst ea2
 subst ea1
 subst ea0
 obtain ⟨xb0, rb0, eb0, kb0, hy0⟩ := kinds_cons hy
 obtain ⟨b0, rfl⟩ := kind_int kb0
 obtain ⟨xb1, rb1, eb1, kb1, hy1⟩ := kinds_cons hy0
 obtain ⟨b1, rfl⟩ := kind_int kb1
 obtain ⟨xb2, rb2, eb2, kb2, hy2⟩ := kinds_cons hy1
 obtain ⟨b2, rfl⟩ := kind_int kb2
 obtain ⟨xb3, rb3, eb3, kb3, hy3⟩ := kinds_cons hy2
 obtain ⟨b3, rfl⟩ := kind_int kb3
 obtain ⟨xb4, rb4, eb4, kb4, hy4⟩ := kinds_cons hy3
 obtain ⟨b4, rfl⟩ := kind_int kb4
 obtain ⟨xb5, rb5, eb5, kb5, hy5⟩ := kinds_cons hy4
 obtain ⟨b5, rfl⟩ := kind_int kb5
 obtain ⟨xb6, rb6, eb6, kb6, hy6⟩ := kinds_cons hy5
 obtain ⟨b6, rfl⟩ := kind_int kb6
 obtain ⟨xb7, rb7, eb7, kb7, hy7⟩ := kinds_cons hy6
 obtain ⟨b7, rfl⟩ := kind_int kb7
 obtain ⟨xb8, rb8, eb8, kb8, hy8⟩ := kinds_cons hy7
 obtain ⟨b8, rfl⟩ := kind_int kb8
 have zb := kinds_nil hy8
 subst zb
 subst eb8
 subst eb7
 subst eb6
 subst eb5
 subst eb4
 subst eb3
 subst eb2
 subst eb1
 subst eb0
 have hS : Tryd.prog.underlying 67 = some (.struct (Tryd.prog.fieldsOf 67)) := by kernel_rfl
 simp only [Op.equal, Op.maxDepth]
 rw [show (10000 : Nat) = 9999 + 1 from rfl, run_equalIn_agg w 9999 67 _ _ hS (by kernel_rfl)]
 simp only [Program.fieldsOf, Tryd.underlying67, List.map_cons, List.map_nil, D.val]
 go_simp
 simp only [eqAll, eqD]
 refine Decidable.byCases (p := a0 = b0) (fun h0 => ?_) (fun h0 => by simp [h0])
 refine Decidable.byCases (p := a1 = b1) (fun h1 => ?_) (fun h1 => by simp [h0, h1])
 refine Decidable.byCases (p := a2 = b2) (fun h2 => ?_) (fun h2 => by simp [h0, h1, h2])
 refine Decidable.byCases (p := a3 = b3) (fun h3 => ?_) (fun h3 => by simp [h0, h1, h2, h3])
 refine Decidable.byCases (p := a4 = b4) (fun h4 => ?_) (fun h4 => by simp [h0, h1, h2, h3, h4])
 refine Decidable.byCases (p := a5 = b5) (fun h5 => ?_) (fun h5 => by simp [h0, h1, h2, h3, h4, h5])
 refine Decidable.byCases (p := a6 = b6) (fun h6 => ?_) (fun h6 => by simp [h0, h1, h2, h3, h4, h5, h6])
 refine Decidable.byCases (p := a7 = b7) (fun h7 => ?_) (fun h7 => by simp [h0, h1, h2, h3, h4, h5, h6, h7])
 refine Decidable.byCases (p := a8 = b8) (fun h8 => ?_) (fun h8 => by simp [h0, h1, h2, h3, h4, h5, h6, h7, h8])
 simp [h0, h1, h2, h3, h4, h5, h6, h7, h8]
theorem eq_79 : EqOk Tryd.prog 79 [.int .i64, .int .i64, .int .i64, .int .i64, .int .i64, .int .i64, .bool] := by
 refine ⟨by kernel_rfl, fun xs ys hx hy w => ?_⟩
 obtain ⟨xa0, ra0, ea0, ka0, hx0⟩ := kinds_cons hx
 obtain ⟨a0, rfl⟩ := kind_int ka0
 obtain ⟨xa1, ra1, ea1, ka1, hx1⟩ := kinds_cons hx0
 obtain ⟨a1, rfl⟩ := kind_int ka1
 obtain ⟨xa2, ra2, ea2, ka2, hx2⟩ := kinds_cons hx1
 obtain ⟨a2, rfl⟩ := kind_int ka2
 obtain ⟨xa3, ra3, ea3, ka3, hx3⟩ := kinds_cons hx2
 obtain ⟨a3, rfl⟩ := kind_int ka3
 obtain ⟨xa4, ra4, ea4, ka4, hx4⟩ := kinds_cons hx3
 obtain ⟨a4, rfl⟩ := kind_int ka4
 obtain ⟨xa5, ra5, ea5, ka5, hx5⟩ := kinds_cons hx4
 obtain ⟨a5, rfl⟩ := kind_int ka5
 obtain ⟨xa6, ra6, ea6, ka6, hx6⟩ := kinds_cons hx5
 obtain ⟨a6, rfl⟩ := kind_bool ka6
 have za := kinds_nil hx6
 subst za
 subst ea6
 subst ea5
 subst ea4
 subst ea3
 subst ea2
 subst ea1
 subst ea0
 obtain ⟨xb0, rb0, eb0, kb0, hy0⟩ := kinds_cons hy
 obtain ⟨b0, rfl⟩ := kind_int kb0
 obtain ⟨xb1, rb1, eb1, kb1, hy1⟩ := kinds_cons hy0
 obtain ⟨b1, rfl⟩ := kind_int kb1
 obtain ⟨xb2, rb2, eb2, kb2, hy2⟩ := kinds_cons hy1
 obtain ⟨b2, rfl⟩ := kind_int kb2
 obtain ⟨xb3, rb3, eb3, kb3, hy3⟩ := kinds_cons hy2
 obtain ⟨b3, rfl⟩ := kind_int kb3
 obtain ⟨xb4, rb4, eb4, kb4, hy4⟩ := kinds_cons hy3
 obtain ⟨b4, rfl⟩ := kind_int kb4
 obtain ⟨xb5, rb5, eb5, kb5, hy5⟩ := kinds_cons hy4
 obtain ⟨b5, rfl⟩ := kind_int kb5
 obtain ⟨xb6, rb6, eb6, kb6, hy6⟩ := kinds_cons hy5
 obtain ⟨b6, rfl⟩ := kind_bool kb6
 have zb := kinds_nil hy6
 subst zb
 subst eb6
 subst eb5
 subst eb4
 subst eb3
 subst eb2
 subst eb1
 subst eb0
 have hS : Tryd.prog.underlying 79 = some (.struct (Tryd.prog.fieldsOf 79)) := by kernel_rfl
 simp only [Op.equal, Op.maxDepth]
 rw [show (10000 : Nat) = 9999 + 1 from rfl, run_equalIn_agg w 9999 79 _ _ hS (by kernel_rfl)]
 simp only [Program.fieldsOf, Tryd.underlying79, List.map_cons, List.map_nil, D.val]
 go_simp
 simp only [eqAll, eqD]
 refine Decidable.byCases (p := a0 = b0) (fun h0 => ?_) (fun h0 => by simp [h0])
 refine Decidable.byCases (p := a1 = b1) (fun h1 => ?_) (fun h1 => by simp [h0, h1])
 refine Decidable.byCases (p := a2 = b2) (fun h2 => ?_) (fun h2 => by simp [h0, h1, h2])
 refine Decidable.byCases (p := a3 = b3) (fun h3 => ?_) (fun h3 => by simp [h0, h1, h2, h3])
 refine Decidable.byCases (p := a4 = b4) (fun h4 => ?_) (fun h4 => by simp [h0, h1, h2, h3, h4])
 refine Decidable.byCases (p := a5 = b5) (fun h5 => ?_) (fun h5 => by simp [h0, h1, h2, h3, h4, h5])
 refine Decidable.byCases (p := a6 = b6) (fun h6 => ?_) (fun h6 => by simp [h0, h1, h2, h3, h4, h5, h6])
 simp [h0, h1, h2, h3, h4, h5, h6]
theorem eq_141 : EqOk Tryd.prog 141 [.int .i64, .int .i64] := by
 refine ⟨by kernel_rfl, fun xs ys hx hy w => ?_⟩
 obtain ⟨xa0, ra0, ea0, ka0, hx0⟩ := kinds_cons hx
 obtain ⟨a0, rfl⟩ := kind_int ka0
 obtain ⟨xa1, ra1, ea1, ka1, hx1⟩ := kinds_cons hx0
 obtain ⟨a1, rfl⟩ := kind_int ka1
 have za := kinds_nil hx1
 subst za
 subst ea1
 subst ea0
 obtain ⟨xb0, rb0, eb0, kb0, hy0⟩ := kinds_cons hy
 obtain ⟨b0, rfl⟩ := kind_int kb0
 obtain ⟨xb1, rb1, eb1, kb1, hy1⟩ := kinds_cons hy0
 obtain ⟨b1, rfl⟩ := kind_int kb1
 have zb := kinds_nil hy1
 subst zb
 subst eb1
 subst eb0
 have hS : Tryd.prog.underlying 141 = some (.struct (Tryd.prog.fieldsOf 141)) := by kernel_rfl
 simp only [Op.equal, Op.maxDepth]
 rw [show (10000 : Nat) = 9999 + 1 from rfl, run_equalIn_agg w 9999 141 _ _ hS (by kernel_rfl)]
 simp only [Program.fieldsOf, Tryd.underlying141, List.map_cons, List.map_nil, D.val]
 go_simp
 simp only [eqAll, eqD]
 refine Decidable.byCases (p := a0 = b0) (fun h0 => ?_) (fun h0 => by simp [h0])
 refine Decidable.byCases (p := a1 = b1) (fun h1 => ?_) (fun h1 => by simp [h0, h1])
 simp [h0, h1]
def eqTab : TypeId → Option (List SK)
 | 24 => some [.int .i64, .int .i64, .int .i64]
 | 38 => some [.int .u8, .int .i64]
 | 49 => some [.int .i64, .int .i64]
 | 60 => some [.int .i64, .int .i64, .int .i64, .int .i64, .int .i64, .int .i64, .int .i64, .int .i64]
 | 67 => some [.int .i64, .int .i64, .int .i64, .int .i64, .int .i64, .int .i64, .int .i64, .int .i64, .int .i64]
 | 79 => some [.int .i64, .int .i64, .int .i64, .int .i64, .int .i64, .int .i64, .bool]
 | 141 => some [.int .i64, .int .i64]
 | _ => none
theorem eqTab_ok : ∀ t ks, eqTab t = some ks → EqOk Tryd.prog t ks := by
 intro t ks h
 unfold eqTab at h
 split at h
 ·injection h with h; subst h; exact eq_24
 ·injection h with h; subst h; exact eq_38
 ·injection h with h; subst h; exact eq_49
 ·injection h with h; subst h; exact eq_60
 ·injection h with h; subst h; exact eq_67
 ·injection h with h; subst h; exact eq_79
 ·injection h with h; subst h; exact eq_141
 ·cases h
def gP : Pg Tryd.prog := ⟨by kernel_rfl, eqTab, eqTab_ok⟩
@[simp] theorem gE_24 : gP.E 24 = some [.int .i64, .int .i64, .int .i64] := nr rfl
@[simp] theorem gE_49 : gP.E 49 = some [.int .i64, .int .i64] := nr rfl
@[simp] theorem gE_67 : gP.E 67 = some [.int .i64, .int .i64, .int .i64, .int .i64, .int .i64, .int .i64, .int .i64, .int .i64, .int .i64] := nr rfl
@[simp] theorem gE_79 : gP.E 79 = some [.int .i64, .int .i64, .int .i64, .int .i64, .int .i64, .int .i64, .bool] := nr rfl
end Go.Proofs.YtopjpenbieojmaaDoor
