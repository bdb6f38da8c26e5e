import Derived.Test.YtejknolljjpodaaGreatDoorSy2
import Derived.Laws.StructEq
import Derived.ChangeKeysEq
namespace Go.Proofs.YtejknolljjpodaaGreatDoor
open Go.RowKit
set_option linter.unusedSimpArgs false
@[simp] theorem und_2 : Tryz.prog.underlying 2 = some (.int .i64) := nr (by kernel_rfl)
@[simp] theorem sz_2 : sizeT Tryz.prog 2 = some 1 := nr (by kernel_rfl)
@[simp] theorem ag_2 : aggT Tryz.prog 2 = some false := nr (by kernel_rfl)
@[simp] theorem zero_2 : zeroV Tryz.prog 2 = some (.d (.int .i64 0)) := nr (by kernel_rfl)
@[simp] theorem und_3 : Tryz.prog.underlying 3 = some (.int .i64) := nr (by kernel_rfl)
@[simp] theorem sz_3 : sizeT Tryz.prog 3 = some 1 := nr (by kernel_rfl)
@[simp] theorem ag_3 : aggT Tryz.prog 3 = some false := nr (by kernel_rfl)
@[simp] theorem und_4 : Tryz.prog.underlying 4 = some (.bool) := nr (by kernel_rfl)
@[simp] theorem sz_4 : sizeT Tryz.prog 4 = some 1 := nr (by kernel_rfl)
@[simp] theorem ag_4 : aggT Tryz.prog 4 = some false := nr (by kernel_rfl)
@[simp] theorem zero_4 : zeroV Tryz.prog 4 = some (.d (.bool false)) := nr (by kernel_rfl)
@[simp] theorem und_5 : Tryz.prog.underlying 5 = some (.int .u8) := nr (by kernel_rfl)
@[simp] theorem sz_5 : sizeT Tryz.prog 5 = some 1 := nr (by kernel_rfl)
@[simp] theorem ag_5 : aggT Tryz.prog 5 = some false := nr (by kernel_rfl)
@[simp] theorem zero_5 : zeroV Tryz.prog 5 = some (.d (.int .u8 0)) := nr (by kernel_rfl)
@[simp] theorem und_9 : Tryz.prog.underlying 9 = some (.string) := nr (by kernel_rfl)
@[simp] theorem sz_9 : sizeT Tryz.prog 9 = some 1 := nr (by kernel_rfl)
@[simp] theorem ag_9 : aggT Tryz.prog 9 = some false := nr (by kernel_rfl)
@[simp] theorem zero_9 : zeroV Tryz.prog 9 = some (.d (.str [])) := nr (by kernel_rfl)
@[simp] theorem und_21 : Tryz.prog.underlying 21 = some (.int .i32) := nr (by kernel_rfl)
@[simp] theorem sz_23 : sizeT Tryz.prog 23 = some 3 := nr (by kernel_rfl)
@[simp] theorem ag_23 : aggT Tryz.prog 23 = some true := nr (by kernel_rfl)
@[simp] theorem zero_23 : zeroV Tryz.prog 23 = some (.agg [.d (.int .i64 0), .d (.int .i64 0), .d (.int .i64 0)]) := nr (by kernel_rfl)
@[simp] theorem fld_23_0 : fieldOf Tryz.prog 23 0 = some (0, 2) := nr (by kernel_rfl)
@[simp] theorem fld_23_1 : fieldOf Tryz.prog 23 1 = some (1, 2) := nr (by kernel_rfl)
@[simp] theorem fld_23_2 : fieldOf Tryz.prog 23 2 = some (2, 2) := nr (by kernel_rfl)
@[simp] theorem pl_23 : placesT Tryz.prog 23 = some (.struct [(0, 1), (1, 1), (2, 1)]) := nr (by kernel_rfl)
@[simp] theorem sz_25 : sizeT Tryz.prog 25 = some 2 := nr (by kernel_rfl)
@[simp] theorem ag_25 : aggT Tryz.prog 25 = some true := nr (by kernel_rfl)
@[simp] theorem fld_25_0 : fieldOf Tryz.prog 25 0 = some (0, 2) := nr (by kernel_rfl)
@[simp] theorem fld_25_1 : fieldOf Tryz.prog 25 1 = some (1, 2) := nr (by kernel_rfl)
@[simp] theorem sz_27 : sizeT Tryz.prog 27 = some 7 := nr (by kernel_rfl)
@[simp] theorem ag_27 : aggT Tryz.prog 27 = some true := nr (by kernel_rfl)
@[simp] theorem zero_27 : zeroV Tryz.prog 27 = some (.agg [.d (.int .i64 0), .d (.int .i64 0), .d (.int .i64 0), .d (.int .i64 0), .d (.int .i64 0), .d (.int .i64 0), .d (.int .i64 0)]) := nr (by kernel_rfl)
@[simp] theorem fld_27_0 : fieldOf Tryz.prog 27 0 = some (0, 3) := nr (by kernel_rfl)
@[simp] theorem fld_27_1 : fieldOf Tryz.prog 27 1 = some (1, 23) := nr (by kernel_rfl)
@[simp] theorem fld_27_2 : fieldOf Tryz.prog 27 2 = some (4, 25) := nr (by kernel_rfl)
@[simp] theorem fld_27_3 : fieldOf Tryz.prog 27 3 = some (6, 2) := nr (by kernel_rfl)
@[simp] theorem pl_27 : placesT Tryz.prog 27 = some (.struct [(0, 1), (1, 3), (4, 2), (6, 1)]) := nr (by kernel_rfl)
@[simp] theorem und_29 : Tryz.prog.underlying 29 = some (.slice 77) := nr (by kernel_rfl)
@[simp] theorem sz_29 : sizeT Tryz.prog 29 = some 1 := nr (by kernel_rfl)
@[simp] theorem ag_29 : aggT Tryz.prog 29 = some false := nr (by kernel_rfl)
@[simp] theorem app_29 : appT Tryz.prog 29 = some (77, 2) := nr (by kernel_rfl)
@[simp] theorem sz_31 : sizeT Tryz.prog 31 = some 3 := nr (by kernel_rfl)
@[simp] theorem ag_31 : aggT Tryz.prog 31 = some true := nr (by kernel_rfl)
@[simp] theorem zero_31 : zeroV Tryz.prog 31 = some (.agg [.d (.bool false), .nil, .d (.str [])]) := nr (by kernel_rfl)
@[simp] theorem fld_31_0 : fieldOf Tryz.prog 31 0 = some (0, 4) := nr (by kernel_rfl)
@[simp] theorem fld_31_1 : fieldOf Tryz.prog 31 1 = some (1, 29) := nr (by kernel_rfl)
@[simp] theorem fld_31_2 : fieldOf Tryz.prog 31 2 = some (2, 9) := nr (by kernel_rfl)
@[simp] theorem pl_31 : placesT Tryz.prog 31 = some (.struct [(0, 1), (1, 1), (2, 1)]) := nr (by kernel_rfl)
@[simp] theorem sz_38 : sizeT Tryz.prog 38 = some 4 := nr (by kernel_rfl)
@[simp] theorem ag_38 : aggT Tryz.prog 38 = some true := nr (by kernel_rfl)
@[simp] theorem fld_38_0 : fieldOf Tryz.prog 38 0 = some (0, 2) := nr (by kernel_rfl)
@[simp] theorem fld_38_1 : fieldOf Tryz.prog 38 1 = some (1, 4) := nr (by kernel_rfl)
@[simp] theorem fld_38_2 : fieldOf Tryz.prog 38 2 = some (2, 2) := nr (by kernel_rfl)
@[simp] theorem fld_38_3 : fieldOf Tryz.prog 38 3 = some (3, 3) := nr (by kernel_rfl)
@[simp] theorem und_39 : Tryz.prog.underlying 39 = some (.slice 31) := nr (by kernel_rfl)
@[simp] theorem sz_39 : sizeT Tryz.prog 39 = some 1 := nr (by kernel_rfl)
@[simp] theorem ag_39 : aggT Tryz.prog 39 = some false := nr (by kernel_rfl)
@[simp] theorem app_39 : appT Tryz.prog 39 = some (31, 3) := nr (by kernel_rfl)
@[simp] theorem sz_44 : sizeT Tryz.prog 44 = some 4 := nr (by kernel_rfl)
@[simp] theorem ag_44 : aggT Tryz.prog 44 = some true := nr (by kernel_rfl)
@[simp] theorem zero_44 : zeroV Tryz.prog 44 = some (.agg [.d (.int .i64 0), .d (.bool false), .d (.int .i64 0), .d (.int .i64 0)]) := nr (by kernel_rfl)
@[simp] theorem fld_44_0 : fieldOf Tryz.prog 44 0 = some (0, 2) := nr (by kernel_rfl)
@[simp] theorem fld_44_1 : fieldOf Tryz.prog 44 1 = some (1, 4) := nr (by kernel_rfl)
@[simp] theorem fld_44_2 : fieldOf Tryz.prog 44 2 = some (2, 2) := nr (by kernel_rfl)
@[simp] theorem fld_44_3 : fieldOf Tryz.prog 44 3 = some (3, 3) := nr (by kernel_rfl)
@[simp] theorem pl_44 : placesT Tryz.prog 44 = some (.struct [(0, 1), (1, 1), (2, 1), (3, 1)]) := nr (by kernel_rfl)
@[simp] theorem und_47 : Tryz.prog.underlying 47 = some (.slice 83) := nr (by kernel_rfl)
@[simp] theorem sz_47 : sizeT Tryz.prog 47 = some 1 := nr (by kernel_rfl)
@[simp] theorem ag_47 : aggT Tryz.prog 47 = some false := nr (by kernel_rfl)
@[simp] theorem fld_49_0 : fieldOf Tryz.prog 49 0 = some (0, 47) := nr (by kernel_rfl)
@[simp] theorem fld_49_1 : fieldOf Tryz.prog 49 1 = some (1, 23) := nr (by kernel_rfl)
@[simp] theorem sz_57 : sizeT Tryz.prog 57 = some 8 := nr (by kernel_rfl)
@[simp] theorem ag_57 : aggT Tryz.prog 57 = some true := nr (by kernel_rfl)
@[simp] theorem zero_57 : zeroV Tryz.prog 57 = some (.agg [.d (.int .i64 0), .d (.int .i64 0), .d (.int .i64 0), .d (.int .i64 0), .d (.int .i64 0), .d (.int .i64 0), .d (.int .i64 0), .d (.int .i64 0)]) := nr (by kernel_rfl)
@[simp] theorem fld_57_0 : fieldOf Tryz.prog 57 0 = some (0, 2) := nr (by kernel_rfl)
@[simp] theorem fld_57_1 : fieldOf Tryz.prog 57 1 = some (1, 2) := nr (by kernel_rfl)
@[simp] theorem fld_57_2 : fieldOf Tryz.prog 57 2 = some (2, 2) := nr (by kernel_rfl)
@[simp] theorem fld_57_3 : fieldOf Tryz.prog 57 3 = some (3, 2) := nr (by kernel_rfl)
@[simp] theorem fld_57_4 : fieldOf Tryz.prog 57 4 = some (4, 2) := nr (by kernel_rfl)
@[simp] theorem fld_57_5 : fieldOf Tryz.prog 57 5 = some (5, 2) := nr (by kernel_rfl)
@[simp] theorem fld_57_6 : fieldOf Tryz.prog 57 6 = some (6, 2) := nr (by kernel_rfl)
@[simp] theorem fld_57_7 : fieldOf Tryz.prog 57 7 = some (7, 2) := nr (by kernel_rfl)
@[simp] theorem pl_57 : placesT Tryz.prog 57 = some (.struct [(0, 1), (1, 1), (2, 1), (3, 1), (4, 1), (5, 1), (6, 1), (7, 1)]) := nr (by kernel_rfl)
@[simp] theorem und_61 : Tryz.prog.underlying 61 = some (.slice 105) := nr (by kernel_rfl)
@[simp] theorem sz_61 : sizeT Tryz.prog 61 = some 1 := nr (by kernel_rfl)
@[simp] theorem ag_61 : aggT Tryz.prog 61 = some false := nr (by kernel_rfl)
@[simp] theorem sz_63 : sizeT Tryz.prog 63 = some 2 := nr (by kernel_rfl)
@[simp] theorem ag_63 : aggT Tryz.prog 63 = some true := nr (by kernel_rfl)
@[simp] theorem zero_63 : zeroV Tryz.prog 63 = some (.agg [.nil, .nil]) := nr (by kernel_rfl)
@[simp] theorem fld_63_0 : fieldOf Tryz.prog 63 0 = some (0, 39) := nr (by kernel_rfl)
@[simp] theorem fld_63_1 : fieldOf Tryz.prog 63 1 = some (1, 61) := nr (by kernel_rfl)
@[simp] theorem pl_63 : placesT Tryz.prog 63 = some (.struct [(0, 1), (1, 1)]) := nr (by kernel_rfl)
@[simp] theorem sz_77 : sizeT Tryz.prog 77 = some 2 := nr (by kernel_rfl)
@[simp] theorem ag_77 : aggT Tryz.prog 77 = some true := nr (by kernel_rfl)
@[simp] theorem zero_77 : zeroV Tryz.prog 77 = some (.agg [.d (.int .u8 0), .d (.int .i64 0)]) := nr (by kernel_rfl)
@[simp] theorem fld_77_0 : fieldOf Tryz.prog 77 0 = some (0, 5) := nr (by kernel_rfl)
@[simp] theorem fld_77_1 : fieldOf Tryz.prog 77 1 = some (1, 2) := nr (by kernel_rfl)
@[simp] theorem pl_77 : placesT Tryz.prog 77 = some (.struct [(0, 1), (1, 1)]) := nr (by kernel_rfl)
@[simp] theorem und_79 : Tryz.prog.underlying 79 = some (.array 5 2) := nr (by kernel_rfl)
@[simp] theorem und_81 : Tryz.prog.underlying 81 = some (.slice 27) := nr (by kernel_rfl)
@[simp] theorem sz_81 : sizeT Tryz.prog 81 = some 1 := nr (by kernel_rfl)
@[simp] theorem ag_81 : aggT Tryz.prog 81 = some false := nr (by kernel_rfl)
@[simp] theorem sz_83 : sizeT Tryz.prog 83 = some 2 := nr (by kernel_rfl)
@[simp] theorem ag_83 : aggT Tryz.prog 83 = some true := nr (by kernel_rfl)
@[simp] theorem zero_83 : zeroV Tryz.prog 83 = some (.agg [.d (.int .i64 0), .nil]) := nr (by kernel_rfl)
@[simp] theorem fld_83_0 : fieldOf Tryz.prog 83 0 = some (0, 3) := nr (by kernel_rfl)
@[simp] theorem fld_83_1 : fieldOf Tryz.prog 83 1 = some (1, 81) := nr (by kernel_rfl)
@[simp] theorem sz_89 : sizeT Tryz.prog 89 = some 8 := nr (by kernel_rfl)
@[simp] theorem ag_89 : aggT Tryz.prog 89 = some true := nr (by kernel_rfl)
@[simp] theorem zero_89 : zeroV Tryz.prog 89 = some (.agg [.d (.int .i64 0), .d (.int .i64 0), .d (.int .i64 0), .d (.int .i64 0), .d (.int .i64 0), .d (.int .i64 0), .d (.int .i64 0), .d (.int .i64 0)]) := nr (by kernel_rfl)
@[simp] theorem fld_89_0 : fieldOf Tryz.prog 89 0 = some (0, 2) := nr (by kernel_rfl)
@[simp] theorem fld_89_1 : fieldOf Tryz.prog 89 1 = some (1, 2) := nr (by kernel_rfl)
@[simp] theorem fld_89_2 : fieldOf Tryz.prog 89 2 = some (2, 2) := nr (by kernel_rfl)
@[simp] theorem fld_89_3 : fieldOf Tryz.prog 89 3 = some (3, 2) := nr (by kernel_rfl)
@[simp] theorem fld_89_4 : fieldOf Tryz.prog 89 4 = some (4, 2) := nr (by kernel_rfl)
@[simp] theorem fld_89_5 : fieldOf Tryz.prog 89 5 = some (5, 2) := nr (by kernel_rfl)
@[simp] theorem fld_89_6 : fieldOf Tryz.prog 89 6 = some (6, 2) := nr (by kernel_rfl)
@[simp] theorem fld_89_7 : fieldOf Tryz.prog 89 7 = some (7, 2) := nr (by kernel_rfl)
@[simp] theorem pl_89 : placesT Tryz.prog 89 = some (.struct [(0, 1), (1, 1), (2, 1), (3, 1), (4, 1), (5, 1), (6, 1), (7, 1)]) := nr (by kernel_rfl)
@[simp] theorem und_91 : Tryz.prog.underlying 91 = some (.slice 142) := nr (by kernel_rfl)
@[simp] theorem sz_91 : sizeT Tryz.prog 91 = some 1 := nr (by kernel_rfl)
@[simp] theorem ag_91 : aggT Tryz.prog 91 = some false := nr (by kernel_rfl)
@[simp] theorem sz_93 : sizeT Tryz.prog 93 = some 2 := nr (by kernel_rfl)
@[simp] theorem ag_93 : aggT Tryz.prog 93 = some true := nr (by kernel_rfl)
@[simp] theorem zero_93 : zeroV Tryz.prog 93 = some (.agg [.nil, .nil]) := nr (by kernel_rfl)
@[simp] theorem fld_93_0 : fieldOf Tryz.prog 93 0 = some (0, 39) := nr (by kernel_rfl)
@[simp] theorem fld_93_1 : fieldOf Tryz.prog 93 1 = some (1, 91) := nr (by kernel_rfl)
@[simp] theorem pl_93 : placesT Tryz.prog 93 = some (.struct [(0, 1), (1, 1)]) := nr (by kernel_rfl)
@[simp] theorem sz_105 : sizeT Tryz.prog 105 = some 2 := nr (by kernel_rfl)
@[simp] theorem ag_105 : aggT Tryz.prog 105 = some true := nr (by kernel_rfl)
@[simp] theorem zero_105 : zeroV Tryz.prog 105 = some (.agg [.d (.int .i64 0), .nil]) := nr (by kernel_rfl)
@[simp] theorem fld_105_0 : fieldOf Tryz.prog 105 0 = some (0, 2) := nr (by kernel_rfl)
@[simp] theorem fld_105_1 : fieldOf Tryz.prog 105 1 = some (1, 39) := nr (by kernel_rfl)
@[simp] theorem pl_105 : placesT Tryz.prog 105 = some (.struct [(0, 1), (1, 1)]) := nr (by kernel_rfl)
@[simp] theorem und_121 : Tryz.prog.underlying 121 = some (.slice 2) := nr (by kernel_rfl)
@[simp] theorem app_121 : appT Tryz.prog 121 = some (2, 1) := nr (by kernel_rfl)
@[simp] theorem und_123 : Tryz.prog.underlying 123 = some (.int .u64) := nr (by kernel_rfl)
@[simp] theorem sz_142 : sizeT Tryz.prog 142 = some 2 := nr (by kernel_rfl)
@[simp] theorem zero_142 : zeroV Tryz.prog 142 = some (.agg [.d (.int .i64 0), .nil]) := nr (by kernel_rfl)
@[simp] theorem fld_142_0 : fieldOf Tryz.prog 142 0 = some (0, 2) := nr (by kernel_rfl)
@[simp] theorem fld_142_1 : fieldOf Tryz.prog 142 1 = some (1, 39) := nr (by kernel_rfl)
@[simp] theorem pl_142 : placesT Tryz.prog 142 = some (.struct [(0, 1), (1, 1)]) := nr (by kernel_rfl)
@[simp] theorem und_163 : Tryz.prog.underlying 163 = some (.slice 5) := nr (by kernel_rfl)
@[simp] theorem sz_163 : sizeT Tryz.prog 163 = some 1 := nr (by kernel_rfl)
@[simp] theorem ag_163 : aggT Tryz.prog 163 = some false := nr (by kernel_rfl)
@[simp] theorem app_163 : appT Tryz.prog 163 = some (5, 1) := nr (by kernel_rfl)
@[simp] theorem fld_165_1 : fieldOf Tryz.prog 165 1 = some (1, 163) := nr (by kernel_rfl)
@[simp] theorem sz_174 : sizeT Tryz.prog 174 = some 5 := nr (by kernel_rfl)
@[simp] theorem zero_174 : zeroV Tryz.prog 174 = some (.agg [.d (.str []), .d (.int .i64 0), .d (.bool false), .nil, .d (.str [])]) := nr (by kernel_rfl)
@[simp] theorem fld_174_0 : fieldOf Tryz.prog 174 0 = some (0, 9) := nr (by kernel_rfl)
@[simp] theorem fld_174_1 : fieldOf Tryz.prog 174 1 = some (1, 3) := nr (by kernel_rfl)
@[simp] theorem fld_174_2 : fieldOf Tryz.prog 174 2 = some (2, 31) := nr (by kernel_rfl)
@[simp] theorem pl_174 : placesT Tryz.prog 174 = some (.struct [(0, 1), (1, 1), (2, 3)]) := nr (by kernel_rfl)
@[simp] theorem und_180 : Tryz.prog.underlying 180 = some (.map 5 4) := nr (by kernel_rfl)
@[simp] theorem und_181 : Tryz.prog.underlying 181 = some (.map 3 4) := nr (by kernel_rfl)
@[simp] theorem sz_182 : sizeT Tryz.prog 182 = some 1 := nr (by kernel_rfl)
@[simp] theorem ag_182 : aggT Tryz.prog 182 = some false := nr (by kernel_rfl)
@[simp] theorem zero_182 : zeroV Tryz.prog 182 = some (.d (.other (.pointer none))) := nr (by kernel_rfl)
@[simp] theorem und_183 : Tryz.prog.underlying 183 = some (.slice 182) := nr (by kernel_rfl)
@[simp] theorem und_189 : Tryz.prog.underlying 189 = some (.slice 9) := nr (by kernel_rfl)
@[simp] theorem app_189 : appT Tryz.prog 189 = some (9, 1) := nr (by kernel_rfl)
theorem eq_57 : EqOk Tryz.prog 57 [.int .i64, .int .i64, .int .i64, .int .i64, .int .i64, .int .i64, .int .i64, .int .i64] := by
 refine ⟨by kernel_rfl, fun xs ys hx hy w => ?_⟩
 obtain ⟨xa0, ra0, ea0, ka0, hx0⟩ := kinds_cons hx
 obtain ⟨a0, rfl⟩ := kind_int ka0
 obtain ⟨xa1, ra1, ea1, ka1, hx1⟩ := kinds_cons hx0
 obtain ⟨a1, rfl⟩ := kind_int ka1
 obtain ⟨xa2, ra2, ea2, ka2, hx2⟩ := kinds_cons hx1
 obtain ⟨a2, rfl⟩ := kind_int ka2
 obtain ⟨xa3, ra3, ea3, ka3, hx3⟩ := kinds_cons hx2
 obtain ⟨a3, rfl⟩ := kind_int ka3
 obtain ⟨xa4, ra4, ea4, ka4, hx4⟩ := kinds_cons hx3
 obtain ⟨a4, rfl⟩ := kind_int ka4
 obtain ⟨xa5, ra5, ea5, ka5, hx5⟩ := kinds_cons hx4
 obtain ⟨a5, rfl⟩ := kind_int ka5
 obtain ⟨xa6, ra6, ea6, ka6, hx6⟩ := kinds_cons hx5
 obtain ⟨a6, rfl⟩ := kind_int ka6
 obtain ⟨xa7, ra7, ea7, ka7, hx7⟩ := kinds_cons hx6
 obtain ⟨a7, rfl⟩ := kind_int ka7
 have za := kinds_nil hx7
 subst za
 subst ea7
 subst ea6
 subst ea5
 subst ea4
 subst ea3
 subst ea2
 subst ea1
 subst ea0
 obtain ⟨xb0, rb0, eb0, kb0, hy0⟩ := kinds_cons hy
 obtain ⟨b0, rfl⟩ := kind_int kb0
 obtain ⟨xb1, rb1, eb1, kb1, hy1⟩ := kinds_cons hy0
 obtain ⟨b1, rfl⟩ := kind_int kb1
 obtain ⟨xb2, rb2, eb2, kb2, hy2⟩ := kinds_cons hy1
 obtain ⟨b2, rfl⟩ := kind_int kb2
 obtain ⟨xb3, rb3, eb3, kb3, hy3⟩ := kinds_cons hy2
 obtain ⟨b3, rfl⟩ := kind_int kb3
 obtain ⟨xb4, rb4, eb4, kb4, hy4⟩ := kinds_cons hy3
 obtain ⟨b4, rfl⟩ := kind_int kb4
 obtain ⟨xb5, rb5, eb5, kb5, hy5⟩ := kinds_cons hy4
 obtain ⟨b5, rfl⟩ := kind_int kb5
 obtain ⟨xb6, rb6, eb6, kb6, hy6⟩ := kinds_cons hy5
 obtain ⟨b6, rfl⟩ := kind_int kb6
 obtain ⟨xb7, rb7, eb7, kb7, hy7⟩ := kinds_cons hy6
 obtain ⟨b7, rfl⟩ := kind_int kb7
 have zb := kinds_nil hy7
 subst zb
 subst eb7
 subst eb6
 subst eb5
 subst eb4
 subst eb3
 subst eb2
 subst eb1
 subst eb0
 have hS : Tryz.prog.underlying 57 = some (.struct (Tryz.prog.fieldsOf 57)) := by kernel_rfl
 simp only [Op.equal, Op.maxDepth]
 rw [show (10000 : Nat) = 9999 + 1 from rfl, run_equalIn_agg w 9999 57 _ _ hS (by kernel_rfl)]
 simp only [Program.fieldsOf, Tryz.underlying57, List.map_cons, List.map_nil, D.val]
 go_simp
 simp only [eqAll, eqD]
 refine Decidable.byCases (p := a0 = b0) (fun h0 => ?_) (fun h0 => by simp [h0])
 refine Decidable.byCases (p := a1 = b1) (fun h1 => ?_) (fun h1 => by simp [h0, h1])
 refine Decidable.byCases (p := a2 = b2) (fun h2 => ?_) (fun h2 => by simp [h0, h1, h2])
 refine Decidable.byCases (p := a3 = b3) (fun h3 => ?_) (fun h3 => by simp [h0, h1, h2, h3])
 refine Decidable.byCases (p := a4 = b4) (fun h4 => ?_) (fun h4 => by simp [h0, h1, h2, h3, h4])
 refine Decidable.byCases (p := a5 = b5) (fun h5 => ?_) (fun h5 => by simp [h0, h1, h2, h3, h4, h5])
 refine Decidable.byCases (p := a6 = b6) (fun h6 => ?_) (fun h6 => by simp [h0, h1, h2, h3, h4, h5, h6])
 refine Decidable.byCases (p := a7 = b7) (fun h7 => ?_) (fun h7 => by simp [h0, h1, h2, h3, h4, h5, h6, h7])
 simp [h0, h1, h2, h3, h4, h5, h6, h7]
theorem eq_77 : EqOk Tryz.prog 77 [.int .u8, .int .i64] := by
 refine ⟨by kernel_rfl, fun xs ys hx hy w => ?_⟩
 obtain ⟨xa0, ra0, ea0, ka0, hx0⟩ := kinds_cons hx
 obtain ⟨a0, rfl⟩ := kind_int ka0
 obtain ⟨xa1, ra1, ea1, ka1, hx1⟩ := kinds_cons hx0
 obtain ⟨a1, rfl⟩ := kind_int ka1
 have za := kinds_nil hx1
 subst za
 subst ea1
 subst ea0
 obtain ⟨xb0, rb0, eb0, kb0, hy0⟩ := kinds_cons hy
 obtain ⟨b0, rfl⟩ := kind_int kb0
 obtain ⟨xb1, rb1, eb1, kb1, hy1⟩ := kinds_cons hy0
 obtain ⟨b1, rfl⟩ := kind_int kb1
 have zb := kinds_nil hy1
 subst zb
 subst eb1
 subst eb0
 have hS : Tryz.prog.underlying 77 = some (.struct (Tryz.prog.fieldsOf 77)) := by kernel_rfl
 simp only [Op.equal, Op.maxDepth]
 rw [show (10000 : Nat) = 9999 + 1 from rfl, run_equalIn_agg w 9999 77 _ _ hS (by kernel_rfl)]
 simp only [Program.fieldsOf, Tryz.underlying77, List.map_cons, List.map_nil, D.val]
 go_simp
 simp only [eqAll, eqD]
 refine Decidable.byCases (p := a0 = b0) (fun h0 => ?_) (fun h0 => by simp [h0])
 refine Decidable.byCases (p := a1 = b1) (fun h1 => ?_) (fun h1 => by simp [h0, h1])
 simp [h0, h1]
theorem eq_89 : EqOk Tryz.prog 89 [.int .i64, .int .i64, .int .i64, .int .i64, .int .i64, .int .i64, .int .i64, .int .i64] := by
 refine ⟨by kernel_rfl, fun xs ys hx hy w => ?_⟩
 obtain ⟨xa0, ra0, ea0, ka0, hx0⟩ := kinds_cons hx
 obtain ⟨a0, rfl⟩ := kind_int ka0
 obtain ⟨xa1, ra1, ea1, ka1, hx1⟩ := kinds_cons hx0
 obtain ⟨a1, rfl⟩ := kind_int ka1
 obtain ⟨xa2, ra2, ea2, ka2, hx2⟩ := kinds_cons hx1
 obtain ⟨a2, rfl⟩ := kind_int ka2
 obtain ⟨xa3, ra3, ea3, ka3, hx3⟩ := kinds_cons hx2
 obtain ⟨a3, rfl⟩ := kind_int ka3
 obtain ⟨xa4, ra4, ea4, ka4, hx4⟩ := kinds_cons hx3
 obtain ⟨a4, rfl⟩ := kind_int ka4
 obtain ⟨xa5, ra5, ea5, ka5, hx5⟩ := kinds_cons hx4
 obtain ⟨a5, rfl⟩ := kind_int ka5
 obtain ⟨xa6, ra6, ea6, ka6, hx6⟩ := kinds_cons hx5
 obtain ⟨a6, rfl⟩ := kind_int ka6
 obtain ⟨xa7, ra7, ea7, ka7, hx7⟩ := kinds_cons hx6
 obtain ⟨a7, rfl⟩ := kind_int ka7
 have za := kinds_nil hx7
 subst za
 subst ea7
 subst ea6
 subst ea5
 subst ea4
 subst ea3
 subst ea2
 subst ea1
 subst ea0
 obtain ⟨xb0, rb0, eb0, kb0, hy0⟩ := kinds_cons hy
 obtain ⟨b0, rfl⟩ := kind_int kb0
 obtain ⟨xb1, rb1, eb1, kb1, hy1⟩ := kinds_cons hy0
 obtain ⟨b1, rfl⟩ := kind_int kb1
 obtain ⟨xb2, rb2, eb2, kb2, hy2⟩ := kinds_cons hy1
 obtain ⟨b2, rfl⟩ := kind_int kb2
 obtain ⟨xb3, rb3, eb3, kb3, hy3⟩ := kinds_cons hy2
 obtain ⟨b3, rfl⟩ := kind_int kb3
 obtain ⟨xb4, rb4, eb4, kb4, hy4⟩ := kinds_cons hy3
 obtain ⟨b4, rfl⟩ := kind_int kb4
 obtain ⟨xb5, rb5, eb5, kb5, hy5⟩ := kinds_cons hy4
 obtain ⟨b5, rfl⟩ := kind_int kb5
 obtain ⟨xb6, rb6, eb6, kb6, hy6⟩ := kinds_cons hy5
 obtain ⟨b6, rfl⟩ := kind_int kb6
 obtain ⟨xb7, rb7, eb7, kb7, hy7⟩ := kinds_cons hy6
 obtain ⟨b7, rfl⟩ := kind_int kb7
 have zb := kinds_nil hy7
 subst zb
 subst eb7
 subst eb6
 subst eb5
 subst eb4
 subst eb3
 subst eb2
 subst eb1
 subst eb0
 have hS : Tryz.prog.underlying 89 = some (.struct (Tryz.prog.fieldsOf 89)) := by kernel_rfl
 simp only [Op.equal, Op.maxDepth]
 rw [show (10000 : Nat) = 9999 + 1 from rfl, run_equalIn_agg w 9999 89 _ _ hS (by kernel_rfl)]
 simp only [Program.fieldsOf, Tryz.underlying89, List.map_cons, List.map_nil, D.val]
 go_simp
 simp only [eqAll, eqD]
 refine Decidable.byCases (p := a0 = b0) (fun h0 => ?_) (fun h0 => by simp [h0])
 refine Decidable.byCases (p := a1 = b1) (fun h1 => ?_) (fun h1 => by simp [h0, h1])
 refine Decidable.byCases (p := a2 = b2) (fun h2 => ?_) (fun h2 => by simp [h0, h1, h2])
 refine Decidable.byCases (p := a3 = b3) (fun h3 => ?_) (fun h3 => by simp [h0, h1, h2, h3])
 refine Decidable.byCases (p := a4 = b4) (fun h4 => ?_) (fun h4 => by simp [h0, h1, h2, h3, h4])
 refine Decidable.byCases (p := a5 = b5) (fun h5 => ?_) (fun h5 => by simp [h0, h1, h2, h3, h4, h5])
 refine Decidable.byCases (p := a6 = b6) (fun h6 => ?_) (fun h6 => by simp [h0, h1, h2, h3, h4, h5, h6])
 refine Decidable.byCases (p := a7 = b7) (fun h7 => ?_) (fun h7 => by simp [h0, h1, h2, h3, h4, h5, h6, h7])
 simp [h0, h1, h2, h3, h4, h5, h6, h7]
def eqTab : TypeId → Option (List SK)
 | 57 => some [.int .i64, .int .i64, .int .i64, .int .i64, .int .i64, .int .i64, .int .i64, .int .i64]
 | 77 => some [.int .u8, .int .i64]
 | 89 => some [.int .i64, .int .i64, .int .i64, .int .i64, .int .i64, .int .i64, .int .i64, .int .i64]
 | _ => none
theorem eqTab_ok : ∀ t ks, eqTab t = some ks → EqOk Tryz.prog t ks := by
 intro t ks h
 unfold eqTab at h
 split at h
 ·injection h with h; subst h; exact eq_57
 ·injection h with h; subst h; exact eq_77
 ·injection h with h; subst h; exact eq_89
 ·cases h
def gP : Pg Tryz.prog := ⟨by kernel_rfl, eqTab, eqTab_ok⟩
@[simp] theorem gE_57 : gP.E 57 = some [.int .i64, .int .i64, .int .i64, .int .i64, .int .i64, .int .i64, .int .i64, .int .i64] := nr rfl
@[simp] theorem gE_77 : gP.E 77 = some [.int .u8, .int .i64] := nr rfl
@[simp] theorem gE_89 : gP.E 89 = some [.int .i64, .int .i64, .int .i64, .int .i64, .int .i64, .int .i64, .int .i64, .int .i64] := nr rfl
end Go.Proofs.YtejknolljjpodaaGreatDoor
