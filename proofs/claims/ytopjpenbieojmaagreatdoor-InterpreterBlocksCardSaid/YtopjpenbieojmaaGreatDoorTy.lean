import Derived.Test.YtopjpenbieojmaaGreatDoorSy2
import Derived.Laws.StructEq
import Derived.ChangeKeysEq
namespace Go.Proofs.YtopjpenbieojmaaGreatDoor
open Go.RowKit
set_option linter.unusedSimpArgs false
@[simp] theorem und_2 : Tryz.prog.underlying 2 = some (.int .i64) := nr (by kernel_rfl)
@[simp] theorem sz_2 : sizeT Tryz.prog 2 = some 1 := nr (by kernel_rfl)
@[simp] theorem ag_2 : aggT Tryz.prog 2 = some false := nr (by kernel_rfl)
@[simp] theorem zero_2 : zeroV Tryz.prog 2 = some (.d (.int .i64 0)) := nr (by kernel_rfl)
@[simp] theorem und_3 : Tryz.prog.underlying 3 = some (.int .i64) := nr (by kernel_rfl)
@[simp] theorem sz_3 : sizeT Tryz.prog 3 = some 1 := nr (by kernel_rfl)
@[simp] theorem ag_3 : aggT Tryz.prog 3 = some false := nr (by kernel_rfl)
@[simp] theorem und_4 : Tryz.prog.underlying 4 = some (.bool) := nr (by kernel_rfl)
@[simp] theorem sz_4 : sizeT Tryz.prog 4 = some 1 := nr (by kernel_rfl)
@[simp] theorem ag_4 : aggT Tryz.prog 4 = some false := nr (by kernel_rfl)
@[simp] theorem zero_4 : zeroV Tryz.prog 4 = some (.d (.bool false)) := nr (by kernel_rfl)
@[simp] theorem und_5 : Tryz.prog.underlying 5 = some (.int .u8) := nr (by kernel_rfl)
@[simp] theorem sz_5 : sizeT Tryz.prog 5 = some 1 := nr (by kernel_rfl)
@[simp] theorem ag_5 : aggT Tryz.prog 5 = some false := nr (by kernel_rfl)
@[simp] theorem und_9 : Tryz.prog.underlying 9 = some (.string) := nr (by kernel_rfl)
@[simp] theorem sz_9 : sizeT Tryz.prog 9 = some 1 := nr (by kernel_rfl)
@[simp] theorem ag_9 : aggT Tryz.prog 9 = some false := nr (by kernel_rfl)
@[simp] theorem sz_23 : sizeT Tryz.prog 23 = some 8 := nr (by kernel_rfl)
@[simp] theorem ag_23 : aggT Tryz.prog 23 = some true := nr (by kernel_rfl)
@[simp] theorem zero_23 : zeroV Tryz.prog 23 = some (.agg [.d (.int .i64 0),.d (.int .i64 0),.d (.int .i64 0),.d (.int .i64 0),.d (.int .i64 0),.d (.int .i64 0),.d (.int .i64 0),.d (.int .i64 0)]) := nr (by kernel_rfl)
@[simp] theorem fld_23_0 : fieldOf Tryz.prog 23 0 = some (0,2) := nr (by kernel_rfl)
@[simp] theorem fld_23_1 : fieldOf Tryz.prog 23 1 = some (1,2) := nr (by kernel_rfl)
@[simp] theorem fld_23_2 : fieldOf Tryz.prog 23 2 = some (2,2) := nr (by kernel_rfl)
@[simp] theorem fld_23_3 : fieldOf Tryz.prog 23 3 = some (3,2) := nr (by kernel_rfl)
@[simp] theorem fld_23_4 : fieldOf Tryz.prog 23 4 = some (4,2) := nr (by kernel_rfl)
@[simp] theorem fld_23_5 : fieldOf Tryz.prog 23 5 = some (5,2) := nr (by kernel_rfl)
@[simp] theorem fld_23_6 : fieldOf Tryz.prog 23 6 = some (6,2) := nr (by kernel_rfl)
@[simp] theorem fld_23_7 : fieldOf Tryz.prog 23 7 = some (7,2) := nr (by kernel_rfl)
@[simp] theorem pl_23 : placesT Tryz.prog 23 = some (.struct [(0,1),(1,1),(2,1),(3,1),(4,1),(5,1),(6,1),(7,1)]) := nr (by kernel_rfl)
@[simp] theorem sz_25 : sizeT Tryz.prog 25 = some 7 := nr (by kernel_rfl)
@[simp] theorem ag_25 : aggT Tryz.prog 25 = some true := nr (by kernel_rfl)
@[simp] theorem zero_25 : zeroV Tryz.prog 25 = some (.agg [.d (.int .i64 0),.d (.int .i64 0),.d (.int .i64 0),.d (.int .i64 0),.d (.int .i64 0),.d (.int .i64 0),.d (.bool false)]) := nr (by kernel_rfl)
@[simp] theorem fld_25_0 : fieldOf Tryz.prog 25 0 = some (0,2) := nr (by kernel_rfl)
@[simp] theorem fld_25_1 : fieldOf Tryz.prog 25 1 = some (1,2) := nr (by kernel_rfl)
@[simp] theorem fld_25_2 : fieldOf Tryz.prog 25 2 = some (2,2) := nr (by kernel_rfl)
@[simp] theorem fld_25_3 : fieldOf Tryz.prog 25 3 = some (3,2) := nr (by kernel_rfl)
@[simp] theorem fld_25_4 : fieldOf Tryz.prog 25 4 = some (4,2) := nr (by kernel_rfl)
@[simp] theorem fld_25_5 : fieldOf Tryz.prog 25 5 = some (5,2) := nr (by kernel_rfl)
@[simp] theorem fld_25_6 : fieldOf Tryz.prog 25 6 = some (6,4) := nr (by kernel_rfl)
@[simp] theorem pl_25 : placesT Tryz.prog 25 = some (.struct [(0,1),(1,1),(2,1),(3,1),(4,1),(5,1),(6,1)]) := nr (by kernel_rfl)
@[simp] theorem sz_27 : sizeT Tryz.prog 27 = some 3 := nr (by kernel_rfl)
@[simp] theorem ag_27 : aggT Tryz.prog 27 = some true := nr (by kernel_rfl)
@[simp] theorem zero_27 : zeroV Tryz.prog 27 = some (.agg [.d (.int .i64 0),.d (.int .i64 0),.d (.int .i64 0)]) := nr (by kernel_rfl)
@[simp] theorem fld_27_0 : fieldOf Tryz.prog 27 0 = some (0,2) := nr (by kernel_rfl)
@[simp] theorem fld_27_1 : fieldOf Tryz.prog 27 1 = some (1,2) := nr (by kernel_rfl)
@[simp] theorem fld_27_2 : fieldOf Tryz.prog 27 2 = some (2,2) := nr (by kernel_rfl)
@[simp] theorem pl_27 : placesT Tryz.prog 27 = some (.struct [(0,1),(1,1),(2,1)]) := nr (by kernel_rfl)
@[simp] theorem sz_29 : sizeT Tryz.prog 29 = some 18 := nr (by kernel_rfl)
@[simp] theorem ag_29 : aggT Tryz.prog 29 = some true := nr (by kernel_rfl)
@[simp] theorem zero_29 : zeroV Tryz.prog 29 = some (.agg [.d (.int .i64 0),.d (.int .i64 0),.d (.int .i64 0),.d (.int .i64 0),.d (.int .i64 0),.d (.int .i64 0),.d (.int .i64 0),.d (.int .i64 0),.d (.int .i64 0),.d (.int .i64 0),.d (.int .i64 0),.d (.int .i64 0),.d (.int .i64 0),.d (.int .i64 0),.d (.bool false),.d (.int .i64 0),.d (.int .i64 0),.d (.int .i64 0)]) := nr (by kernel_rfl)
@[simp] theorem fld_29_0 : fieldOf Tryz.prog 29 0 = some (0,23) := nr (by kernel_rfl)
@[simp] theorem fld_29_1 : fieldOf Tryz.prog 29 1 = some (8,25) := nr (by kernel_rfl)
@[simp] theorem fld_29_2 : fieldOf Tryz.prog 29 2 = some (15,27) := nr (by kernel_rfl)
@[simp] theorem pl_29 : placesT Tryz.prog 29 = some (.struct [(0,8),(8,7),(15,3)]) := nr (by kernel_rfl)
@[simp] theorem und_30 : Tryz.prog.underlying 30 = some (.slice 117) := nr (by kernel_rfl)
@[simp] theorem sz_30 : sizeT Tryz.prog 30 = some 1 := nr (by kernel_rfl)
@[simp] theorem ag_30 : aggT Tryz.prog 30 = some false := nr (by kernel_rfl)
@[simp] theorem app_30 : appT Tryz.prog 30 = some (117,2) := nr (by kernel_rfl)
@[simp] theorem sz_32 : sizeT Tryz.prog 32 = some 3 := nr (by kernel_rfl)
@[simp] theorem ag_32 : aggT Tryz.prog 32 = some true := nr (by kernel_rfl)
@[simp] theorem zero_32 : zeroV Tryz.prog 32 = some (.agg [.d (.bool false),.nil,.d (.str [])]) := nr (by kernel_rfl)
@[simp] theorem fld_32_1 : fieldOf Tryz.prog 32 1 = some (1,30) := nr (by kernel_rfl)
@[simp] theorem fld_32_2 : fieldOf Tryz.prog 32 2 = some (2,9) := nr (by kernel_rfl)
@[simp] theorem pl_32 : placesT Tryz.prog 32 = some (.struct [(0,1),(1,1),(2,1)]) := nr (by kernel_rfl)
@[simp] theorem und_33 : Tryz.prog.underlying 33 = some (.array 6 27) := nr (by kernel_rfl)
@[simp] theorem sz_33 : sizeT Tryz.prog 33 = some 18 := nr (by kernel_rfl)
@[simp] theorem ag_33 : aggT Tryz.prog 33 = some true := nr (by kernel_rfl)
@[simp] theorem und_34 : Tryz.prog.underlying 34 = some (.slice 94) := nr (by kernel_rfl)
@[simp] theorem sz_34 : sizeT Tryz.prog 34 = some 1 := nr (by kernel_rfl)
@[simp] theorem ag_34 : aggT Tryz.prog 34 = some false := nr (by kernel_rfl)
@[simp] theorem sz_36 : sizeT Tryz.prog 36 = some 19 := nr (by kernel_rfl)
@[simp] theorem ag_36 : aggT Tryz.prog 36 = some true := nr (by kernel_rfl)
@[simp] theorem zero_36 : zeroV Tryz.prog 36 = some (.agg [.d (.int .i64 0),.d (.int .i64 0),.d (.int .i64 0),.d (.int .i64 0),.d (.int .i64 0),.d (.int .i64 0),.d (.int .i64 0),.d (.int .i64 0),.d (.int .i64 0),.d (.int .i64 0),.d (.int .i64 0),.d (.int .i64 0),.d (.int .i64 0),.d (.int .i64 0),.d (.int .i64 0),.d (.int .i64 0),.d (.int .i64 0),.d (.int .i64 0),.nil]) := nr (by kernel_rfl)
@[simp] theorem fld_36_0 : fieldOf Tryz.prog 36 0 = some (0,33) := nr (by kernel_rfl)
@[simp] theorem fld_36_1 : fieldOf Tryz.prog 36 1 = some (18,34) := nr (by kernel_rfl)
@[simp] theorem pl_36 : placesT Tryz.prog 36 = some (.struct [(0,18),(18,1)]) := nr (by kernel_rfl)
@[simp] theorem und_39 : Tryz.prog.underlying 39 = some (.slice 32) := nr (by kernel_rfl)
@[simp] theorem app_39 : appT Tryz.prog 39 = some (32,3) := nr (by kernel_rfl)
@[simp] theorem sz_41 : sizeT Tryz.prog 41 = some 22 := nr (by kernel_rfl)
@[simp] theorem ag_41 : aggT Tryz.prog 41 = some true := nr (by kernel_rfl)
@[simp] theorem fld_41_0 : fieldOf Tryz.prog 41 0 = some (0,36) := nr (by kernel_rfl)
@[simp] theorem fld_41_1 : fieldOf Tryz.prog 41 1 = some (19,27) := nr (by kernel_rfl)
@[simp] theorem und_43 : Tryz.prog.underlying 43 = some (.slice 73) := nr (by kernel_rfl)
@[simp] theorem app_43 : appT Tryz.prog 43 = some (73,9) := nr (by kernel_rfl)
@[simp] theorem sz_44 : sizeT Tryz.prog 44 = some 8 := nr (by kernel_rfl)
@[simp] theorem ag_44 : aggT Tryz.prog 44 = some true := nr (by kernel_rfl)
@[simp] theorem zero_44 : zeroV Tryz.prog 44 = some (.agg [.d (.int .i64 0),.d (.int .i64 0),.d (.int .i64 0),.d (.int .i64 0),.d (.int .i64 0),.d (.int .i64 0),.d (.int .i64 0),.d (.int .i64 0)]) := nr (by kernel_rfl)
@[simp] theorem fld_44_0 : fieldOf Tryz.prog 44 0 = some (0,2) := nr (by kernel_rfl)
@[simp] theorem fld_44_1 : fieldOf Tryz.prog 44 1 = some (1,2) := nr (by kernel_rfl)
@[simp] theorem fld_44_2 : fieldOf Tryz.prog 44 2 = some (2,2) := nr (by kernel_rfl)
@[simp] theorem fld_44_3 : fieldOf Tryz.prog 44 3 = some (3,2) := nr (by kernel_rfl)
@[simp] theorem fld_44_4 : fieldOf Tryz.prog 44 4 = some (4,2) := nr (by kernel_rfl)
@[simp] theorem fld_44_5 : fieldOf Tryz.prog 44 5 = some (5,2) := nr (by kernel_rfl)
@[simp] theorem fld_44_6 : fieldOf Tryz.prog 44 6 = some (6,2) := nr (by kernel_rfl)
@[simp] theorem fld_44_7 : fieldOf Tryz.prog 44 7 = some (7,2) := nr (by kernel_rfl)
@[simp] theorem pl_44 : placesT Tryz.prog 44 = some (.struct [(0,1),(1,1),(2,1),(3,1),(4,1),(5,1),(6,1),(7,1)]) := nr (by kernel_rfl)
@[simp] theorem sz_45 : sizeT Tryz.prog 45 = some 7 := nr (by kernel_rfl)
@[simp] theorem ag_45 : aggT Tryz.prog 45 = some true := nr (by kernel_rfl)
@[simp] theorem zero_45 : zeroV Tryz.prog 45 = some (.agg [.d (.int .i64 0),.d (.int .i64 0),.d (.int .i64 0),.d (.int .i64 0),.d (.int .i64 0),.d (.int .i64 0),.d (.bool false)]) := nr (by kernel_rfl)
@[simp] theorem fld_45_0 : fieldOf Tryz.prog 45 0 = some (0,2) := nr (by kernel_rfl)
@[simp] theorem fld_45_1 : fieldOf Tryz.prog 45 1 = some (1,2) := nr (by kernel_rfl)
@[simp] theorem fld_45_2 : fieldOf Tryz.prog 45 2 = some (2,2) := nr (by kernel_rfl)
@[simp] theorem fld_45_3 : fieldOf Tryz.prog 45 3 = some (3,2) := nr (by kernel_rfl)
@[simp] theorem fld_45_4 : fieldOf Tryz.prog 45 4 = some (4,2) := nr (by kernel_rfl)
@[simp] theorem fld_45_5 : fieldOf Tryz.prog 45 5 = some (5,2) := nr (by kernel_rfl)
@[simp] theorem fld_45_6 : fieldOf Tryz.prog 45 6 = some (6,4) := nr (by kernel_rfl)
@[simp] theorem pl_45 : placesT Tryz.prog 45 = some (.struct [(0,1),(1,1),(2,1),(3,1),(4,1),(5,1),(6,1)]) := nr (by kernel_rfl)
@[simp] theorem sz_46 : sizeT Tryz.prog 46 = some 1 := nr (by kernel_rfl)
@[simp] theorem ag_46 : aggT Tryz.prog 46 = some false := nr (by kernel_rfl)
@[simp] theorem und_50 : Tryz.prog.underlying 50 = some (.slice 95) := nr (by kernel_rfl)
@[simp] theorem sz_50 : sizeT Tryz.prog 50 = some 1 := nr (by kernel_rfl)
@[simp] theorem ag_50 : aggT Tryz.prog 50 = some false := nr (by kernel_rfl)
@[simp] theorem app_50 : appT Tryz.prog 50 = some (95,2) := nr (by kernel_rfl)
@[simp] theorem sz_52 : sizeT Tryz.prog 52 = some 19 := nr (by kernel_rfl)
@[simp] theorem ag_52 : aggT Tryz.prog 52 = some true := nr (by kernel_rfl)
@[simp] theorem zero_52 : zeroV Tryz.prog 52 = some (.agg [.d (.int .i64 0),.d (.int .i64 0),.d (.int .i64 0),.d (.int .i64 0),.d (.int .i64 0),.d (.int .i64 0),.d (.int .i64 0),.d (.int .i64 0),.d (.int .i64 0),.d (.int .i64 0),.d (.int .i64 0),.d (.int .i64 0),.d (.int .i64 0),.d (.int .i64 0),.d (.int .i64 0),.d (.int .i64 0),.d (.int .i64 0),.d (.int .i64 0),.nil]) := nr (by kernel_rfl)
@[simp] theorem fld_52_0 : fieldOf Tryz.prog 52 0 = some (0,33) := nr (by kernel_rfl)
@[simp] theorem fld_52_1 : fieldOf Tryz.prog 52 1 = some (18,50) := nr (by kernel_rfl)
@[simp] theorem pl_52 : placesT Tryz.prog 52 = some (.struct [(0,18),(18,1)]) := nr (by kernel_rfl)
@[simp] theorem sz_62 : sizeT Tryz.prog 62 = some 2 := nr (by kernel_rfl)
@[simp] theorem ag_62 : aggT Tryz.prog 62 = some true := nr (by kernel_rfl)
@[simp] theorem zero_62 : zeroV Tryz.prog 62 = some (.agg [.d (.int .i64 0),.d (.int .i64 0)]) := nr (by kernel_rfl)
@[simp] theorem fld_62_0 : fieldOf Tryz.prog 62 0 = some (0,3) := nr (by kernel_rfl)
@[simp] theorem fld_62_1 : fieldOf Tryz.prog 62 1 = some (1,46) := nr (by kernel_rfl)
@[simp] theorem pl_62 : placesT Tryz.prog 62 = some (.struct [(0,1),(1,1)]) := nr (by kernel_rfl)
@[simp] theorem sz_66 : sizeT Tryz.prog 66 = some 2 := nr (by kernel_rfl)
@[simp] theorem ag_66 : aggT Tryz.prog 66 = some true := nr (by kernel_rfl)
@[simp] theorem zero_66 : zeroV Tryz.prog 66 = some (.agg [.d (.int .i64 0),.d (.int .i64 0)]) := nr (by kernel_rfl)
@[simp] theorem fld_66_0 : fieldOf Tryz.prog 66 0 = some (0,3) := nr (by kernel_rfl)
@[simp] theorem fld_66_1 : fieldOf Tryz.prog 66 1 = some (1,46) := nr (by kernel_rfl)
@[simp] theorem pl_66 : placesT Tryz.prog 66 = some (.struct [(0,1),(1,1)]) := nr (by kernel_rfl)
@[simp] theorem sz_73 : sizeT Tryz.prog 73 = some 9 := nr (by kernel_rfl)
@[simp] theorem ag_73 : aggT Tryz.prog 73 = some true := nr (by kernel_rfl)
@[simp] theorem zero_73 : zeroV Tryz.prog 73 = some (.agg [.d (.int .i64 0),.d (.int .i64 0),.d (.int .i64 0),.d (.int .i64 0),.d (.int .i64 0),.d (.int .i64 0),.d (.int .i64 0),.d (.int .i64 0),.d (.int .i64 0)]) := nr (by kernel_rfl)
@[simp] theorem fld_73_1 : fieldOf Tryz.prog 73 1 = some (3,27) := nr (by kernel_rfl)
@[simp] theorem fld_73_4 : fieldOf Tryz.prog 73 4 = some (8,3) := nr (by kernel_rfl)
@[simp] theorem pl_73 : placesT Tryz.prog 73 = some (.struct [(0,3),(3,3),(6,1),(7,1),(8,1)]) := nr (by kernel_rfl)
@[simp] theorem und_75 : Tryz.prog.underlying 75 = some (.slice 2) := nr (by kernel_rfl)
@[simp] theorem sz_75 : sizeT Tryz.prog 75 = some 1 := nr (by kernel_rfl)
@[simp] theorem ag_75 : aggT Tryz.prog 75 = some false := nr (by kernel_rfl)
@[simp] theorem app_75 : appT Tryz.prog 75 = some (2,1) := nr (by kernel_rfl)
@[simp] theorem und_88 : Tryz.prog.underlying 88 = some (.slice 92) := nr (by kernel_rfl)
@[simp] theorem app_88 : appT Tryz.prog 88 = some (92,4) := nr (by kernel_rfl)
@[simp] theorem sz_92 : sizeT Tryz.prog 92 = some 4 := nr (by kernel_rfl)
@[simp] theorem ag_92 : aggT Tryz.prog 92 = some true := nr (by kernel_rfl)
@[simp] theorem zero_92 : zeroV Tryz.prog 92 = some (.agg [.d (.int .i64 0),.d (.int .i64 0),.d (.int .i64 0),.d (.int .i64 0)]) := nr (by kernel_rfl)
@[simp] theorem fld_92_0 : fieldOf Tryz.prog 92 0 = some (0,27) := nr (by kernel_rfl)
@[simp] theorem fld_92_1 : fieldOf Tryz.prog 92 1 = some (3,2) := nr (by kernel_rfl)
@[simp] theorem pl_92 : placesT Tryz.prog 92 = some (.struct [(0,3),(3,1)]) := nr (by kernel_rfl)
@[simp] theorem sz_94 : sizeT Tryz.prog 94 = some 2 := nr (by kernel_rfl)
@[simp] theorem ag_94 : aggT Tryz.prog 94 = some true := nr (by kernel_rfl)
@[simp] theorem zero_94 : zeroV Tryz.prog 94 = some (.agg [.d (.int .i64 0),.d (.int .i64 0)]) := nr (by kernel_rfl)
@[simp] theorem fld_94_0 : fieldOf Tryz.prog 94 0 = some (0,2) := nr (by kernel_rfl)
@[simp] theorem fld_94_1 : fieldOf Tryz.prog 94 1 = some (1,2) := nr (by kernel_rfl)
@[simp] theorem pl_94 : placesT Tryz.prog 94 = some (.struct [(0,1),(1,1)]) := nr (by kernel_rfl)
@[simp] theorem sz_95 : sizeT Tryz.prog 95 = some 2 := nr (by kernel_rfl)
@[simp] theorem ag_95 : aggT Tryz.prog 95 = some true := nr (by kernel_rfl)
@[simp] theorem zero_95 : zeroV Tryz.prog 95 = some (.agg [.d (.int .i64 0),.d (.int .i64 0)]) := nr (by kernel_rfl)
@[simp] theorem fld_95_0 : fieldOf Tryz.prog 95 0 = some (0,2) := nr (by kernel_rfl)
@[simp] theorem fld_95_1 : fieldOf Tryz.prog 95 1 = some (1,2) := nr (by kernel_rfl)
@[simp] theorem pl_95 : placesT Tryz.prog 95 = some (.struct [(0,1),(1,1)]) := nr (by kernel_rfl)
@[simp] theorem und_102 : Tryz.prog.underlying 102 = some (.slice 111) := nr (by kernel_rfl)
@[simp] theorem sz_102 : sizeT Tryz.prog 102 = some 1 := nr (by kernel_rfl)
@[simp] theorem ag_102 : aggT Tryz.prog 102 = some false := nr (by kernel_rfl)
@[simp] theorem zero_102 : zeroV Tryz.prog 102 = some (.nil) := nr (by kernel_rfl)
@[simp] theorem app_102 : appT Tryz.prog 102 = some (111,7) := nr (by kernel_rfl)
@[simp] theorem und_105 : Tryz.prog.underlying 105 = some (.slice 27) := nr (by kernel_rfl)
@[simp] theorem app_105 : appT Tryz.prog 105 = some (27,3) := nr (by kernel_rfl)
@[simp] theorem sz_109 : sizeT Tryz.prog 109 = some 2 := nr (by kernel_rfl)
@[simp] theorem ag_109 : aggT Tryz.prog 109 = some true := nr (by kernel_rfl)
@[simp] theorem zero_109 : zeroV Tryz.prog 109 = some (.agg [.d (.int .i64 0),.d (.int .i64 0)]) := nr (by kernel_rfl)
@[simp] theorem fld_109_0 : fieldOf Tryz.prog 109 0 = some (0,2) := nr (by kernel_rfl)
@[simp] theorem fld_109_1 : fieldOf Tryz.prog 109 1 = some (1,2) := nr (by kernel_rfl)
@[simp] theorem pl_109 : placesT Tryz.prog 109 = some (.struct [(0,1),(1,1)]) := nr (by kernel_rfl)
@[simp] theorem sz_111 : sizeT Tryz.prog 111 = some 7 := nr (by kernel_rfl)
@[simp] theorem ag_111 : aggT Tryz.prog 111 = some true := nr (by kernel_rfl)
@[simp] theorem zero_111 : zeroV Tryz.prog 111 = some (.agg [.d (.int .i64 0),.d (.int .i64 0),.d (.int .i64 0),.d (.int .i64 0),.d (.int .i64 0),.d (.int .i64 0),.d (.int .i64 0)]) := nr (by kernel_rfl)
@[simp] theorem fld_111_0 : fieldOf Tryz.prog 111 0 = some (0,3) := nr (by kernel_rfl)
@[simp] theorem fld_111_1 : fieldOf Tryz.prog 111 1 = some (1,27) := nr (by kernel_rfl)
@[simp] theorem fld_111_2 : fieldOf Tryz.prog 111 2 = some (4,109) := nr (by kernel_rfl)
@[simp] theorem fld_111_3 : fieldOf Tryz.prog 111 3 = some (6,2) := nr (by kernel_rfl)
@[simp] theorem pl_111 : placesT Tryz.prog 111 = some (.struct [(0,1),(1,3),(4,2),(6,1)]) := nr (by kernel_rfl)
@[simp] theorem sz_117 : sizeT Tryz.prog 117 = some 2 := nr (by kernel_rfl)
@[simp] theorem ag_117 : aggT Tryz.prog 117 = some true := nr (by kernel_rfl)
@[simp] theorem zero_117 : zeroV Tryz.prog 117 = some (.agg [.d (.int .u8 0),.d (.int .i64 0)]) := nr (by kernel_rfl)
@[simp] theorem fld_117_0 : fieldOf Tryz.prog 117 0 = some (0,5) := nr (by kernel_rfl)
@[simp] theorem fld_117_1 : fieldOf Tryz.prog 117 1 = some (1,2) := nr (by kernel_rfl)
@[simp] theorem pl_117 : placesT Tryz.prog 117 = some (.struct [(0,1),(1,1)]) := nr (by kernel_rfl)
@[simp] theorem und_123 : Tryz.prog.underlying 123 = some (.slice 5) := nr (by kernel_rfl)
@[simp] theorem und_125 : Tryz.prog.underlying 125 = some (.map 5 4) := nr (by kernel_rfl)
@[simp] theorem und_126 : Tryz.prog.underlying 126 = some (.map 3 4) := nr (by kernel_rfl)
@[simp] theorem und_145 : Tryz.prog.underlying 145 = some (.slice 109) := nr (by kernel_rfl)
@[simp] theorem sz_152 : sizeT Tryz.prog 152 = some 1 := nr (by kernel_rfl)
@[simp] theorem ag_152 : aggT Tryz.prog 152 = some false := nr (by kernel_rfl)
@[simp] theorem zero_152 : zeroV Tryz.prog 152 = some (.d (.other (.pointer none))) := nr (by kernel_rfl)
@[simp] theorem und_153 : Tryz.prog.underlying 153 = some (.slice 152) := nr (by kernel_rfl)
@[simp] theorem sz_158 : sizeT Tryz.prog 158 = some 2 := nr (by kernel_rfl)
@[simp] theorem ag_158 : aggT Tryz.prog 158 = some true := nr (by kernel_rfl)
@[simp] theorem zero_158 : zeroV Tryz.prog 158 = some (.agg [.d (.int .u8 0),.d (.other (.pointer none))]) := nr (by kernel_rfl)
@[simp] theorem fld_158_0 : fieldOf Tryz.prog 158 0 = some (0,5) := nr (by kernel_rfl)
@[simp] theorem fld_158_1 : fieldOf Tryz.prog 158 1 = some (1,152) := nr (by kernel_rfl)
@[simp] theorem pl_158 : placesT Tryz.prog 158 = some (.struct [(0,1),(1,1)]) := nr (by kernel_rfl)
@[simp] theorem und_159 : Tryz.prog.underlying 159 = some (.slice 158) := nr (by kernel_rfl)
@[simp] theorem sz_167 : sizeT Tryz.prog 167 = some 4 := nr (by kernel_rfl)
@[simp] theorem ag_167 : aggT Tryz.prog 167 = some true := nr (by kernel_rfl)
@[simp] theorem zero_167 : zeroV Tryz.prog 167 = some (.agg [.d (.int .i64 0),.d (.int .i64 0),.d (.int .i64 0),.nil]) := nr (by kernel_rfl)
@[simp] theorem fld_167_0 : fieldOf Tryz.prog 167 0 = some (0,27) := nr (by kernel_rfl)
@[simp] theorem fld_167_1 : fieldOf Tryz.prog 167 1 = some (3,102) := nr (by kernel_rfl)
@[simp] theorem pl_167 : placesT Tryz.prog 167 = some (.struct [(0,3),(3,1)]) := nr (by kernel_rfl)
@[simp] theorem und_186 : Tryz.prog.underlying 186 = some (.int .u64) := nr (by kernel_rfl)
@[simp] theorem und_196 : Tryz.prog.underlying 196 = some (.int .u64) := nr (by kernel_rfl)
theorem eq_23 : EqOk Tryz.prog 23 [.int .i64,.int .i64,.int .i64,.int .i64,.int .i64,.int .i64,.int .i64,.int .i64] := by
 refine ⟨by kernel_rfl,fun xs ys hx hy w=>?_⟩
 obtain ⟨xa0,ra0,ea0,ka0,hx0⟩ := kinds_cons hx
 obtain ⟨a0,rfl⟩ := kind_int ka0
 obtain ⟨xa1,ra1,ea1,ka1,hx1⟩ := kinds_cons hx0
 obtain ⟨a1,rfl⟩ := kind_int ka1
 obtain ⟨xa2,ra2,ea2,ka2,hx2⟩ := kinds_cons hx1
 obtain ⟨a2,rfl⟩ := kind_int ka2
 obtain ⟨xa3,ra3,ea3,ka3,hx3⟩ := kinds_cons hx2
 obtain ⟨a3,rfl⟩ := kind_int ka3
 obtain ⟨xa4,ra4,ea4,ka4,hx4⟩ := kinds_cons hx3
 obtain ⟨a4,rfl⟩ := kind_int ka4
 obtain ⟨xa5,ra5,ea5,ka5,hx5⟩ := kinds_cons hx4
 obtain ⟨a5,rfl⟩ := kind_int ka5
 obtain ⟨xa6,ra6,ea6,ka6,hx6⟩ := kinds_cons hx5
 obtain ⟨a6,rfl⟩ := kind_int ka6
 obtain ⟨xa7,ra7,ea7,ka7,hx7⟩ := kinds_cons hx6
 obtain ⟨a7,rfl⟩ := kind_int ka7
 have za := kinds_nil hx7
 subst za
 subst ea7
 subst ea6
 subst ea5
 subst ea4
 subst ea3
 subst ea2
 subst ea1
 subst ea0
 obtain ⟨xb0,rb0,eb0,kb0,hy0⟩ := kinds_cons hy
 obtain ⟨b0,rfl⟩ := kind_int kb0
 obtain ⟨xb1,rb1,eb1,kb1,hy1⟩ := kinds_cons hy0
 obtain ⟨b1,rfl⟩ := kind_int kb1
 obtain ⟨xb2,rb2,eb2,kb2,hy2⟩ := kinds_cons hy1
 obtain ⟨b2,rfl⟩ := kind_int kb2
 obtain ⟨xb3,rb3,eb3,kb3,hy3⟩ := kinds_cons hy2
 obtain ⟨b3,rfl⟩ := kind_int kb3
 obtain ⟨xb4,rb4,eb4,kb4,hy4⟩ := kinds_cons hy3
 obtain ⟨b4,rfl⟩ := kind_int kb4
 obtain ⟨xb5,rb5,eb5,kb5,hy5⟩ := kinds_cons hy4
 obtain ⟨b5,rfl⟩ := kind_int kb5
 obtain ⟨xb6,rb6,eb6,kb6,hy6⟩ := kinds_cons hy5
 obtain ⟨b6,rfl⟩ := kind_int kb6
 obtain ⟨xb7,rb7,eb7,kb7,hy7⟩ := kinds_cons hy6
 obtain ⟨b7,rfl⟩ := kind_int kb7
 have zb := kinds_nil hy7
 subst zb
 subst eb7
 subst eb6
 subst eb5
 subst eb4
 subst eb3
 subst eb2
 subst eb1
 subst eb0
 have hS : Tryz.prog.underlying 23 = some (.struct (Tryz.prog.fieldsOf 23)) := by kernel_rfl
 simp only [Op.equal,Op.maxDepth]
 rw [show (10000 : Nat) = 9999 + 1 from rfl,run_equalIn_agg w 9999 23 _ _ hS (by kernel_rfl)]
 simp only [Program.fieldsOf,Tryz.underlying23,List.map_cons,List.map_nil,D.val]
 go_simp
 simp only [eqAll,eqD]
 refine Decidable.byCases (p := a0 = b0) (fun h0=>?_) (fun h0=>by simp [h0])
 refine Decidable.byCases (p := a1 = b1) (fun h1=>?_) (fun h1=>by simp [h0,h1])
 refine Decidable.byCases (p := a2 = b2) (fun h2=>?_) (fun h2=>by simp [h0,h1,h2])
 refine Decidable.byCases (p := a3 = b3) (fun h3=>?_) (fun h3=>by simp [h0,h1,h2,h3])
 refine Decidable.byCases (p := a4 = b4) (fun h4=>?_) (fun h4=>by simp [h0,h1,h2,h3,h4])
 refine Decidable.byCases (p := a5 = b5) (fun h5=>?_) (fun h5=>by simp [h0,h1,h2,h3,h4,h5])
 refine Decidable.byCases (p := a6 = b6) (fun h6=>?_) (fun h6=>by simp [h0,h1,h2,h3,h4,h5,h6])
 refine Decidable.byCases (p := a7 = b7) (fun h7=>?_) (fun h7=>by simp [h0,h1,h2,h3,h4,h5,h6,h7])
 simp [h0,h1,h2,h3,h4,h5,h6,h7]
theorem eq_25 : EqOk Tryz.prog 25 [.int .i64,.int .i64,.int .i64,.int .i64,.int .i64,.int .i64,.bool] := by
 refine ⟨by kernel_rfl,fun xs ys hx hy w=>?_⟩
 obtain ⟨xa0,ra0,ea0,ka0,hx0⟩ := kinds_cons hx
 obtain ⟨a0,rfl⟩ := kind_int ka0
 obtain ⟨xa1,ra1,ea1,ka1,hx1⟩ := kinds_cons hx0
 obtain ⟨a1,rfl⟩ := kind_int ka1
 obtain ⟨xa2,ra2,ea2,ka2,hx2⟩ := kinds_cons hx1
 obtain ⟨a2,rfl⟩ := kind_int ka2
 obtain ⟨xa3,ra3,ea3,ka3,hx3⟩ := kinds_cons hx2
 obtain ⟨a3,rfl⟩ := kind_int ka3
 obtain ⟨xa4,ra4,ea4,ka4,hx4⟩ := kinds_cons hx3
 obtain ⟨a4,rfl⟩ := kind_int ka4
 obtain ⟨xa5,ra5,ea5,ka5,hx5⟩ := kinds_cons hx4
 obtain ⟨a5,rfl⟩ := kind_int ka5
 obtain ⟨xa6,ra6,ea6,ka6,hx6⟩ := kinds_cons hx5
 obtain ⟨a6,rfl⟩ := kind_bool ka6
 have za := kinds_nil hx6
 subst za
 subst ea6
 subst ea5
 subst ea4
 subst ea3
 subst ea2
 subst ea1
 subst ea0
 obtain ⟨xb0,rb0,eb0,kb0,hy0⟩ := kinds_cons hy
 obtain ⟨b0,rfl⟩ := kind_int kb0
 obtain ⟨xb1,rb1,eb1,kb1,hy1⟩ := kinds_cons hy0
 obtain ⟨b1,rfl⟩ := kind_int kb1
 obtain ⟨xb2,rb2,eb2,kb2,hy2⟩ := kinds_cons hy1
 obtain ⟨b2,rfl⟩ := kind_int kb2
 obtain ⟨xb3,rb3,eb3,kb3,hy3⟩ := kinds_cons hy2
 obtain ⟨b3,rfl⟩ := kind_int kb3
 obtain ⟨xb4,rb4,eb4,kb4,hy4⟩ := kinds_cons hy3
 obtain ⟨b4,rfl⟩ := kind_int kb4
 obtain ⟨xb5,rb5,eb5,kb5,hy5⟩ := kinds_cons hy4
 obtain ⟨b5,rfl⟩ := kind_int kb5
 obtain ⟨xb6,rb6,eb6,kb6,hy6⟩ := kinds_cons hy5
 obtain ⟨b6,rfl⟩ := kind_bool kb6
 have zb := kinds_nil hy6
 subst zb
 subst eb6
 subst eb5
 subst eb4
 subst eb3
 subst eb2
 subst eb1
 subst eb0
 have hS : Tryz.prog.underlying 25 = some (.struct (Tryz.prog.fieldsOf 25)) := by kernel_rfl
 simp only [Op.equal,Op.maxDepth]
 rw [show (10000 : Nat) = 9999 + 1 from rfl,run_equalIn_agg w 9999 25 _ _ hS (by kernel_rfl)]
 simp only [Program.fieldsOf,Tryz.underlying25,List.map_cons,List.map_nil,D.val]
 go_simp
 simp only [eqAll,eqD]
 refine Decidable.byCases (p := a0 = b0) (fun h0=>?_) (fun h0=>by simp [h0])
 refine Decidable.byCases (p := a1 = b1) (fun h1=>?_) (fun h1=>by simp [h0,h1])
 refine Decidable.byCases (p := a2 = b2) (fun h2=>?_) (fun h2=>by simp [h0,h1,h2])
 refine Decidable.byCases (p := a3 = b3) (fun h3=>?_) (fun h3=>by simp [h0,h1,h2,h3])
 refine Decidable.byCases (p := a4 = b4) (fun h4=>?_) (fun h4=>by simp [h0,h1,h2,h3,h4])
 refine Decidable.byCases (p := a5 = b5) (fun h5=>?_) (fun h5=>by simp [h0,h1,h2,h3,h4,h5])
 refine Decidable.byCases (p := a6 = b6) (fun h6=>?_) (fun h6=>by simp [h0,h1,h2,h3,h4,h5,h6])
 simp [h0,h1,h2,h3,h4,h5,h6]
theorem eq_27 : EqOk Tryz.prog 27 [.int .i64,.int .i64,.int .i64] := by
 refine ⟨by kernel_rfl,fun xs ys hx hy w=>?_⟩
 obtain ⟨xa0,ra0,ea0,ka0,hx0⟩ := kinds_cons hx
 obtain ⟨a0,rfl⟩ := kind_int ka0
 obtain ⟨xa1,ra1,ea1,ka1,hx1⟩ := kinds_cons hx0
 obtain ⟨a1,rfl⟩ := kind_int ka1
 obtain ⟨xa2,ra2,ea2,ka2,hx2⟩ := kinds_cons hx1
 obtain ⟨a2,rfl⟩ := kind_int ka2
 have za := kinds_nil hx2
 subst za
 subst ea2
 subst ea1
 subst ea0
 obtain ⟨xb0,rb0,eb0,kb0,hy0⟩ := kinds_cons hy
 obtain ⟨b0,rfl⟩ := kind_int kb0
 obtain ⟨xb1,rb1,eb1,kb1,hy1⟩ := kinds_cons hy0
 obtain ⟨b1,rfl⟩ := kind_int kb1
 obtain ⟨xb2,rb2,eb2,kb2,hy2⟩ := kinds_cons hy1
 obtain ⟨b2,rfl⟩ := kind_int kb2
 have zb := kinds_nil hy2
 subst zb
 subst eb2
 subst eb1
 subst eb0
 have hS : Tryz.prog.underlying 27 = some (.struct (Tryz.prog.fieldsOf 27)) := by kernel_rfl
 simp only [Op.equal,Op.maxDepth]
 rw [show (10000 : Nat) = 9999 + 1 from rfl,run_equalIn_agg w 9999 27 _ _ hS (by kernel_rfl)]
 simp only [Program.fieldsOf,Tryz.underlying27,List.map_cons,List.map_nil,D.val]
 go_simp
 simp only [eqAll,eqD]
 refine Decidable.byCases (p := a0 = b0) (fun h0=>?_) (fun h0=>by simp [h0])
 refine Decidable.byCases (p := a1 = b1) (fun h1=>?_) (fun h1=>by simp [h0,h1])
 refine Decidable.byCases (p := a2 = b2) (fun h2=>?_) (fun h2=>by simp [h0,h1,h2])
 simp [h0,h1,h2]
theorem eq_44 : EqOk Tryz.prog 44 [.int .i64,.int .i64,.int .i64,.int .i64,.int .i64,.int .i64,.int .i64,.int .i64] := by
 refine ⟨by kernel_rfl,fun xs ys hx hy w=>?_⟩
 obtain ⟨xa0,ra0,ea0,ka0,hx0⟩ := kinds_cons hx
 obtain ⟨a0,rfl⟩ := kind_int ka0
 obtain ⟨xa1,ra1,ea1,ka1,hx1⟩ := kinds_cons hx0
 obtain ⟨a1,rfl⟩ := kind_int ka1
 obtain ⟨xa2,ra2,ea2,ka2,hx2⟩ := kinds_cons hx1
 obtain ⟨a2,rfl⟩ := kind_int ka2
 obtain ⟨xa3,ra3,ea3,ka3,hx3⟩ := kinds_cons hx2
 obtain ⟨a3,rfl⟩ := kind_int ka3
 obtain ⟨xa4,ra4,ea4,ka4,hx4⟩ := kinds_cons hx3
 obtain ⟨a4,rfl⟩ := kind_int ka4
 obtain ⟨xa5,ra5,ea5,ka5,hx5⟩ := kinds_cons hx4
 obtain ⟨a5,rfl⟩ := kind_int ka5
 obtain ⟨xa6,ra6,ea6,ka6,hx6⟩ := kinds_cons hx5
 obtain ⟨a6,rfl⟩ := kind_int ka6
 obtain ⟨xa7,ra7,ea7,ka7,hx7⟩ := kinds_cons hx6
 obtain ⟨a7,rfl⟩ := kind_int ka7
 have za := kinds_nil hx7
 subst za
 subst ea7
 subst ea6
 subst ea5
 subst ea4
 subst ea3
 subst ea2
 subst ea1
 subst ea0
 obtain ⟨xb0,rb0,eb0,kb0,hy0⟩ := kinds_cons hy
 obtain ⟨b0,rfl⟩ := kind_int kb0
 obtain ⟨xb1,rb1,eb1,kb1,hy1⟩ := kinds_cons hy0
 obtain ⟨b1,rfl⟩ := kind_int kb1
 obtain ⟨xb2,rb2,eb2,kb2,hy2⟩ := kinds_cons hy1
 obtain ⟨b2,rfl⟩ := kind_int kb2
 obtain ⟨xb3,rb3,eb3,kb3,hy3⟩ := kinds_cons hy2
 obtain ⟨b3,rfl⟩ := kind_int kb3
 obtain ⟨xb4,rb4,eb4,kb4,hy4⟩ := kinds_cons hy3
 obtain ⟨b4,rfl⟩ := kind_int kb4
 obtain ⟨xb5,rb5,eb5,kb5,hy5⟩ := kinds_cons hy4
 obtain ⟨b5,rfl⟩ := kind_int kb5
 obtain ⟨xb6,rb6,eb6,kb6,hy6⟩ := kinds_cons hy5
 obtain ⟨b6,rfl⟩ := kind_int kb6
 obtain ⟨xb7,rb7,eb7,kb7,hy7⟩ := kinds_cons hy6
 obtain ⟨b7,rfl⟩ := kind_int kb7
 have zb := kinds_nil hy7
 subst zb
 subst eb7
 subst eb6
 subst eb5
 subst eb4
 subst eb3
 subst eb2
 subst eb1
 subst eb0
 have hS : Tryz.prog.underlying 44 = some (.struct (Tryz.prog.fieldsOf 44)) := by kernel_rfl
 simp only [Op.equal,Op.maxDepth]
 rw [show (10000 : Nat) = 9999 + 1 from rfl,run_equalIn_agg w 9999 44 _ _ hS (by kernel_rfl)]
 simp only [Program.fieldsOf,Tryz.underlying44,List.map_cons,List.map_nil,D.val]
 go_simp
 simp only [eqAll,eqD]
 refine Decidable.byCases (p := a0 = b0) (fun h0=>?_) (fun h0=>by simp [h0])
 refine Decidable.byCases (p := a1 = b1) (fun h1=>?_) (fun h1=>by simp [h0,h1])
 refine Decidable.byCases (p := a2 = b2) (fun h2=>?_) (fun h2=>by simp [h0,h1,h2])
 refine Decidable.byCases (p := a3 = b3) (fun h3=>?_) (fun h3=>by simp [h0,h1,h2,h3])
 refine Decidable.byCases (p := a4 = b4) (fun h4=>?_) (fun h4=>by simp [h0,h1,h2,h3,h4])
 refine Decidable.byCases (p := a5 = b5) (fun h5=>?_) (fun h5=>by simp [h0,h1,h2,h3,h4,h5])
 refine Decidable.byCases (p := a6 = b6) (fun h6=>?_) (fun h6=>by simp [h0,h1,h2,h3,h4,h5,h6])
 refine Decidable.byCases (p := a7 = b7) (fun h7=>?_) (fun h7=>by simp [h0,h1,h2,h3,h4,h5,h6,h7])
 simp [h0,h1,h2,h3,h4,h5,h6,h7]
theorem eq_45 : EqOk Tryz.prog 45 [.int .i64,.int .i64,.int .i64,.int .i64,.int .i64,.int .i64,.bool] := by
 refine ⟨by kernel_rfl,fun xs ys hx hy w=>?_⟩
 obtain ⟨xa0,ra0,ea0,ka0,hx0⟩ := kinds_cons hx
 obtain ⟨a0,rfl⟩ := kind_int ka0
 obtain ⟨xa1,ra1,ea1,ka1,hx1⟩ := kinds_cons hx0
 obtain ⟨a1,rfl⟩ := kind_int ka1
 obtain ⟨xa2,ra2,ea2,ka2,hx2⟩ := kinds_cons hx1
 obtain ⟨a2,rfl⟩ := kind_int ka2
 obtain ⟨xa3,ra3,ea3,ka3,hx3⟩ := kinds_cons hx2
 obtain ⟨a3,rfl⟩ := kind_int ka3
 obtain ⟨xa4,ra4,ea4,ka4,hx4⟩ := kinds_cons hx3
 obtain ⟨a4,rfl⟩ := kind_int ka4
 obtain ⟨xa5,ra5,ea5,ka5,hx5⟩ := kinds_cons hx4
 obtain ⟨a5,rfl⟩ := kind_int ka5
 obtain ⟨xa6,ra6,ea6,ka6,hx6⟩ := kinds_cons hx5
 obtain ⟨a6,rfl⟩ := kind_bool ka6
 have za := kinds_nil hx6
 subst za
 subst ea6
 subst ea5
 subst ea4
 subst ea3
 subst ea2
 subst ea1
 subst ea0
 obtain ⟨xb0,rb0,eb0,kb0,hy0⟩ := kinds_cons hy
 obtain ⟨b0,rfl⟩ := kind_int kb0
 obtain ⟨xb1,rb1,eb1,kb1,hy1⟩ := kinds_cons hy0
 obtain ⟨b1,rfl⟩ := kind_int kb1
 obtain ⟨xb2,rb2,eb2,kb2,hy2⟩ := kinds_cons hy1
 obtain ⟨b2,rfl⟩ := kind_int kb2
 obtain ⟨xb3,rb3,eb3,kb3,hy3⟩ := kinds_cons hy2
 obtain ⟨b3,rfl⟩ := kind_int kb3
 obtain ⟨xb4,rb4,eb4,kb4,hy4⟩ := kinds_cons hy3
 obtain ⟨b4,rfl⟩ := kind_int kb4
 obtain ⟨xb5,rb5,eb5,kb5,hy5⟩ := kinds_cons hy4
 obtain ⟨b5,rfl⟩ := kind_int kb5
 obtain ⟨xb6,rb6,eb6,kb6,hy6⟩ := kinds_cons hy5
 obtain ⟨b6,rfl⟩ := kind_bool kb6
 have zb := kinds_nil hy6
 subst zb
 subst eb6
 subst eb5
 subst eb4
 subst eb3
 subst eb2
 subst eb1
 subst eb0
 have hS : Tryz.prog.underlying 45 = some (.struct (Tryz.prog.fieldsOf 45)) := by kernel_rfl
 simp only [Op.equal,Op.maxDepth]
 rw [show (10000 : Nat) = 9999 + 1 from rfl,run_equalIn_agg w 9999 45 _ _ hS (by kernel_rfl)]
 simp only [Program.fieldsOf,Tryz.underlying45,List.map_cons,List.map_nil,D.val]
 go_simp
 simp only [eqAll,eqD]
 refine Decidable.byCases (p := a0 = b0) (fun h0=>?_) (fun h0=>by simp [h0])
 refine Decidable.byCases (p := a1 = b1) (fun h1=>?_) (fun h1=>by simp [h0,h1])
 refine Decidable.byCases (p := a2 = b2) (fun h2=>?_) (fun h2=>by simp [h0,h1,h2])
 refine Decidable.byCases (p := a3 = b3) (fun h3=>?_) (fun h3=>by simp [h0,h1,h2,h3])
 refine Decidable.byCases (p := a4 = b4) (fun h4=>?_) (fun h4=>by simp [h0,h1,h2,h3,h4])
 refine Decidable.byCases (p := a5 = b5) (fun h5=>?_) (fun h5=>by simp [h0,h1,h2,h3,h4,h5])
 refine Decidable.byCases (p := a6 = b6) (fun h6=>?_) (fun h6=>by simp [h0,h1,h2,h3,h4,h5,h6])
 simp [h0,h1,h2,h3,h4,h5,h6]
theorem eq_62 : EqOk Tryz.prog 62 [.int .i64,.int .i64] := by
 refine ⟨by kernel_rfl,fun xs ys hx hy w=>?_⟩
 obtain ⟨xa0,ra0,ea0,ka0,hx0⟩ := kinds_cons hx
 obtain ⟨a0,rfl⟩ := kind_int ka0
 obtain ⟨xa1,ra1,ea1,ka1,hx1⟩ := kinds_cons hx0
 obtain ⟨a1,rfl⟩ := kind_int ka1
 have za := kinds_nil hx1
 subst za
 subst ea1
 subst ea0
 obtain ⟨xb0,rb0,eb0,kb0,hy0⟩ := kinds_cons hy
 obtain ⟨b0,rfl⟩ := kind_int kb0
 obtain ⟨xb1,rb1,eb1,kb1,hy1⟩ := kinds_cons hy0
 obtain ⟨b1,rfl⟩ := kind_int kb1
 have zb := kinds_nil hy1
 subst zb
 subst eb1
 subst eb0
 have hS : Tryz.prog.underlying 62 = some (.struct (Tryz.prog.fieldsOf 62)) := by kernel_rfl
 simp only [Op.equal,Op.maxDepth]
 rw [show (10000 : Nat) = 9999 + 1 from rfl,run_equalIn_agg w 9999 62 _ _ hS (by kernel_rfl)]
 simp only [Program.fieldsOf,Tryz.underlying62,List.map_cons,List.map_nil,D.val]
 go_simp
 simp only [eqAll,eqD]
 refine Decidable.byCases (p := a0 = b0) (fun h0=>?_) (fun h0=>by simp [h0])
 refine Decidable.byCases (p := a1 = b1) (fun h1=>?_) (fun h1=>by simp [h0,h1])
 simp [h0,h1]
theorem eq_73 : EqOk Tryz.prog 73 [.int .i64,.int .i64,.int .i64,.int .i64,.int .i64,.int .i64,.int .i64,.int .i64,.int .i64] := by
 refine ⟨by kernel_rfl,fun xs ys hx hy w=>?_⟩
 obtain ⟨xa0,ra0,ea0,ka0,hx0⟩ := kinds_cons hx
 obtain ⟨a0,rfl⟩ := kind_int ka0
 obtain ⟨xa1,ra1,ea1,ka1,hx1⟩ := kinds_cons hx0
 obtain ⟨a1,rfl⟩ := kind_int ka1
 obtain ⟨xa2,ra2,ea2,ka2,hx2⟩ := kinds_cons hx1
 obtain ⟨a2,rfl⟩ := kind_int ka2
 obtain ⟨xa3,ra3,ea3,ka3,hx3⟩ := kinds_cons hx2
 obtain ⟨a3,rfl⟩ := kind_int ka3
 obtain ⟨xa4,ra4,ea4,ka4,hx4⟩ := kinds_cons hx3
 obtain ⟨a4,rfl⟩ := kind_int ka4
 obtain ⟨xa5,ra5,ea5,ka5,hx5⟩ := kinds_cons hx4
 obtain ⟨a5,rfl⟩ := kind_int ka5
 obtain ⟨xa6,ra6,ea6,ka6,hx6⟩ := kinds_cons hx5
 obtain ⟨a6,rfl⟩ := kind_int ka6
 obtain ⟨xa7,ra7,ea7,ka7,hx7⟩ := kinds_cons hx6
 obtain ⟨a7,rfl⟩ := kind_int ka7
 obtain ⟨xa8,ra8,ea8,ka8,hx8⟩ := kinds_cons hx7
 obtain ⟨a8,rfl⟩ := kind_int ka8
 have za := kinds_nil hx8
 subst za
 subst ea8
 subst ea7
 subst ea6
 subst ea5
 subst ea4
 subst ea3
 subst ea2
 subst ea1
 subst ea0
 obtain ⟨xb0,rb0,eb0,kb0,hy0⟩ := kinds_cons hy
 obtain ⟨b0,rfl⟩ := kind_int kb0
 obtain ⟨xb1,rb1,eb1,kb1,hy1⟩ := kinds_cons hy0
 obtain ⟨b1,rfl⟩ := kind_int kb1
 obtain ⟨xb2,rb2,eb2,kb2,hy2⟩ := kinds_cons hy1
 obtain ⟨b2,rfl⟩ := kind_int kb2
 obtain ⟨xb3,rb3,eb3,kb3,hy3⟩ := kinds_cons hy2
 obtain ⟨b3,rfl⟩ := kind_int kb3
 obtain ⟨xb4,rb4,eb4,kb4,hy4⟩ := kinds_cons hy3
 obtain ⟨b4,rfl⟩ := kind_int kb4
 obtain ⟨xb5,rb5,eb5,kb5,hy5⟩ := kinds_cons hy4
 obtain ⟨b5,rfl⟩ := kind_int kb5
 obtain ⟨xb6,rb6,eb6,kb6,hy6⟩ := kinds_cons hy5
 obtain ⟨b6,rfl⟩ := kind_int kb6
 obtain ⟨xb7,rb7,eb7,kb7,hy7⟩ := kinds_cons hy6
 obtain ⟨b7,rfl⟩ := kind_int kb7
 obtain ⟨xb8,rb8,eb8,kb8,hy8⟩ := kinds_cons hy7
 obtain ⟨b8,rfl⟩ := kind_int kb8
 have zb := kinds_nil hy8
 subst zb
 subst eb8
 subst eb7
 subst eb6
 subst eb5
 subst eb4
 subst eb3
 subst eb2
 subst eb1
 subst eb0
 have hS : Tryz.prog.underlying 73 = some (.struct (Tryz.prog.fieldsOf 73)) := by kernel_rfl
 simp only [Op.equal,Op.maxDepth]
 rw [show (10000 : Nat) = 9999 + 1 from rfl,run_equalIn_agg w 9999 73 _ _ hS (by kernel_rfl)]
 simp only [Program.fieldsOf,Tryz.underlying73,List.map_cons,List.map_nil,D.val]
 go_simp
 simp only [eqAll,eqD]
 refine Decidable.byCases (p := a0 = b0) (fun h0=>?_) (fun h0=>by simp [h0])
 refine Decidable.byCases (p := a1 = b1) (fun h1=>?_) (fun h1=>by simp [h0,h1])
 refine Decidable.byCases (p := a2 = b2) (fun h2=>?_) (fun h2=>by simp [h0,h1,h2])
 refine Decidable.byCases (p := a3 = b3) (fun h3=>?_) (fun h3=>by simp [h0,h1,h2,h3])
 refine Decidable.byCases (p := a4 = b4) (fun h4=>?_) (fun h4=>by simp [h0,h1,h2,h3,h4])
 refine Decidable.byCases (p := a5 = b5) (fun h5=>?_) (fun h5=>by simp [h0,h1,h2,h3,h4,h5])
 refine Decidable.byCases (p := a6 = b6) (fun h6=>?_) (fun h6=>by simp [h0,h1,h2,h3,h4,h5,h6])
 refine Decidable.byCases (p := a7 = b7) (fun h7=>?_) (fun h7=>by simp [h0,h1,h2,h3,h4,h5,h6,h7])
 refine Decidable.byCases (p := a8 = b8) (fun h8=>?_) (fun h8=>by simp [h0,h1,h2,h3,h4,h5,h6,h7,h8])
 simp [h0,h1,h2,h3,h4,h5,h6,h7,h8]
theorem eq_109 : EqOk Tryz.prog 109 [.int .i64,.int .i64] := by
 refine ⟨by kernel_rfl,fun xs ys hx hy w=>?_⟩
 obtain ⟨xa0,ra0,ea0,ka0,hx0⟩ := kinds_cons hx
 obtain ⟨a0,rfl⟩ := kind_int ka0
 obtain ⟨xa1,ra1,ea1,ka1,hx1⟩ := kinds_cons hx0
 obtain ⟨a1,rfl⟩ := kind_int ka1
 have za := kinds_nil hx1
 subst za
 subst ea1
 subst ea0
 obtain ⟨xb0,rb0,eb0,kb0,hy0⟩ := kinds_cons hy
 obtain ⟨b0,rfl⟩ := kind_int kb0
 obtain ⟨xb1,rb1,eb1,kb1,hy1⟩ := kinds_cons hy0
 obtain ⟨b1,rfl⟩ := kind_int kb1
 have zb := kinds_nil hy1
 subst zb
 subst eb1
 subst eb0
 have hS : Tryz.prog.underlying 109 = some (.struct (Tryz.prog.fieldsOf 109)) := by kernel_rfl
 simp only [Op.equal,Op.maxDepth]
 rw [show (10000 : Nat) = 9999 + 1 from rfl,run_equalIn_agg w 9999 109 _ _ hS (by kernel_rfl)]
 simp only [Program.fieldsOf,Tryz.underlying109,List.map_cons,List.map_nil,D.val]
 go_simp
 simp only [eqAll,eqD]
 refine Decidable.byCases (p := a0 = b0) (fun h0=>?_) (fun h0=>by simp [h0])
 refine Decidable.byCases (p := a1 = b1) (fun h1=>?_) (fun h1=>by simp [h0,h1])
 simp [h0,h1]
theorem eq_117 : EqOk Tryz.prog 117 [.int .u8,.int .i64] := by
 refine ⟨by kernel_rfl,fun xs ys hx hy w=>?_⟩
 obtain ⟨xa0,ra0,ea0,ka0,hx0⟩ := kinds_cons hx
 obtain ⟨a0,rfl⟩ := kind_int ka0
 obtain ⟨xa1,ra1,ea1,ka1,hx1⟩ := kinds_cons hx0
 obtain ⟨a1,rfl⟩ := kind_int ka1
 have za := kinds_nil hx1
 subst za
 subst ea1
 subst ea0
 obtain ⟨xb0,rb0,eb0,kb0,hy0⟩ := kinds_cons hy
 obtain ⟨b0,rfl⟩ := kind_int kb0
 obtain ⟨xb1,rb1,eb1,kb1,hy1⟩ := kinds_cons hy0
 obtain ⟨b1,rfl⟩ := kind_int kb1
 have zb := kinds_nil hy1
 subst zb
 subst eb1
 subst eb0
 have hS : Tryz.prog.underlying 117 = some (.struct (Tryz.prog.fieldsOf 117)) := by kernel_rfl
 simp only [Op.equal,Op.maxDepth]
 rw [show (10000 : Nat) = 9999 + 1 from rfl,run_equalIn_agg w 9999 117 _ _ hS (by kernel_rfl)]
 simp only [Program.fieldsOf,Tryz.underlying117,List.map_cons,List.map_nil,D.val]
 go_simp
 simp only [eqAll,eqD]
 refine Decidable.byCases (p := a0 = b0) (fun h0=>?_) (fun h0=>by simp [h0])
 refine Decidable.byCases (p := a1 = b1) (fun h1=>?_) (fun h1=>by simp [h0,h1])
 simp [h0,h1]
def eqTab : TypeId → Option (List SK)
 | 23=>some [.int .i64,.int .i64,.int .i64,.int .i64,.int .i64,.int .i64,.int .i64,.int .i64]
 | 25=>some [.int .i64,.int .i64,.int .i64,.int .i64,.int .i64,.int .i64,.bool]
 | 27=>some [.int .i64,.int .i64,.int .i64]
 | 44=>some [.int .i64,.int .i64,.int .i64,.int .i64,.int .i64,.int .i64,.int .i64,.int .i64]
 | 45=>some [.int .i64,.int .i64,.int .i64,.int .i64,.int .i64,.int .i64,.bool]
 | 62=>some [.int .i64,.int .i64]
 | 73=>some [.int .i64,.int .i64,.int .i64,.int .i64,.int .i64,.int .i64,.int .i64,.int .i64,.int .i64]
 | 109=>some [.int .i64,.int .i64]
 | 117=>some [.int .u8,.int .i64]
 | _=>none
theorem eqTab_ok : ∀ t ks,eqTab t = some ks → EqOk Tryz.prog t ks := by
 intro t ks h
 unfold eqTab at h
 split at h
 ·injection h with h; subst h; exact eq_23
 ·injection h with h; subst h; exact eq_25
 ·injection h with h; subst h; exact eq_27
 ·injection h with h; subst h; exact eq_44
 ·injection h with h; subst h; exact eq_45
 ·injection h with h; subst h; exact eq_62
 ·injection h with h; subst h; exact eq_73
 ·injection h with h; subst h; exact eq_109
 ·injection h with h; subst h; exact eq_117
 ·cases h
def gP : Pg Tryz.prog := ⟨by kernel_rfl,eqTab,eqTab_ok⟩
@[simp] theorem gE_25 : gP.E 25 = some [.int .i64,.int .i64,.int .i64,.int .i64,.int .i64,.int .i64,.bool] := nr rfl
@[simp] theorem gE_27 : gP.E 27 = some [.int .i64,.int .i64,.int .i64] := nr rfl
@[simp] theorem gE_45 : gP.E 45 = some [.int .i64,.int .i64,.int .i64,.int .i64,.int .i64,.int .i64,.bool] := nr rfl
@[simp] theorem gE_62 : gP.E 62 = some [.int .i64,.int .i64] := nr rfl
@[simp] theorem gE_73 : gP.E 73 = some [.int .i64,.int .i64,.int .i64,.int .i64,.int .i64,.int .i64,.int .i64,.int .i64,.int .i64] := nr rfl
end Go.Proofs.YtopjpenbieojmaaGreatDoor
