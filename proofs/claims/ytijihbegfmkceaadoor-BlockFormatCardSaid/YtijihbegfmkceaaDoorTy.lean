/-
  Facts on types and functions of this seat, for the shadow (written by wip/types.py).
-/
import Derived.Test.YtijihbegfmkceaaDoorSp
import Derived.Laws.StructEq
import Derived.ChangeKeysEq
namespace Go.Proofs.YtijihbegfmkceaaDoor
open Go.RowKit
set_option linter.unusedSimpArgs false

@[simp] theorem sz_1 : sizeT Tryd.prog 1 = some 1 := nr (by kernel_rfl)
@[simp] theorem ag_1 : aggT Tryd.prog 1 = some false := nr (by kernel_rfl)
@[simp] theorem zero_1 : zeroV Tryd.prog 1 = some (.d (.other .nilFunc)) := nr (by kernel_rfl)
@[simp] theorem und_2 : Tryd.prog.underlying 2 = some (.int .i64) := nr (by kernel_rfl)
@[simp] theorem sz_2 : sizeT Tryd.prog 2 = some 1 := nr (by kernel_rfl)
@[simp] theorem ag_2 : aggT Tryd.prog 2 = some false := nr (by kernel_rfl)
@[simp] theorem zero_2 : zeroV Tryd.prog 2 = some (.d (.int .i64 0)) := nr (by kernel_rfl)
@[simp] theorem und_3 : Tryd.prog.underlying 3 = some (.int .i64) := nr (by kernel_rfl)
@[simp] theorem sz_3 : sizeT Tryd.prog 3 = some 1 := nr (by kernel_rfl)
@[simp] theorem ag_3 : aggT Tryd.prog 3 = some false := nr (by kernel_rfl)
@[simp] theorem zero_3 : zeroV Tryd.prog 3 = some (.d (.int .i64 0)) := nr (by kernel_rfl)
@[simp] theorem und_4 : Tryd.prog.underlying 4 = some (.bool) := nr (by kernel_rfl)
@[simp] theorem sz_4 : sizeT Tryd.prog 4 = some 1 := nr (by kernel_rfl)
@[simp] theorem ag_4 : aggT Tryd.prog 4 = some false := nr (by kernel_rfl)
@[simp] theorem zero_4 : zeroV Tryd.prog 4 = some (.d (.bool false)) := nr (by kernel_rfl)
@[simp] theorem und_5 : Tryd.prog.underlying 5 = some (.int .u8) := nr (by kernel_rfl)
@[simp] theorem sz_5 : sizeT Tryd.prog 5 = some 1 := nr (by kernel_rfl)
@[simp] theorem ag_5 : aggT Tryd.prog 5 = some false := nr (by kernel_rfl)
@[simp] theorem zero_5 : zeroV Tryd.prog 5 = some (.d (.int .u8 0)) := nr (by kernel_rfl)
@[simp] theorem und_9 : Tryd.prog.underlying 9 = some (.string) := nr (by kernel_rfl)
@[simp] theorem sz_9 : sizeT Tryd.prog 9 = some 1 := nr (by kernel_rfl)
@[simp] theorem ag_9 : aggT Tryd.prog 9 = some false := nr (by kernel_rfl)
@[simp] theorem zero_9 : zeroV Tryd.prog 9 = some (.d (.str [])) := nr (by kernel_rfl)
@[simp] theorem und_12 : Tryd.prog.underlying 12 = some (.int .u64) := nr (by kernel_rfl)
@[simp] theorem sz_12 : sizeT Tryd.prog 12 = some 1 := nr (by kernel_rfl)
@[simp] theorem ag_12 : aggT Tryd.prog 12 = some false := nr (by kernel_rfl)
@[simp] theorem zero_12 : zeroV Tryd.prog 12 = some (.d (.int .u64 0)) := nr (by kernel_rfl)
@[simp] theorem sz_13 : sizeT Tryd.prog 13 = some 2 := nr (by kernel_rfl)
@[simp] theorem ag_13 : aggT Tryd.prog 13 = some true := nr (by kernel_rfl)
@[simp] theorem zero_13 : zeroV Tryd.prog 13 = some (.agg [.d (.str []), .d (.int .u64 0)]) := nr (by kernel_rfl)
@[simp] theorem fld_13_0 : fieldOf Tryd.prog 13 0 = some (0, 9) := nr (by kernel_rfl)
@[simp] theorem fld_13_1 : fieldOf Tryd.prog 13 1 = some (1, 12) := nr (by kernel_rfl)
@[simp] theorem pl_13 : placesT Tryd.prog 13 = some (.struct [(0, 1), (1, 1)]) := nr (by kernel_rfl)
@[simp] theorem sz_19 : sizeT Tryd.prog 19 = some 1 := nr (by kernel_rfl)
@[simp] theorem ag_19 : aggT Tryd.prog 19 = some true := nr (by kernel_rfl)
@[simp] theorem zero_19 : zeroV Tryd.prog 19 = some (.agg [.d (.other (.pointer none))]) := nr (by kernel_rfl)
@[simp] theorem fld_19_0 : fieldOf Tryd.prog 19 0 = some (0, 17) := nr (by kernel_rfl)
@[simp] theorem pl_19 : placesT Tryd.prog 19 = some (.struct [(0, 1)]) := nr (by kernel_rfl)
@[simp] theorem sz_20 : sizeT Tryd.prog 20 = some 1 := nr (by kernel_rfl)
@[simp] theorem ag_20 : aggT Tryd.prog 20 = some false := nr (by kernel_rfl)
@[simp] theorem zero_20 : zeroV Tryd.prog 20 = some (.d (.other .nilIface)) := nr (by kernel_rfl)
@[simp] theorem und_21 : Tryd.prog.underlying 21 = some (.int .i32) := nr (by kernel_rfl)
@[simp] theorem sz_21 : sizeT Tryd.prog 21 = some 1 := nr (by kernel_rfl)
@[simp] theorem ag_21 : aggT Tryd.prog 21 = some false := nr (by kernel_rfl)
@[simp] theorem zero_21 : zeroV Tryd.prog 21 = some (.d (.int .i32 0)) := nr (by kernel_rfl)
@[simp] theorem sz_22 : sizeT Tryd.prog 22 = some 1 := nr (by kernel_rfl)
@[simp] theorem ag_22 : aggT Tryd.prog 22 = some false := nr (by kernel_rfl)
@[simp] theorem zero_22 : zeroV Tryd.prog 22 = some (.d (.other .nilFunc)) := nr (by kernel_rfl)
@[simp] theorem sz_23 : sizeT Tryd.prog 23 = some 1 := nr (by kernel_rfl)
@[simp] theorem ag_23 : aggT Tryd.prog 23 = some false := nr (by kernel_rfl)
@[simp] theorem zero_23 : zeroV Tryd.prog 23 = some (.d (.other .nilFunc)) := nr (by kernel_rfl)
@[simp] theorem und_24 : Tryd.prog.underlying 24 = some (.int .i64) := nr (by kernel_rfl)
@[simp] theorem sz_24 : sizeT Tryd.prog 24 = some 1 := nr (by kernel_rfl)
@[simp] theorem ag_24 : aggT Tryd.prog 24 = some false := nr (by kernel_rfl)
@[simp] theorem zero_24 : zeroV Tryd.prog 24 = some (.d (.int .i64 0)) := nr (by kernel_rfl)
@[simp] theorem sz_26 : sizeT Tryd.prog 26 = some 1 := nr (by kernel_rfl)
@[simp] theorem ag_26 : aggT Tryd.prog 26 = some false := nr (by kernel_rfl)
@[simp] theorem zero_26 : zeroV Tryd.prog 26 = some (.d (.other .nilFunc)) := nr (by kernel_rfl)
@[simp] theorem sz_27 : sizeT Tryd.prog 27 = some 1 := nr (by kernel_rfl)
@[simp] theorem ag_27 : aggT Tryd.prog 27 = some false := nr (by kernel_rfl)
@[simp] theorem zero_27 : zeroV Tryd.prog 27 = some (.d (.other .nilFunc)) := nr (by kernel_rfl)
@[simp] theorem sz_28 : sizeT Tryd.prog 28 = some 1 := nr (by kernel_rfl)
@[simp] theorem ag_28 : aggT Tryd.prog 28 = some false := nr (by kernel_rfl)
@[simp] theorem zero_28 : zeroV Tryd.prog 28 = some (.d (.other .nilFunc)) := nr (by kernel_rfl)
@[simp] theorem und_29 : Tryd.prog.underlying 29 = some (.slice 65) := nr (by kernel_rfl)
@[simp] theorem sz_29 : sizeT Tryd.prog 29 = some 1 := nr (by kernel_rfl)
@[simp] theorem ag_29 : aggT Tryd.prog 29 = some false := nr (by kernel_rfl)
@[simp] theorem zero_29 : zeroV Tryd.prog 29 = some (.nil) := nr (by kernel_rfl)
@[simp] theorem app_29 : appT Tryd.prog 29 = some (65, 2) := nr (by kernel_rfl)
@[simp] theorem sz_30 : sizeT Tryd.prog 30 = some 3 := nr (by kernel_rfl)
@[simp] theorem ag_30 : aggT Tryd.prog 30 = some true := nr (by kernel_rfl)
@[simp] theorem zero_30 : zeroV Tryd.prog 30 = some (.agg [.d (.bool false), .nil, .d (.str [])]) := nr (by kernel_rfl)
@[simp] theorem fld_30_0 : fieldOf Tryd.prog 30 0 = some (0, 4) := nr (by kernel_rfl)
@[simp] theorem fld_30_1 : fieldOf Tryd.prog 30 1 = some (1, 29) := nr (by kernel_rfl)
@[simp] theorem fld_30_2 : fieldOf Tryd.prog 30 2 = some (2, 9) := nr (by kernel_rfl)
@[simp] theorem pl_30 : placesT Tryd.prog 30 = some (.struct [(0, 1), (1, 1), (2, 1)]) := nr (by kernel_rfl)
@[simp] theorem sz_31 : sizeT Tryd.prog 31 = some 3 := nr (by kernel_rfl)
@[simp] theorem ag_31 : aggT Tryd.prog 31 = some true := nr (by kernel_rfl)
@[simp] theorem zero_31 : zeroV Tryd.prog 31 = some (.agg [.d (.bool false), .nil, .d (.str [])]) := nr (by kernel_rfl)
@[simp] theorem fld_31_0 : fieldOf Tryd.prog 31 0 = some (0, 4) := nr (by kernel_rfl)
@[simp] theorem fld_31_1 : fieldOf Tryd.prog 31 1 = some (1, 29) := nr (by kernel_rfl)
@[simp] theorem fld_31_2 : fieldOf Tryd.prog 31 2 = some (2, 9) := nr (by kernel_rfl)
@[simp] theorem pl_31 : placesT Tryd.prog 31 = some (.struct [(0, 1), (1, 1), (2, 1)]) := nr (by kernel_rfl)
@[simp] theorem sz_32 : sizeT Tryd.prog 32 = some 1 := nr (by kernel_rfl)
@[simp] theorem ag_32 : aggT Tryd.prog 32 = some false := nr (by kernel_rfl)
@[simp] theorem zero_32 : zeroV Tryd.prog 32 = some (.d (.other .nilFunc)) := nr (by kernel_rfl)
@[simp] theorem und_33 : Tryd.prog.underlying 33 = some (.slice 31) := nr (by kernel_rfl)
@[simp] theorem sz_33 : sizeT Tryd.prog 33 = some 1 := nr (by kernel_rfl)
@[simp] theorem ag_33 : aggT Tryd.prog 33 = some false := nr (by kernel_rfl)
@[simp] theorem zero_33 : zeroV Tryd.prog 33 = some (.nil) := nr (by kernel_rfl)
@[simp] theorem app_33 : appT Tryd.prog 33 = some (31, 3) := nr (by kernel_rfl)
@[simp] theorem sz_35 : sizeT Tryd.prog 35 = some 1 := nr (by kernel_rfl)
@[simp] theorem ag_35 : aggT Tryd.prog 35 = some false := nr (by kernel_rfl)
@[simp] theorem zero_35 : zeroV Tryd.prog 35 = some (.d (.other .nilFunc)) := nr (by kernel_rfl)
@[simp] theorem sz_36 : sizeT Tryd.prog 36 = some 1 := nr (by kernel_rfl)
@[simp] theorem ag_36 : aggT Tryd.prog 36 = some false := nr (by kernel_rfl)
@[simp] theorem zero_36 : zeroV Tryd.prog 36 = some (.d (.other .nilFunc)) := nr (by kernel_rfl)
@[simp] theorem sz_38 : sizeT Tryd.prog 38 = some 1 := nr (by kernel_rfl)
@[simp] theorem ag_38 : aggT Tryd.prog 38 = some false := nr (by kernel_rfl)
@[simp] theorem zero_38 : zeroV Tryd.prog 38 = some (.d (.other .nilFunc)) := nr (by kernel_rfl)
@[simp] theorem sz_39 : sizeT Tryd.prog 39 = some 1 := nr (by kernel_rfl)
@[simp] theorem ag_39 : aggT Tryd.prog 39 = some false := nr (by kernel_rfl)
@[simp] theorem zero_39 : zeroV Tryd.prog 39 = some (.d (.other .nilFunc)) := nr (by kernel_rfl)
@[simp] theorem sz_40 : sizeT Tryd.prog 40 = some 1 := nr (by kernel_rfl)
@[simp] theorem ag_40 : aggT Tryd.prog 40 = some false := nr (by kernel_rfl)
@[simp] theorem zero_40 : zeroV Tryd.prog 40 = some (.d (.other .nilFunc)) := nr (by kernel_rfl)
@[simp] theorem sz_42 : sizeT Tryd.prog 42 = some 1 := nr (by kernel_rfl)
@[simp] theorem ag_42 : aggT Tryd.prog 42 = some false := nr (by kernel_rfl)
@[simp] theorem zero_42 : zeroV Tryd.prog 42 = some (.d (.other .nilFunc)) := nr (by kernel_rfl)
@[simp] theorem sz_43 : sizeT Tryd.prog 43 = some 1 := nr (by kernel_rfl)
@[simp] theorem ag_43 : aggT Tryd.prog 43 = some false := nr (by kernel_rfl)
@[simp] theorem zero_43 : zeroV Tryd.prog 43 = some (.d (.other .nilFunc)) := nr (by kernel_rfl)
@[simp] theorem sz_45 : sizeT Tryd.prog 45 = some 1 := nr (by kernel_rfl)
@[simp] theorem ag_45 : aggT Tryd.prog 45 = some false := nr (by kernel_rfl)
@[simp] theorem zero_45 : zeroV Tryd.prog 45 = some (.d (.other .nilFunc)) := nr (by kernel_rfl)
@[simp] theorem sz_46 : sizeT Tryd.prog 46 = some 1 := nr (by kernel_rfl)
@[simp] theorem ag_46 : aggT Tryd.prog 46 = some false := nr (by kernel_rfl)
@[simp] theorem zero_46 : zeroV Tryd.prog 46 = some (.d (.other .nilFunc)) := nr (by kernel_rfl)
@[simp] theorem und_47 : Tryd.prog.underlying 47 = some (.slice 2) := nr (by kernel_rfl)
@[simp] theorem sz_47 : sizeT Tryd.prog 47 = some 1 := nr (by kernel_rfl)
@[simp] theorem ag_47 : aggT Tryd.prog 47 = some false := nr (by kernel_rfl)
@[simp] theorem zero_47 : zeroV Tryd.prog 47 = some (.nil) := nr (by kernel_rfl)
@[simp] theorem app_47 : appT Tryd.prog 47 = some (2, 1) := nr (by kernel_rfl)
@[simp] theorem sz_48 : sizeT Tryd.prog 48 = some 1 := nr (by kernel_rfl)
@[simp] theorem ag_48 : aggT Tryd.prog 48 = some false := nr (by kernel_rfl)
@[simp] theorem zero_48 : zeroV Tryd.prog 48 = some (.d (.other .nilFunc)) := nr (by kernel_rfl)
@[simp] theorem sz_49 : sizeT Tryd.prog 49 = some 1 := nr (by kernel_rfl)
@[simp] theorem ag_49 : aggT Tryd.prog 49 = some false := nr (by kernel_rfl)
@[simp] theorem zero_49 : zeroV Tryd.prog 49 = some (.d (.other .nilFunc)) := nr (by kernel_rfl)
@[simp] theorem sz_50 : sizeT Tryd.prog 50 = some 1 := nr (by kernel_rfl)
@[simp] theorem ag_50 : aggT Tryd.prog 50 = some false := nr (by kernel_rfl)
@[simp] theorem zero_50 : zeroV Tryd.prog 50 = some (.d (.other .nilFunc)) := nr (by kernel_rfl)
@[simp] theorem und_51 : Tryd.prog.underlying 51 = some (.int .u64) := nr (by kernel_rfl)
@[simp] theorem sz_51 : sizeT Tryd.prog 51 = some 1 := nr (by kernel_rfl)
@[simp] theorem ag_51 : aggT Tryd.prog 51 = some false := nr (by kernel_rfl)
@[simp] theorem zero_51 : zeroV Tryd.prog 51 = some (.d (.int .u64 0)) := nr (by kernel_rfl)
@[simp] theorem sz_52 : sizeT Tryd.prog 52 = some 1 := nr (by kernel_rfl)
@[simp] theorem ag_52 : aggT Tryd.prog 52 = some false := nr (by kernel_rfl)
@[simp] theorem zero_52 : zeroV Tryd.prog 52 = some (.d (.other .nilFunc)) := nr (by kernel_rfl)
@[simp] theorem sz_53 : sizeT Tryd.prog 53 = some 1 := nr (by kernel_rfl)
@[simp] theorem ag_53 : aggT Tryd.prog 53 = some false := nr (by kernel_rfl)
@[simp] theorem zero_53 : zeroV Tryd.prog 53 = some (.d (.other .nilFunc)) := nr (by kernel_rfl)
@[simp] theorem sz_55 : sizeT Tryd.prog 55 = some 1 := nr (by kernel_rfl)
@[simp] theorem ag_55 : aggT Tryd.prog 55 = some false := nr (by kernel_rfl)
@[simp] theorem zero_55 : zeroV Tryd.prog 55 = some (.d (.other .nilFunc)) := nr (by kernel_rfl)
@[simp] theorem sz_57 : sizeT Tryd.prog 57 = some 1 := nr (by kernel_rfl)
@[simp] theorem ag_57 : aggT Tryd.prog 57 = some false := nr (by kernel_rfl)
@[simp] theorem zero_57 : zeroV Tryd.prog 57 = some (.d (.other .nilFunc)) := nr (by kernel_rfl)
@[simp] theorem sz_58 : sizeT Tryd.prog 58 = some 1 := nr (by kernel_rfl)
@[simp] theorem ag_58 : aggT Tryd.prog 58 = some false := nr (by kernel_rfl)
@[simp] theorem zero_58 : zeroV Tryd.prog 58 = some (.d (.other .nilIface)) := nr (by kernel_rfl)
@[simp] theorem sz_59 : sizeT Tryd.prog 59 = some 1 := nr (by kernel_rfl)
@[simp] theorem ag_59 : aggT Tryd.prog 59 = some false := nr (by kernel_rfl)
@[simp] theorem zero_59 : zeroV Tryd.prog 59 = some (.d (.other .nilIface)) := nr (by kernel_rfl)
@[simp] theorem sz_61 : sizeT Tryd.prog 61 = some 1 := nr (by kernel_rfl)
@[simp] theorem ag_61 : aggT Tryd.prog 61 = some false := nr (by kernel_rfl)
@[simp] theorem zero_61 : zeroV Tryd.prog 61 = some (.d (.other .nilFunc)) := nr (by kernel_rfl)
@[simp] theorem sz_62 : sizeT Tryd.prog 62 = some 1 := nr (by kernel_rfl)
@[simp] theorem ag_62 : aggT Tryd.prog 62 = some false := nr (by kernel_rfl)
@[simp] theorem zero_62 : zeroV Tryd.prog 62 = some (.d (.other .nilFunc)) := nr (by kernel_rfl)
@[simp] theorem und_63 : Tryd.prog.underlying 63 = some (.slice 9) := nr (by kernel_rfl)
@[simp] theorem sz_63 : sizeT Tryd.prog 63 = some 1 := nr (by kernel_rfl)
@[simp] theorem ag_63 : aggT Tryd.prog 63 = some false := nr (by kernel_rfl)
@[simp] theorem zero_63 : zeroV Tryd.prog 63 = some (.nil) := nr (by kernel_rfl)
@[simp] theorem app_63 : appT Tryd.prog 63 = some (9, 1) := nr (by kernel_rfl)
@[simp] theorem sz_64 : sizeT Tryd.prog 64 = some 2 := nr (by kernel_rfl)
@[simp] theorem ag_64 : aggT Tryd.prog 64 = some true := nr (by kernel_rfl)
@[simp] theorem zero_64 : zeroV Tryd.prog 64 = some (.agg [.d (.int .u8 0), .d (.int .i64 0)]) := nr (by kernel_rfl)
@[simp] theorem fld_64_0 : fieldOf Tryd.prog 64 0 = some (0, 5) := nr (by kernel_rfl)
@[simp] theorem fld_64_1 : fieldOf Tryd.prog 64 1 = some (1, 2) := nr (by kernel_rfl)
@[simp] theorem pl_64 : placesT Tryd.prog 64 = some (.struct [(0, 1), (1, 1)]) := nr (by kernel_rfl)
@[simp] theorem sz_65 : sizeT Tryd.prog 65 = some 2 := nr (by kernel_rfl)
@[simp] theorem ag_65 : aggT Tryd.prog 65 = some true := nr (by kernel_rfl)
@[simp] theorem zero_65 : zeroV Tryd.prog 65 = some (.agg [.d (.int .u8 0), .d (.int .i64 0)]) := nr (by kernel_rfl)
@[simp] theorem fld_65_0 : fieldOf Tryd.prog 65 0 = some (0, 5) := nr (by kernel_rfl)
@[simp] theorem fld_65_1 : fieldOf Tryd.prog 65 1 = some (1, 2) := nr (by kernel_rfl)
@[simp] theorem pl_65 : placesT Tryd.prog 65 = some (.struct [(0, 1), (1, 1)]) := nr (by kernel_rfl)
@[simp] theorem sz_66 : sizeT Tryd.prog 66 = some 1 := nr (by kernel_rfl)
@[simp] theorem ag_66 : aggT Tryd.prog 66 = some false := nr (by kernel_rfl)
@[simp] theorem zero_66 : zeroV Tryd.prog 66 = some (.d (.other .nilFunc)) := nr (by kernel_rfl)
@[simp] theorem sz_67 : sizeT Tryd.prog 67 = some 1 := nr (by kernel_rfl)
@[simp] theorem ag_67 : aggT Tryd.prog 67 = some false := nr (by kernel_rfl)
@[simp] theorem zero_67 : zeroV Tryd.prog 67 = some (.d (.other .nilFunc)) := nr (by kernel_rfl)
@[simp] theorem und_68 : Tryd.prog.underlying 68 = some (.slice 5) := nr (by kernel_rfl)
@[simp] theorem sz_68 : sizeT Tryd.prog 68 = some 1 := nr (by kernel_rfl)
@[simp] theorem ag_68 : aggT Tryd.prog 68 = some false := nr (by kernel_rfl)
@[simp] theorem zero_68 : zeroV Tryd.prog 68 = some (.nil) := nr (by kernel_rfl)
@[simp] theorem app_68 : appT Tryd.prog 68 = some (5, 1) := nr (by kernel_rfl)
@[simp] theorem sz_69 : sizeT Tryd.prog 69 = some 1 := nr (by kernel_rfl)
@[simp] theorem ag_69 : aggT Tryd.prog 69 = some false := nr (by kernel_rfl)
@[simp] theorem zero_69 : zeroV Tryd.prog 69 = some (.d (.other .nilFunc)) := nr (by kernel_rfl)
@[simp] theorem sz_70 : sizeT Tryd.prog 70 = some 5 := nr (by kernel_rfl)
@[simp] theorem ag_70 : aggT Tryd.prog 70 = some true := nr (by kernel_rfl)
@[simp] theorem zero_70 : zeroV Tryd.prog 70 = some (.agg [.d (.str []), .d (.int .i64 0), .d (.bool false), .nil, .d (.str [])]) := nr (by kernel_rfl)
@[simp] theorem fld_70_0 : fieldOf Tryd.prog 70 0 = some (0, 9) := nr (by kernel_rfl)
@[simp] theorem fld_70_1 : fieldOf Tryd.prog 70 1 = some (1, 3) := nr (by kernel_rfl)
@[simp] theorem fld_70_2 : fieldOf Tryd.prog 70 2 = some (2, 31) := nr (by kernel_rfl)
@[simp] theorem pl_70 : placesT Tryd.prog 70 = some (.struct [(0, 1), (1, 1), (2, 3)]) := nr (by kernel_rfl)
@[simp] theorem sz_71 : sizeT Tryd.prog 71 = some 5 := nr (by kernel_rfl)
@[simp] theorem ag_71 : aggT Tryd.prog 71 = some true := nr (by kernel_rfl)
@[simp] theorem zero_71 : zeroV Tryd.prog 71 = some (.agg [.d (.str []), .d (.int .i64 0), .d (.bool false), .nil, .d (.str [])]) := nr (by kernel_rfl)
@[simp] theorem fld_71_0 : fieldOf Tryd.prog 71 0 = some (0, 9) := nr (by kernel_rfl)
@[simp] theorem fld_71_1 : fieldOf Tryd.prog 71 1 = some (1, 3) := nr (by kernel_rfl)
@[simp] theorem fld_71_2 : fieldOf Tryd.prog 71 2 = some (2, 31) := nr (by kernel_rfl)
@[simp] theorem pl_71 : placesT Tryd.prog 71 = some (.struct [(0, 1), (1, 1), (2, 3)]) := nr (by kernel_rfl)
@[simp] theorem sz_72 : sizeT Tryd.prog 72 = some 1 := nr (by kernel_rfl)
@[simp] theorem ag_72 : aggT Tryd.prog 72 = some false := nr (by kernel_rfl)
@[simp] theorem zero_72 : zeroV Tryd.prog 72 = some (.d (.other .nilFunc)) := nr (by kernel_rfl)
@[simp] theorem sz_74 : sizeT Tryd.prog 74 = some 1 := nr (by kernel_rfl)
@[simp] theorem ag_74 : aggT Tryd.prog 74 = some false := nr (by kernel_rfl)
@[simp] theorem zero_74 : zeroV Tryd.prog 74 = some (.d (.other .nilFunc)) := nr (by kernel_rfl)
@[simp] theorem sz_75 : sizeT Tryd.prog 75 = some 1 := nr (by kernel_rfl)
@[simp] theorem ag_75 : aggT Tryd.prog 75 = some false := nr (by kernel_rfl)
@[simp] theorem zero_75 : zeroV Tryd.prog 75 = some (.d (.other .nilFunc)) := nr (by kernel_rfl)
@[simp] theorem sz_76 : sizeT Tryd.prog 76 = some 1 := nr (by kernel_rfl)
@[simp] theorem ag_76 : aggT Tryd.prog 76 = some false := nr (by kernel_rfl)
@[simp] theorem zero_76 : zeroV Tryd.prog 76 = some (.d (.other .nilFunc)) := nr (by kernel_rfl)
@[simp] theorem und_77 : Tryd.prog.underlying 77 = some (.array 256 4) := nr (by kernel_rfl)
@[simp] theorem sz_77 : sizeT Tryd.prog 77 = some 256 := nr (by kernel_rfl)
@[simp] theorem ag_77 : aggT Tryd.prog 77 = some true := nr (by kernel_rfl)
@[simp] theorem pl_77 : placesT Tryd.prog 77 = some (.array 1) := nr (by kernel_rfl)
@[simp] theorem und_78 : Tryd.prog.underlying 78 = some (.array 256 4) := nr (by kernel_rfl)
@[simp] theorem sz_78 : sizeT Tryd.prog 78 = some 256 := nr (by kernel_rfl)
@[simp] theorem ag_78 : aggT Tryd.prog 78 = some true := nr (by kernel_rfl)
@[simp] theorem pl_78 : placesT Tryd.prog 78 = some (.array 1) := nr (by kernel_rfl)
@[simp] theorem sz_80 : sizeT Tryd.prog 80 = some 1 := nr (by kernel_rfl)
@[simp] theorem ag_80 : aggT Tryd.prog 80 = some false := nr (by kernel_rfl)
@[simp] theorem zero_80 : zeroV Tryd.prog 80 = some (.d (.other .nilFunc)) := nr (by kernel_rfl)
@[simp] theorem sz_81 : sizeT Tryd.prog 81 = some 1 := nr (by kernel_rfl)
@[simp] theorem ag_81 : aggT Tryd.prog 81 = some false := nr (by kernel_rfl)
@[simp] theorem zero_81 : zeroV Tryd.prog 81 = some (.d (.other .nilFunc)) := nr (by kernel_rfl)
@[simp] theorem und_82 : Tryd.prog.underlying 82 = some (.pointer 78) := nr (by kernel_rfl)
@[simp] theorem sz_82 : sizeT Tryd.prog 82 = some 1 := nr (by kernel_rfl)
@[simp] theorem ag_82 : aggT Tryd.prog 82 = some false := nr (by kernel_rfl)
@[simp] theorem zero_82 : zeroV Tryd.prog 82 = some (.d (.other (.pointer none))) := nr (by kernel_rfl)
@[simp] theorem sz_83 : sizeT Tryd.prog 83 = some 1 := nr (by kernel_rfl)
@[simp] theorem ag_83 : aggT Tryd.prog 83 = some false := nr (by kernel_rfl)
@[simp] theorem zero_83 : zeroV Tryd.prog 83 = some (.d (.other .nilFunc)) := nr (by kernel_rfl)
@[simp] theorem und_84 : Tryd.prog.underlying 84 = some (.pointer 86) := nr (by kernel_rfl)
@[simp] theorem sz_84 : sizeT Tryd.prog 84 = some 1 := nr (by kernel_rfl)
@[simp] theorem ag_84 : aggT Tryd.prog 84 = some false := nr (by kernel_rfl)
@[simp] theorem zero_84 : zeroV Tryd.prog 84 = some (.d (.other (.pointer none))) := nr (by kernel_rfl)
@[simp] theorem sz_85 : sizeT Tryd.prog 85 = some 2 := nr (by kernel_rfl)
@[simp] theorem ag_85 : aggT Tryd.prog 85 = some true := nr (by kernel_rfl)
@[simp] theorem zero_85 : zeroV Tryd.prog 85 = some (.agg [.d (.other (.pointer none)), .nil]) := nr (by kernel_rfl)
@[simp] theorem fld_85_0 : fieldOf Tryd.prog 85 0 = some (0, 84) := nr (by kernel_rfl)
@[simp] theorem fld_85_1 : fieldOf Tryd.prog 85 1 = some (1, 68) := nr (by kernel_rfl)
@[simp] theorem pl_85 : placesT Tryd.prog 85 = some (.struct [(0, 1), (1, 1)]) := nr (by kernel_rfl)
@[simp] theorem sz_86 : sizeT Tryd.prog 86 = some 2 := nr (by kernel_rfl)
@[simp] theorem ag_86 : aggT Tryd.prog 86 = some true := nr (by kernel_rfl)
@[simp] theorem zero_86 : zeroV Tryd.prog 86 = some (.agg [.d (.other (.pointer none)), .nil]) := nr (by kernel_rfl)
@[simp] theorem fld_86_0 : fieldOf Tryd.prog 86 0 = some (0, 84) := nr (by kernel_rfl)
@[simp] theorem fld_86_1 : fieldOf Tryd.prog 86 1 = some (1, 68) := nr (by kernel_rfl)
@[simp] theorem pl_86 : placesT Tryd.prog 86 = some (.struct [(0, 1), (1, 1)]) := nr (by kernel_rfl)
@[simp] theorem sz_87 : sizeT Tryd.prog 87 = some 1 := nr (by kernel_rfl)
@[simp] theorem ag_87 : aggT Tryd.prog 87 = some false := nr (by kernel_rfl)
@[simp] theorem zero_87 : zeroV Tryd.prog 87 = some (.d (.other .nilFunc)) := nr (by kernel_rfl)
@[simp] theorem sz_89 : sizeT Tryd.prog 89 = some 1 := nr (by kernel_rfl)
@[simp] theorem ag_89 : aggT Tryd.prog 89 = some false := nr (by kernel_rfl)
@[simp] theorem zero_89 : zeroV Tryd.prog 89 = some (.d (.other .nilFunc)) := nr (by kernel_rfl)
@[simp] theorem sz_90 : sizeT Tryd.prog 90 = some 1 := nr (by kernel_rfl)
@[simp] theorem ag_90 : aggT Tryd.prog 90 = some false := nr (by kernel_rfl)
@[simp] theorem zero_90 : zeroV Tryd.prog 90 = some (.d (.other .nilFunc)) := nr (by kernel_rfl)
@[simp] theorem und_91 : Tryd.prog.underlying 91 = some (.pointer 71) := nr (by kernel_rfl)
@[simp] theorem sz_91 : sizeT Tryd.prog 91 = some 1 := nr (by kernel_rfl)
@[simp] theorem ag_91 : aggT Tryd.prog 91 = some false := nr (by kernel_rfl)
@[simp] theorem zero_91 : zeroV Tryd.prog 91 = some (.d (.other (.pointer none))) := nr (by kernel_rfl)
@[simp] theorem sz_92 : sizeT Tryd.prog 92 = some 1 := nr (by kernel_rfl)
@[simp] theorem ag_92 : aggT Tryd.prog 92 = some false := nr (by kernel_rfl)
@[simp] theorem zero_92 : zeroV Tryd.prog 92 = some (.d (.other .nilFunc)) := nr (by kernel_rfl)
@[simp] theorem und_93 : Tryd.prog.underlying 93 = some (.array 24 5) := nr (by kernel_rfl)
@[simp] theorem sz_93 : sizeT Tryd.prog 93 = some 24 := nr (by kernel_rfl)
@[simp] theorem ag_93 : aggT Tryd.prog 93 = some true := nr (by kernel_rfl)
@[simp] theorem zero_93 : zeroV Tryd.prog 93 = some (.agg [.d (.int .u8 0), .d (.int .u8 0), .d (.int .u8 0), .d (.int .u8 0), .d (.int .u8 0), .d (.int .u8 0), .d (.int .u8 0), .d (.int .u8 0), .d (.int .u8 0), .d (.int .u8 0), .d (.int .u8 0), .d (.int .u8 0), .d (.int .u8 0), .d (.int .u8 0), .d (.int .u8 0), .d (.int .u8 0), .d (.int .u8 0), .d (.int .u8 0), .d (.int .u8 0), .d (.int .u8 0), .d (.int .u8 0), .d (.int .u8 0), .d (.int .u8 0), .d (.int .u8 0)]) := nr (by kernel_rfl)
@[simp] theorem pl_93 : placesT Tryd.prog 93 = some (.array 1) := nr (by kernel_rfl)
@[simp] theorem sz_94 : sizeT Tryd.prog 94 = some 1 := nr (by kernel_rfl)
@[simp] theorem ag_94 : aggT Tryd.prog 94 = some false := nr (by kernel_rfl)
@[simp] theorem zero_94 : zeroV Tryd.prog 94 = some (.d (.other .nilFunc)) := nr (by kernel_rfl)
@[simp] theorem sz_95 : sizeT Tryd.prog 95 = some 1 := nr (by kernel_rfl)
@[simp] theorem ag_95 : aggT Tryd.prog 95 = some false := nr (by kernel_rfl)
@[simp] theorem zero_95 : zeroV Tryd.prog 95 = some (.d (.other .nilFunc)) := nr (by kernel_rfl)
@[simp] theorem sz_97 : sizeT Tryd.prog 97 = some 1 := nr (by kernel_rfl)
@[simp] theorem ag_97 : aggT Tryd.prog 97 = some false := nr (by kernel_rfl)
@[simp] theorem zero_97 : zeroV Tryd.prog 97 = some (.d (.other .nilFunc)) := nr (by kernel_rfl)
@[simp] theorem sz_99 : sizeT Tryd.prog 99 = some 1 := nr (by kernel_rfl)
@[simp] theorem ag_99 : aggT Tryd.prog 99 = some false := nr (by kernel_rfl)
@[simp] theorem zero_99 : zeroV Tryd.prog 99 = some (.d (.other .nilFunc)) := nr (by kernel_rfl)
@[simp] theorem sz_100 : sizeT Tryd.prog 100 = some 1 := nr (by kernel_rfl)
@[simp] theorem ag_100 : aggT Tryd.prog 100 = some false := nr (by kernel_rfl)
@[simp] theorem zero_100 : zeroV Tryd.prog 100 = some (.d (.other .nilFunc)) := nr (by kernel_rfl)
@[simp] theorem sz_101 : sizeT Tryd.prog 101 = some 1 := nr (by kernel_rfl)
@[simp] theorem ag_101 : aggT Tryd.prog 101 = some false := nr (by kernel_rfl)
@[simp] theorem zero_101 : zeroV Tryd.prog 101 = some (.d (.other .nilFunc)) := nr (by kernel_rfl)
@[simp] theorem sz_102 : sizeT Tryd.prog 102 = some 1 := nr (by kernel_rfl)
@[simp] theorem ag_102 : aggT Tryd.prog 102 = some false := nr (by kernel_rfl)
@[simp] theorem zero_102 : zeroV Tryd.prog 102 = some (.d (.other .nilFunc)) := nr (by kernel_rfl)
@[simp] theorem und_103 : Tryd.prog.underlying 103 = some (.int .i64) := nr (by kernel_rfl)
@[simp] theorem sz_103 : sizeT Tryd.prog 103 = some 1 := nr (by kernel_rfl)
@[simp] theorem ag_103 : aggT Tryd.prog 103 = some false := nr (by kernel_rfl)
@[simp] theorem zero_103 : zeroV Tryd.prog 103 = some (.d (.int .i64 0)) := nr (by kernel_rfl)
@[simp] theorem sz_105 : sizeT Tryd.prog 105 = some 1 := nr (by kernel_rfl)
@[simp] theorem ag_105 : aggT Tryd.prog 105 = some false := nr (by kernel_rfl)
@[simp] theorem zero_105 : zeroV Tryd.prog 105 = some (.d (.other .nilFunc)) := nr (by kernel_rfl)
@[simp] theorem und_106 : Tryd.prog.underlying 106 = some (.int .u64) := nr (by kernel_rfl)
@[simp] theorem sz_106 : sizeT Tryd.prog 106 = some 1 := nr (by kernel_rfl)
@[simp] theorem ag_106 : aggT Tryd.prog 106 = some false := nr (by kernel_rfl)
@[simp] theorem zero_106 : zeroV Tryd.prog 106 = some (.d (.int .u64 0)) := nr (by kernel_rfl)
@[simp] theorem und_107 : Tryd.prog.underlying 107 = some (.pointer 123) := nr (by kernel_rfl)
@[simp] theorem sz_107 : sizeT Tryd.prog 107 = some 1 := nr (by kernel_rfl)
@[simp] theorem ag_107 : aggT Tryd.prog 107 = some false := nr (by kernel_rfl)
@[simp] theorem zero_107 : zeroV Tryd.prog 107 = some (.d (.other (.pointer none))) := nr (by kernel_rfl)
@[simp] theorem sz_108 : sizeT Tryd.prog 108 = some 1 := nr (by kernel_rfl)
@[simp] theorem ag_108 : aggT Tryd.prog 108 = some false := nr (by kernel_rfl)
@[simp] theorem zero_108 : zeroV Tryd.prog 108 = some (.d (.other .nilFunc)) := nr (by kernel_rfl)
@[simp] theorem sz_109 : sizeT Tryd.prog 109 = some 1 := nr (by kernel_rfl)
@[simp] theorem ag_109 : aggT Tryd.prog 109 = some false := nr (by kernel_rfl)
@[simp] theorem zero_109 : zeroV Tryd.prog 109 = some (.d (.other .nilFunc)) := nr (by kernel_rfl)
@[simp] theorem und_110 : Tryd.prog.underlying 110 = some (.pointer 5) := nr (by kernel_rfl)
@[simp] theorem sz_110 : sizeT Tryd.prog 110 = some 1 := nr (by kernel_rfl)
@[simp] theorem ag_110 : aggT Tryd.prog 110 = some false := nr (by kernel_rfl)
@[simp] theorem zero_110 : zeroV Tryd.prog 110 = some (.d (.other (.pointer none))) := nr (by kernel_rfl)
@[simp] theorem sz_111 : sizeT Tryd.prog 111 = some 1 := nr (by kernel_rfl)
@[simp] theorem ag_111 : aggT Tryd.prog 111 = some false := nr (by kernel_rfl)
@[simp] theorem zero_111 : zeroV Tryd.prog 111 = some (.d (.other .nilFunc)) := nr (by kernel_rfl)
@[simp] theorem sz_112 : sizeT Tryd.prog 112 = some 1 := nr (by kernel_rfl)
@[simp] theorem ag_112 : aggT Tryd.prog 112 = some false := nr (by kernel_rfl)
@[simp] theorem zero_112 : zeroV Tryd.prog 112 = some (.d (.other .nilFunc)) := nr (by kernel_rfl)
@[simp] theorem und_113 : Tryd.prog.underlying 113 = some (.array 20 51) := nr (by kernel_rfl)
@[simp] theorem sz_113 : sizeT Tryd.prog 113 = some 20 := nr (by kernel_rfl)
@[simp] theorem ag_113 : aggT Tryd.prog 113 = some true := nr (by kernel_rfl)
@[simp] theorem zero_113 : zeroV Tryd.prog 113 = some (.agg [.d (.int .u64 0), .d (.int .u64 0), .d (.int .u64 0), .d (.int .u64 0), .d (.int .u64 0), .d (.int .u64 0), .d (.int .u64 0), .d (.int .u64 0), .d (.int .u64 0), .d (.int .u64 0), .d (.int .u64 0), .d (.int .u64 0), .d (.int .u64 0), .d (.int .u64 0), .d (.int .u64 0), .d (.int .u64 0), .d (.int .u64 0), .d (.int .u64 0), .d (.int .u64 0), .d (.int .u64 0)]) := nr (by kernel_rfl)
@[simp] theorem pl_113 : placesT Tryd.prog 113 = some (.array 1) := nr (by kernel_rfl)
@[simp] theorem und_114 : Tryd.prog.underlying 114 = some (.int .u32) := nr (by kernel_rfl)
@[simp] theorem sz_114 : sizeT Tryd.prog 114 = some 1 := nr (by kernel_rfl)
@[simp] theorem ag_114 : aggT Tryd.prog 114 = some false := nr (by kernel_rfl)
@[simp] theorem zero_114 : zeroV Tryd.prog 114 = some (.d (.int .u32 0)) := nr (by kernel_rfl)
@[simp] theorem und_115 : Tryd.prog.underlying 115 = some (.array 65 5) := nr (by kernel_rfl)
@[simp] theorem sz_115 : sizeT Tryd.prog 115 = some 65 := nr (by kernel_rfl)
@[simp] theorem ag_115 : aggT Tryd.prog 115 = some true := nr (by kernel_rfl)
@[simp] theorem pl_115 : placesT Tryd.prog 115 = some (.array 1) := nr (by kernel_rfl)
@[simp] theorem sz_116 : sizeT Tryd.prog 116 = some 1 := nr (by kernel_rfl)
@[simp] theorem ag_116 : aggT Tryd.prog 116 = some false := nr (by kernel_rfl)
@[simp] theorem zero_116 : zeroV Tryd.prog 116 = some (.d (.other .nilFunc)) := nr (by kernel_rfl)
@[simp] theorem sz_117 : sizeT Tryd.prog 117 = some 1 := nr (by kernel_rfl)
@[simp] theorem ag_117 : aggT Tryd.prog 117 = some false := nr (by kernel_rfl)
@[simp] theorem zero_117 : zeroV Tryd.prog 117 = some (.d (.other .nilFunc)) := nr (by kernel_rfl)
@[simp] theorem sz_118 : sizeT Tryd.prog 118 = some 1 := nr (by kernel_rfl)
@[simp] theorem ag_118 : aggT Tryd.prog 118 = some false := nr (by kernel_rfl)
@[simp] theorem zero_118 : zeroV Tryd.prog 118 = some (.d (.other .nilFunc)) := nr (by kernel_rfl)
@[simp] theorem sz_119 : sizeT Tryd.prog 119 = some 1 := nr (by kernel_rfl)
@[simp] theorem ag_119 : aggT Tryd.prog 119 = some false := nr (by kernel_rfl)
@[simp] theorem zero_119 : zeroV Tryd.prog 119 = some (.d (.other .nilFunc)) := nr (by kernel_rfl)
@[simp] theorem sz_120 : sizeT Tryd.prog 120 = some 1 := nr (by kernel_rfl)
@[simp] theorem ag_120 : aggT Tryd.prog 120 = some false := nr (by kernel_rfl)
@[simp] theorem zero_120 : zeroV Tryd.prog 120 = some (.d (.other .nilFunc)) := nr (by kernel_rfl)
@[simp] theorem sz_121 : sizeT Tryd.prog 121 = some 1 := nr (by kernel_rfl)
@[simp] theorem ag_121 : aggT Tryd.prog 121 = some false := nr (by kernel_rfl)
@[simp] theorem zero_121 : zeroV Tryd.prog 121 = some (.d (.other .nilFunc)) := nr (by kernel_rfl)
@[simp] theorem sz_122 : sizeT Tryd.prog 122 = some 3 := nr (by kernel_rfl)
@[simp] theorem ag_122 : aggT Tryd.prog 122 = some true := nr (by kernel_rfl)
@[simp] theorem zero_122 : zeroV Tryd.prog 122 = some (.agg [.d (.str []), .d (.str []), .d (.other .nilIface)]) := nr (by kernel_rfl)
@[simp] theorem fld_122_0 : fieldOf Tryd.prog 122 0 = some (0, 9) := nr (by kernel_rfl)
@[simp] theorem fld_122_1 : fieldOf Tryd.prog 122 1 = some (1, 9) := nr (by kernel_rfl)
@[simp] theorem fld_122_2 : fieldOf Tryd.prog 122 2 = some (2, 59) := nr (by kernel_rfl)
@[simp] theorem pl_122 : placesT Tryd.prog 122 = some (.struct [(0, 1), (1, 1), (2, 1)]) := nr (by kernel_rfl)
@[simp] theorem sz_123 : sizeT Tryd.prog 123 = some 3 := nr (by kernel_rfl)
@[simp] theorem ag_123 : aggT Tryd.prog 123 = some true := nr (by kernel_rfl)
@[simp] theorem zero_123 : zeroV Tryd.prog 123 = some (.agg [.d (.str []), .d (.str []), .d (.other .nilIface)]) := nr (by kernel_rfl)
@[simp] theorem fld_123_0 : fieldOf Tryd.prog 123 0 = some (0, 9) := nr (by kernel_rfl)
@[simp] theorem fld_123_1 : fieldOf Tryd.prog 123 1 = some (1, 9) := nr (by kernel_rfl)
@[simp] theorem fld_123_2 : fieldOf Tryd.prog 123 2 = some (2, 59) := nr (by kernel_rfl)
@[simp] theorem pl_123 : placesT Tryd.prog 123 = some (.struct [(0, 1), (1, 1), (2, 1)]) := nr (by kernel_rfl)
@[simp] theorem sz_124 : sizeT Tryd.prog 124 = some 1 := nr (by kernel_rfl)
@[simp] theorem ag_124 : aggT Tryd.prog 124 = some false := nr (by kernel_rfl)
@[simp] theorem zero_124 : zeroV Tryd.prog 124 = some (.d (.other .nilFunc)) := nr (by kernel_rfl)
@[simp] theorem sz_127 : sizeT Tryd.prog 127 = some 1 := nr (by kernel_rfl)
@[simp] theorem ag_127 : aggT Tryd.prog 127 = some false := nr (by kernel_rfl)
@[simp] theorem zero_127 : zeroV Tryd.prog 127 = some (.d (.other .nilFunc)) := nr (by kernel_rfl)
@[simp] theorem sz_128 : sizeT Tryd.prog 128 = some 1 := nr (by kernel_rfl)
@[simp] theorem ag_128 : aggT Tryd.prog 128 = some false := nr (by kernel_rfl)
@[simp] theorem zero_128 : zeroV Tryd.prog 128 = some (.d (.other .nilFunc)) := nr (by kernel_rfl)
@[simp] theorem sz_129 : sizeT Tryd.prog 129 = some 1 := nr (by kernel_rfl)
@[simp] theorem ag_129 : aggT Tryd.prog 129 = some false := nr (by kernel_rfl)
@[simp] theorem zero_129 : zeroV Tryd.prog 129 = some (.d (.other .nilFunc)) := nr (by kernel_rfl)
@[simp] theorem sz_131 : sizeT Tryd.prog 131 = some 1 := nr (by kernel_rfl)
@[simp] theorem ag_131 : aggT Tryd.prog 131 = some false := nr (by kernel_rfl)
@[simp] theorem zero_131 : zeroV Tryd.prog 131 = some (.d (.other .nilFunc)) := nr (by kernel_rfl)
@[simp] theorem und_132 : Tryd.prog.underlying 132 = some (.pointer 134) := nr (by kernel_rfl)
@[simp] theorem sz_132 : sizeT Tryd.prog 132 = some 1 := nr (by kernel_rfl)
@[simp] theorem ag_132 : aggT Tryd.prog 132 = some false := nr (by kernel_rfl)
@[simp] theorem zero_132 : zeroV Tryd.prog 132 = some (.d (.other (.pointer none))) := nr (by kernel_rfl)
@[simp] theorem sz_133 : sizeT Tryd.prog 133 = some 1 := nr (by kernel_rfl)
@[simp] theorem ag_133 : aggT Tryd.prog 133 = some true := nr (by kernel_rfl)
@[simp] theorem zero_133 : zeroV Tryd.prog 133 = some (.agg [.d (.str [])]) := nr (by kernel_rfl)
@[simp] theorem fld_133_0 : fieldOf Tryd.prog 133 0 = some (0, 9) := nr (by kernel_rfl)
@[simp] theorem pl_133 : placesT Tryd.prog 133 = some (.struct [(0, 1)]) := nr (by kernel_rfl)
@[simp] theorem sz_134 : sizeT Tryd.prog 134 = some 1 := nr (by kernel_rfl)
@[simp] theorem ag_134 : aggT Tryd.prog 134 = some true := nr (by kernel_rfl)
@[simp] theorem zero_134 : zeroV Tryd.prog 134 = some (.agg [.d (.str [])]) := nr (by kernel_rfl)
@[simp] theorem fld_134_0 : fieldOf Tryd.prog 134 0 = some (0, 9) := nr (by kernel_rfl)
@[simp] theorem pl_134 : placesT Tryd.prog 134 = some (.struct [(0, 1)]) := nr (by kernel_rfl)
@[simp] theorem und_135 : Tryd.prog.underlying 135 = some (.array 32 5) := nr (by kernel_rfl)
@[simp] theorem sz_135 : sizeT Tryd.prog 135 = some 32 := nr (by kernel_rfl)
@[simp] theorem ag_135 : aggT Tryd.prog 135 = some true := nr (by kernel_rfl)
@[simp] theorem zero_135 : zeroV Tryd.prog 135 = some (.agg [.d (.int .u8 0), .d (.int .u8 0), .d (.int .u8 0), .d (.int .u8 0), .d (.int .u8 0), .d (.int .u8 0), .d (.int .u8 0), .d (.int .u8 0), .d (.int .u8 0), .d (.int .u8 0), .d (.int .u8 0), .d (.int .u8 0), .d (.int .u8 0), .d (.int .u8 0), .d (.int .u8 0), .d (.int .u8 0), .d (.int .u8 0), .d (.int .u8 0), .d (.int .u8 0), .d (.int .u8 0), .d (.int .u8 0), .d (.int .u8 0), .d (.int .u8 0), .d (.int .u8 0), .d (.int .u8 0), .d (.int .u8 0), .d (.int .u8 0), .d (.int .u8 0), .d (.int .u8 0), .d (.int .u8 0), .d (.int .u8 0), .d (.int .u8 0)]) := nr (by kernel_rfl)
@[simp] theorem pl_135 : placesT Tryd.prog 135 = some (.array 1) := nr (by kernel_rfl)
@[simp] theorem und_136 : Tryd.prog.underlying 136 = some (.array 64 5) := nr (by kernel_rfl)
@[simp] theorem sz_136 : sizeT Tryd.prog 136 = some 64 := nr (by kernel_rfl)
@[simp] theorem ag_136 : aggT Tryd.prog 136 = some true := nr (by kernel_rfl)
@[simp] theorem pl_136 : placesT Tryd.prog 136 = some (.array 1) := nr (by kernel_rfl)
@[simp] theorem und_137 : Tryd.prog.underlying 137 = some (.array 256 5) := nr (by kernel_rfl)
@[simp] theorem sz_137 : sizeT Tryd.prog 137 = some 256 := nr (by kernel_rfl)
@[simp] theorem ag_137 : aggT Tryd.prog 137 = some true := nr (by kernel_rfl)
@[simp] theorem pl_137 : placesT Tryd.prog 137 = some (.array 1) := nr (by kernel_rfl)
@[simp] theorem sz_138 : sizeT Tryd.prog 138 = some 2 := nr (by kernel_rfl)
@[simp] theorem ag_138 : aggT Tryd.prog 138 = some true := nr (by kernel_rfl)
@[simp] theorem zero_138 : zeroV Tryd.prog 138 = some (.agg [.d (.int .u8 0), .d (.int .u8 0)]) := nr (by kernel_rfl)
@[simp] theorem fld_138_0 : fieldOf Tryd.prog 138 0 = some (0, 5) := nr (by kernel_rfl)
@[simp] theorem fld_138_1 : fieldOf Tryd.prog 138 1 = some (1, 5) := nr (by kernel_rfl)
@[simp] theorem pl_138 : placesT Tryd.prog 138 = some (.struct [(0, 1), (1, 1)]) := nr (by kernel_rfl)
@[simp] theorem sz_139 : sizeT Tryd.prog 139 = some 2 := nr (by kernel_rfl)
@[simp] theorem ag_139 : aggT Tryd.prog 139 = some true := nr (by kernel_rfl)
@[simp] theorem zero_139 : zeroV Tryd.prog 139 = some (.agg [.d (.int .u8 0), .d (.int .u8 0)]) := nr (by kernel_rfl)
@[simp] theorem fld_139_0 : fieldOf Tryd.prog 139 0 = some (0, 5) := nr (by kernel_rfl)
@[simp] theorem fld_139_1 : fieldOf Tryd.prog 139 1 = some (1, 5) := nr (by kernel_rfl)
@[simp] theorem pl_139 : placesT Tryd.prog 139 = some (.struct [(0, 1), (1, 1)]) := nr (by kernel_rfl)
@[simp] theorem und_140 : Tryd.prog.underlying 140 = some (.array 16 139) := nr (by kernel_rfl)
@[simp] theorem sz_140 : sizeT Tryd.prog 140 = some 32 := nr (by kernel_rfl)
@[simp] theorem ag_140 : aggT Tryd.prog 140 = some true := nr (by kernel_rfl)
@[simp] theorem zero_140 : zeroV Tryd.prog 140 = some (.agg [.d (.int .u8 0), .d (.int .u8 0), .d (.int .u8 0), .d (.int .u8 0), .d (.int .u8 0), .d (.int .u8 0), .d (.int .u8 0), .d (.int .u8 0), .d (.int .u8 0), .d (.int .u8 0), .d (.int .u8 0), .d (.int .u8 0), .d (.int .u8 0), .d (.int .u8 0), .d (.int .u8 0), .d (.int .u8 0), .d (.int .u8 0), .d (.int .u8 0), .d (.int .u8 0), .d (.int .u8 0), .d (.int .u8 0), .d (.int .u8 0), .d (.int .u8 0), .d (.int .u8 0), .d (.int .u8 0), .d (.int .u8 0), .d (.int .u8 0), .d (.int .u8 0), .d (.int .u8 0), .d (.int .u8 0), .d (.int .u8 0), .d (.int .u8 0)]) := nr (by kernel_rfl)
@[simp] theorem pl_140 : placesT Tryd.prog 140 = some (.array 2) := nr (by kernel_rfl)
@[simp] theorem sz_141 : sizeT Tryd.prog 141 = some 1 := nr (by kernel_rfl)
@[simp] theorem ag_141 : aggT Tryd.prog 141 = some false := nr (by kernel_rfl)
@[simp] theorem zero_141 : zeroV Tryd.prog 141 = some (.d (.other .nilFunc)) := nr (by kernel_rfl)
@[simp] theorem sz_147 : sizeT Tryd.prog 147 = some 1 := nr (by kernel_rfl)
@[simp] theorem ag_147 : aggT Tryd.prog 147 = some false := nr (by kernel_rfl)
@[simp] theorem zero_147 : zeroV Tryd.prog 147 = some (.d (.other .nilFunc)) := nr (by kernel_rfl)
theorem eq_65 : EqOk Tryd.prog 65 [.int .u8, .int .i64] := by
  refine ⟨by kernel_rfl, fun xs ys hx hy w => ?_⟩
  obtain ⟨xa0, ra0, ea0, ka0, hx0⟩ := kinds_cons hx
  obtain ⟨a0, rfl⟩ := kind_int ka0
  obtain ⟨xa1, ra1, ea1, ka1, hx1⟩ := kinds_cons hx0
  obtain ⟨a1, rfl⟩ := kind_int ka1
  have za := kinds_nil hx1
  subst za
  subst ea1
  subst ea0
  obtain ⟨xb0, rb0, eb0, kb0, hy0⟩ := kinds_cons hy
  obtain ⟨b0, rfl⟩ := kind_int kb0
  obtain ⟨xb1, rb1, eb1, kb1, hy1⟩ := kinds_cons hy0
  obtain ⟨b1, rfl⟩ := kind_int kb1
  have zb := kinds_nil hy1
  subst zb
  subst eb1
  subst eb0
  have hS : Tryd.prog.underlying 65 = some (.struct (Tryd.prog.fieldsOf 65)) := by kernel_rfl
  simp only [Op.equal, Op.maxDepth]
  rw [show (10000 : Nat) = 9999 + 1 from rfl, run_equalIn_agg w 9999 65 _ _ hS (by kernel_rfl)]
  simp only [Program.fieldsOf, Tryd.underlying65, List.map_cons, List.map_nil, D.val]
  go_simp
  simp only [eqAll, eqD]
  refine Decidable.byCases (p := a0 = b0) (fun h0 => ?_) (fun h0 => by simp [h0])
  refine Decidable.byCases (p := a1 = b1) (fun h1 => ?_) (fun h1 => by simp [h0, h1])
  simp [h0, h1]
def eqTab : TypeId → Option (List SK)
  | 65 => some [.int .u8, .int .i64]
  | _ => none
theorem eqTab_ok : ∀ t ks, eqTab t = some ks → EqOk Tryd.prog t ks := by
  intro t ks h
  unfold eqTab at h
  split at h
  · injection h with h; subst h; exact eq_65
  · cases h
def gP : Pg Tryd.prog := ⟨by kernel_rfl, eqTab, eqTab_ok⟩
@[simp] theorem gE_65 : gP.E 65 = some [.int .u8, .int .i64] := nr rfl
theorem ent_3 : enterable Tryd.prog 3 = true := by kernel_rfl
theorem ent_4 : enterable Tryd.prog 4 = true := by kernel_rfl
theorem ent_5 : enterable Tryd.prog 5 = true := by kernel_rfl
theorem ent_6 : enterable Tryd.prog 6 = true := by kernel_rfl
theorem ent_7 : enterable Tryd.prog 7 = true := by kernel_rfl
theorem ent_8 : enterable Tryd.prog 8 = true := by kernel_rfl
theorem ent_9 : enterable Tryd.prog 9 = true := by kernel_rfl
theorem ent_10 : enterable Tryd.prog 10 = true := by kernel_rfl
theorem ent_11 : enterable Tryd.prog 11 = true := by kernel_rfl
theorem ent_12 : enterable Tryd.prog 12 = true := by kernel_rfl
theorem ent_13 : enterable Tryd.prog 13 = true := by kernel_rfl
theorem ent_14 : enterable Tryd.prog 14 = true := by kernel_rfl
theorem ent_15 : enterable Tryd.prog 15 = true := by kernel_rfl
theorem ent_16 : enterable Tryd.prog 16 = true := by kernel_rfl
theorem ent_17 : enterable Tryd.prog 17 = true := by kernel_rfl
theorem ent_18 : enterable Tryd.prog 18 = true := by kernel_rfl
theorem ent_19 : enterable Tryd.prog 19 = true := by kernel_rfl
theorem ent_20 : enterable Tryd.prog 20 = true := by kernel_rfl
theorem ent_21 : enterable Tryd.prog 21 = true := by kernel_rfl
theorem ent_22 : enterable Tryd.prog 22 = true := by kernel_rfl
theorem ent_23 : enterable Tryd.prog 23 = true := by kernel_rfl
theorem ent_24 : enterable Tryd.prog 24 = true := by kernel_rfl
theorem ent_25 : enterable Tryd.prog 25 = true := by kernel_rfl
theorem ent_26 : enterable Tryd.prog 26 = true := by kernel_rfl
theorem ent_27 : enterable Tryd.prog 27 = true := by kernel_rfl
theorem ent_28 : enterable Tryd.prog 28 = true := by kernel_rfl
theorem ent_29 : enterable Tryd.prog 29 = true := by kernel_rfl
theorem ent_30 : enterable Tryd.prog 30 = true := by kernel_rfl
theorem ent_32 : enterable Tryd.prog 32 = true := by kernel_rfl
theorem ent_33 : enterable Tryd.prog 33 = true := by kernel_rfl
theorem ent_34 : enterable Tryd.prog 34 = true := by kernel_rfl
theorem ent_35 : enterable Tryd.prog 35 = true := by kernel_rfl
theorem ent_37 : enterable Tryd.prog 37 = true := by kernel_rfl
theorem ent_38 : enterable Tryd.prog 38 = true := by kernel_rfl
theorem ent_39 : enterable Tryd.prog 39 = true := by kernel_rfl
theorem ent_40 : enterable Tryd.prog 40 = true := by kernel_rfl
theorem ent_41 : enterable Tryd.prog 41 = true := by kernel_rfl
theorem ent_42 : enterable Tryd.prog 42 = true := by kernel_rfl
theorem ent_43 : enterable Tryd.prog 43 = true := by kernel_rfl
theorem ent_44 : enterable Tryd.prog 44 = true := by kernel_rfl
theorem ent_45 : enterable Tryd.prog 45 = true := by kernel_rfl
theorem ent_46 : enterable Tryd.prog 46 = true := by kernel_rfl
theorem ent_48 : enterable Tryd.prog 48 = true := by kernel_rfl
theorem ent_49 : enterable Tryd.prog 49 = true := by kernel_rfl
theorem ent_50 : enterable Tryd.prog 50 = true := by kernel_rfl
theorem ent_51 : enterable Tryd.prog 51 = true := by kernel_rfl
theorem ent_54 : enterable Tryd.prog 54 = true := by kernel_rfl
theorem ent_57 : enterable Tryd.prog 57 = true := by kernel_rfl
theorem ent_58 : enterable Tryd.prog 58 = true := by kernel_rfl
theorem ent_59 : enterable Tryd.prog 59 = true := by kernel_rfl
theorem ent_60 : enterable Tryd.prog 60 = true := by kernel_rfl
theorem ent_61 : enterable Tryd.prog 61 = true := by kernel_rfl
theorem ent_62 : enterable Tryd.prog 62 = true := by kernel_rfl
theorem ent_63 : enterable Tryd.prog 63 = true := by kernel_rfl
theorem ent_68 : enterable Tryd.prog 68 = true := by kernel_rfl
theorem ent_70 : enterable Tryd.prog 70 = true := by kernel_rfl
theorem ent_73 : enterable Tryd.prog 73 = true := by kernel_rfl
theorem ent_74 : enterable Tryd.prog 74 = true := by kernel_rfl
theorem ent_75 : enterable Tryd.prog 75 = true := by kernel_rfl
theorem ent_81 : enterable Tryd.prog 81 = true := by kernel_rfl
theorem ent_82 : enterable Tryd.prog 82 = true := by kernel_rfl
theorem ent_90 : enterable Tryd.prog 90 = true := by kernel_rfl
theorem ent_105 : enterable Tryd.prog 105 = true := by kernel_rfl

end Go.Proofs.YtijihbegfmkceaaDoor
