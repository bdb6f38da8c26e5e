/-
  Facts on types and functions of this seat, for the shadow (written by wip/types.py).
-/
import Derived.Test.YtijihbegfmkceaaGreatDoorSp
import Derived.Laws.StructEq
import Derived.ChangeKeysEq
namespace Go.Proofs.YtijihbegfmkceaaGreatDoor
open Go.RowKit
set_option linter.unusedSimpArgs false

@[simp] theorem sz_1 : sizeT Tryz.prog 1 = some 1 := nr (by kernel_rfl)
@[simp] theorem ag_1 : aggT Tryz.prog 1 = some false := nr (by kernel_rfl)
@[simp] theorem zero_1 : zeroV Tryz.prog 1 = some (.d (.other .nilFunc)) := nr (by kernel_rfl)
@[simp] theorem und_2 : Tryz.prog.underlying 2 = some (.int .i64) := nr (by kernel_rfl)
@[simp] theorem sz_2 : sizeT Tryz.prog 2 = some 1 := nr (by kernel_rfl)
@[simp] theorem ag_2 : aggT Tryz.prog 2 = some false := nr (by kernel_rfl)
@[simp] theorem zero_2 : zeroV Tryz.prog 2 = some (.d (.int .i64 0)) := nr (by kernel_rfl)
@[simp] theorem und_3 : Tryz.prog.underlying 3 = some (.int .i64) := nr (by kernel_rfl)
@[simp] theorem sz_3 : sizeT Tryz.prog 3 = some 1 := nr (by kernel_rfl)
@[simp] theorem ag_3 : aggT Tryz.prog 3 = some false := nr (by kernel_rfl)
@[simp] theorem zero_3 : zeroV Tryz.prog 3 = some (.d (.int .i64 0)) := nr (by kernel_rfl)
@[simp] theorem und_4 : Tryz.prog.underlying 4 = some (.bool) := nr (by kernel_rfl)
@[simp] theorem sz_4 : sizeT Tryz.prog 4 = some 1 := nr (by kernel_rfl)
@[simp] theorem ag_4 : aggT Tryz.prog 4 = some false := nr (by kernel_rfl)
@[simp] theorem zero_4 : zeroV Tryz.prog 4 = some (.d (.bool false)) := nr (by kernel_rfl)
@[simp] theorem und_5 : Tryz.prog.underlying 5 = some (.int .u8) := nr (by kernel_rfl)
@[simp] theorem sz_5 : sizeT Tryz.prog 5 = some 1 := nr (by kernel_rfl)
@[simp] theorem ag_5 : aggT Tryz.prog 5 = some false := nr (by kernel_rfl)
@[simp] theorem zero_5 : zeroV Tryz.prog 5 = some (.d (.int .u8 0)) := nr (by kernel_rfl)
@[simp] theorem und_9 : Tryz.prog.underlying 9 = some (.string) := nr (by kernel_rfl)
@[simp] theorem sz_9 : sizeT Tryz.prog 9 = some 1 := nr (by kernel_rfl)
@[simp] theorem ag_9 : aggT Tryz.prog 9 = some false := nr (by kernel_rfl)
@[simp] theorem zero_9 : zeroV Tryz.prog 9 = some (.d (.str [])) := nr (by kernel_rfl)
@[simp] theorem und_12 : Tryz.prog.underlying 12 = some (.int .u64) := nr (by kernel_rfl)
@[simp] theorem sz_12 : sizeT Tryz.prog 12 = some 1 := nr (by kernel_rfl)
@[simp] theorem ag_12 : aggT Tryz.prog 12 = some false := nr (by kernel_rfl)
@[simp] theorem zero_12 : zeroV Tryz.prog 12 = some (.d (.int .u64 0)) := nr (by kernel_rfl)
@[simp] theorem sz_13 : sizeT Tryz.prog 13 = some 2 := nr (by kernel_rfl)
@[simp] theorem ag_13 : aggT Tryz.prog 13 = some true := nr (by kernel_rfl)
@[simp] theorem zero_13 : zeroV Tryz.prog 13 = some (.agg [.d (.str []), .d (.int .u64 0)]) := nr (by kernel_rfl)
@[simp] theorem fld_13_0 : fieldOf Tryz.prog 13 0 = some (0, 9) := nr (by kernel_rfl)
@[simp] theorem fld_13_1 : fieldOf Tryz.prog 13 1 = some (1, 12) := nr (by kernel_rfl)
@[simp] theorem pl_13 : placesT Tryz.prog 13 = some (.struct [(0, 1), (1, 1)]) := nr (by kernel_rfl)
@[simp] theorem sz_19 : sizeT Tryz.prog 19 = some 1 := nr (by kernel_rfl)
@[simp] theorem ag_19 : aggT Tryz.prog 19 = some true := nr (by kernel_rfl)
@[simp] theorem zero_19 : zeroV Tryz.prog 19 = some (.agg [.d (.other (.pointer none))]) := nr (by kernel_rfl)
@[simp] theorem fld_19_0 : fieldOf Tryz.prog 19 0 = some (0, 17) := nr (by kernel_rfl)
@[simp] theorem pl_19 : placesT Tryz.prog 19 = some (.struct [(0, 1)]) := nr (by kernel_rfl)
@[simp] theorem sz_20 : sizeT Tryz.prog 20 = some 1 := nr (by kernel_rfl)
@[simp] theorem ag_20 : aggT Tryz.prog 20 = some false := nr (by kernel_rfl)
@[simp] theorem zero_20 : zeroV Tryz.prog 20 = some (.d (.other .nilIface)) := nr (by kernel_rfl)
@[simp] theorem und_21 : Tryz.prog.underlying 21 = some (.int .i32) := nr (by kernel_rfl)
@[simp] theorem sz_21 : sizeT Tryz.prog 21 = some 1 := nr (by kernel_rfl)
@[simp] theorem ag_21 : aggT Tryz.prog 21 = some false := nr (by kernel_rfl)
@[simp] theorem zero_21 : zeroV Tryz.prog 21 = some (.d (.int .i32 0)) := nr (by kernel_rfl)
@[simp] theorem sz_22 : sizeT Tryz.prog 22 = some 1 := nr (by kernel_rfl)
@[simp] theorem ag_22 : aggT Tryz.prog 22 = some false := nr (by kernel_rfl)
@[simp] theorem zero_22 : zeroV Tryz.prog 22 = some (.d (.other .nilFunc)) := nr (by kernel_rfl)
@[simp] theorem und_23 : Tryz.prog.underlying 23 = some (.slice 36) := nr (by kernel_rfl)
@[simp] theorem sz_23 : sizeT Tryz.prog 23 = some 1 := nr (by kernel_rfl)
@[simp] theorem ag_23 : aggT Tryz.prog 23 = some false := nr (by kernel_rfl)
@[simp] theorem zero_23 : zeroV Tryz.prog 23 = some (.nil) := nr (by kernel_rfl)
@[simp] theorem app_23 : appT Tryz.prog 23 = some (36, 3) := nr (by kernel_rfl)
@[simp] theorem und_24 : Tryz.prog.underlying 24 = some (.int .i64) := nr (by kernel_rfl)
@[simp] theorem sz_24 : sizeT Tryz.prog 24 = some 1 := nr (by kernel_rfl)
@[simp] theorem ag_24 : aggT Tryz.prog 24 = some false := nr (by kernel_rfl)
@[simp] theorem zero_24 : zeroV Tryz.prog 24 = some (.d (.int .i64 0)) := nr (by kernel_rfl)
@[simp] theorem sz_26 : sizeT Tryz.prog 26 = some 1 := nr (by kernel_rfl)
@[simp] theorem ag_26 : aggT Tryz.prog 26 = some false := nr (by kernel_rfl)
@[simp] theorem zero_26 : zeroV Tryz.prog 26 = some (.d (.other .nilFunc)) := nr (by kernel_rfl)
@[simp] theorem sz_27 : sizeT Tryz.prog 27 = some 1 := nr (by kernel_rfl)
@[simp] theorem ag_27 : aggT Tryz.prog 27 = some false := nr (by kernel_rfl)
@[simp] theorem zero_27 : zeroV Tryz.prog 27 = some (.d (.other .nilFunc)) := nr (by kernel_rfl)
@[simp] theorem sz_28 : sizeT Tryz.prog 28 = some 1 := nr (by kernel_rfl)
@[simp] theorem ag_28 : aggT Tryz.prog 28 = some false := nr (by kernel_rfl)
@[simp] theorem zero_28 : zeroV Tryz.prog 28 = some (.d (.other .nilFunc)) := nr (by kernel_rfl)
@[simp] theorem sz_29 : sizeT Tryz.prog 29 = some 1 := nr (by kernel_rfl)
@[simp] theorem ag_29 : aggT Tryz.prog 29 = some false := nr (by kernel_rfl)
@[simp] theorem zero_29 : zeroV Tryz.prog 29 = some (.d (.other .nilFunc)) := nr (by kernel_rfl)
@[simp] theorem sz_31 : sizeT Tryz.prog 31 = some 1 := nr (by kernel_rfl)
@[simp] theorem ag_31 : aggT Tryz.prog 31 = some false := nr (by kernel_rfl)
@[simp] theorem zero_31 : zeroV Tryz.prog 31 = some (.d (.other .nilFunc)) := nr (by kernel_rfl)
@[simp] theorem sz_32 : sizeT Tryz.prog 32 = some 1 := nr (by kernel_rfl)
@[simp] theorem ag_32 : aggT Tryz.prog 32 = some false := nr (by kernel_rfl)
@[simp] theorem zero_32 : zeroV Tryz.prog 32 = some (.d (.other .nilFunc)) := nr (by kernel_rfl)
@[simp] theorem sz_33 : sizeT Tryz.prog 33 = some 1 := nr (by kernel_rfl)
@[simp] theorem ag_33 : aggT Tryz.prog 33 = some false := nr (by kernel_rfl)
@[simp] theorem zero_33 : zeroV Tryz.prog 33 = some (.d (.other .nilFunc)) := nr (by kernel_rfl)
@[simp] theorem und_34 : Tryz.prog.underlying 34 = some (.slice 58) := nr (by kernel_rfl)
@[simp] theorem sz_34 : sizeT Tryz.prog 34 = some 1 := nr (by kernel_rfl)
@[simp] theorem ag_34 : aggT Tryz.prog 34 = some false := nr (by kernel_rfl)
@[simp] theorem zero_34 : zeroV Tryz.prog 34 = some (.nil) := nr (by kernel_rfl)
@[simp] theorem app_34 : appT Tryz.prog 34 = some (58, 2) := nr (by kernel_rfl)
@[simp] theorem sz_35 : sizeT Tryz.prog 35 = some 3 := nr (by kernel_rfl)
@[simp] theorem ag_35 : aggT Tryz.prog 35 = some true := nr (by kernel_rfl)
@[simp] theorem zero_35 : zeroV Tryz.prog 35 = some (.agg [.d (.bool false), .nil, .d (.str [])]) := nr (by kernel_rfl)
@[simp] theorem fld_35_0 : fieldOf Tryz.prog 35 0 = some (0, 4) := nr (by kernel_rfl)
@[simp] theorem fld_35_1 : fieldOf Tryz.prog 35 1 = some (1, 34) := nr (by kernel_rfl)
@[simp] theorem fld_35_2 : fieldOf Tryz.prog 35 2 = some (2, 9) := nr (by kernel_rfl)
@[simp] theorem pl_35 : placesT Tryz.prog 35 = some (.struct [(0, 1), (1, 1), (2, 1)]) := nr (by kernel_rfl)
@[simp] theorem sz_36 : sizeT Tryz.prog 36 = some 3 := nr (by kernel_rfl)
@[simp] theorem ag_36 : aggT Tryz.prog 36 = some true := nr (by kernel_rfl)
@[simp] theorem zero_36 : zeroV Tryz.prog 36 = some (.agg [.d (.bool false), .nil, .d (.str [])]) := nr (by kernel_rfl)
@[simp] theorem fld_36_0 : fieldOf Tryz.prog 36 0 = some (0, 4) := nr (by kernel_rfl)
@[simp] theorem fld_36_1 : fieldOf Tryz.prog 36 1 = some (1, 34) := nr (by kernel_rfl)
@[simp] theorem fld_36_2 : fieldOf Tryz.prog 36 2 = some (2, 9) := nr (by kernel_rfl)
@[simp] theorem pl_36 : placesT Tryz.prog 36 = some (.struct [(0, 1), (1, 1), (2, 1)]) := nr (by kernel_rfl)
@[simp] theorem sz_37 : sizeT Tryz.prog 37 = some 1 := nr (by kernel_rfl)
@[simp] theorem ag_37 : aggT Tryz.prog 37 = some false := nr (by kernel_rfl)
@[simp] theorem zero_37 : zeroV Tryz.prog 37 = some (.d (.other .nilFunc)) := nr (by kernel_rfl)
@[simp] theorem sz_39 : sizeT Tryz.prog 39 = some 1 := nr (by kernel_rfl)
@[simp] theorem ag_39 : aggT Tryz.prog 39 = some false := nr (by kernel_rfl)
@[simp] theorem zero_39 : zeroV Tryz.prog 39 = some (.d (.other .nilFunc)) := nr (by kernel_rfl)
@[simp] theorem sz_40 : sizeT Tryz.prog 40 = some 1 := nr (by kernel_rfl)
@[simp] theorem ag_40 : aggT Tryz.prog 40 = some false := nr (by kernel_rfl)
@[simp] theorem zero_40 : zeroV Tryz.prog 40 = some (.d (.other .nilFunc)) := nr (by kernel_rfl)
@[simp] theorem sz_41 : sizeT Tryz.prog 41 = some 1 := nr (by kernel_rfl)
@[simp] theorem ag_41 : aggT Tryz.prog 41 = some false := nr (by kernel_rfl)
@[simp] theorem zero_41 : zeroV Tryz.prog 41 = some (.d (.other .nilFunc)) := nr (by kernel_rfl)
@[simp] theorem sz_42 : sizeT Tryz.prog 42 = some 1 := nr (by kernel_rfl)
@[simp] theorem ag_42 : aggT Tryz.prog 42 = some false := nr (by kernel_rfl)
@[simp] theorem zero_42 : zeroV Tryz.prog 42 = some (.d (.other .nilFunc)) := nr (by kernel_rfl)
@[simp] theorem sz_44 : sizeT Tryz.prog 44 = some 1 := nr (by kernel_rfl)
@[simp] theorem ag_44 : aggT Tryz.prog 44 = some false := nr (by kernel_rfl)
@[simp] theorem zero_44 : zeroV Tryz.prog 44 = some (.d (.other .nilFunc)) := nr (by kernel_rfl)
@[simp] theorem und_45 : Tryz.prog.underlying 45 = some (.pointer 48) := nr (by kernel_rfl)
@[simp] theorem sz_45 : sizeT Tryz.prog 45 = some 1 := nr (by kernel_rfl)
@[simp] theorem ag_45 : aggT Tryz.prog 45 = some false := nr (by kernel_rfl)
@[simp] theorem zero_45 : zeroV Tryz.prog 45 = some (.d (.other (.pointer none))) := nr (by kernel_rfl)
@[simp] theorem und_46 : Tryz.prog.underlying 46 = some (.slice 5) := nr (by kernel_rfl)
@[simp] theorem sz_46 : sizeT Tryz.prog 46 = some 1 := nr (by kernel_rfl)
@[simp] theorem ag_46 : aggT Tryz.prog 46 = some false := nr (by kernel_rfl)
@[simp] theorem zero_46 : zeroV Tryz.prog 46 = some (.nil) := nr (by kernel_rfl)
@[simp] theorem app_46 : appT Tryz.prog 46 = some (5, 1) := nr (by kernel_rfl)
@[simp] theorem sz_47 : sizeT Tryz.prog 47 = some 2 := nr (by kernel_rfl)
@[simp] theorem ag_47 : aggT Tryz.prog 47 = some true := nr (by kernel_rfl)
@[simp] theorem zero_47 : zeroV Tryz.prog 47 = some (.agg [.d (.other (.pointer none)), .nil]) := nr (by kernel_rfl)
@[simp] theorem fld_47_0 : fieldOf Tryz.prog 47 0 = some (0, 45) := nr (by kernel_rfl)
@[simp] theorem fld_47_1 : fieldOf Tryz.prog 47 1 = some (1, 46) := nr (by kernel_rfl)
@[simp] theorem pl_47 : placesT Tryz.prog 47 = some (.struct [(0, 1), (1, 1)]) := nr (by kernel_rfl)
@[simp] theorem sz_48 : sizeT Tryz.prog 48 = some 2 := nr (by kernel_rfl)
@[simp] theorem ag_48 : aggT Tryz.prog 48 = some true := nr (by kernel_rfl)
@[simp] theorem zero_48 : zeroV Tryz.prog 48 = some (.agg [.d (.other (.pointer none)), .nil]) := nr (by kernel_rfl)
@[simp] theorem fld_48_0 : fieldOf Tryz.prog 48 0 = some (0, 45) := nr (by kernel_rfl)
@[simp] theorem fld_48_1 : fieldOf Tryz.prog 48 1 = some (1, 46) := nr (by kernel_rfl)
@[simp] theorem pl_48 : placesT Tryz.prog 48 = some (.struct [(0, 1), (1, 1)]) := nr (by kernel_rfl)
@[simp] theorem sz_49 : sizeT Tryz.prog 49 = some 1 := nr (by kernel_rfl)
@[simp] theorem ag_49 : aggT Tryz.prog 49 = some false := nr (by kernel_rfl)
@[simp] theorem zero_49 : zeroV Tryz.prog 49 = some (.d (.other .nilIface)) := nr (by kernel_rfl)
@[simp] theorem sz_50 : sizeT Tryz.prog 50 = some 1 := nr (by kernel_rfl)
@[simp] theorem ag_50 : aggT Tryz.prog 50 = some false := nr (by kernel_rfl)
@[simp] theorem zero_50 : zeroV Tryz.prog 50 = some (.d (.other .nilIface)) := nr (by kernel_rfl)
@[simp] theorem sz_52 : sizeT Tryz.prog 52 = some 1 := nr (by kernel_rfl)
@[simp] theorem ag_52 : aggT Tryz.prog 52 = some false := nr (by kernel_rfl)
@[simp] theorem zero_52 : zeroV Tryz.prog 52 = some (.d (.other .nilFunc)) := nr (by kernel_rfl)
@[simp] theorem sz_53 : sizeT Tryz.prog 53 = some 1 := nr (by kernel_rfl)
@[simp] theorem ag_53 : aggT Tryz.prog 53 = some false := nr (by kernel_rfl)
@[simp] theorem zero_53 : zeroV Tryz.prog 53 = some (.d (.other .nilFunc)) := nr (by kernel_rfl)
@[simp] theorem sz_54 : sizeT Tryz.prog 54 = some 1 := nr (by kernel_rfl)
@[simp] theorem ag_54 : aggT Tryz.prog 54 = some false := nr (by kernel_rfl)
@[simp] theorem zero_54 : zeroV Tryz.prog 54 = some (.d (.other .nilFunc)) := nr (by kernel_rfl)
@[simp] theorem sz_55 : sizeT Tryz.prog 55 = some 1 := nr (by kernel_rfl)
@[simp] theorem ag_55 : aggT Tryz.prog 55 = some false := nr (by kernel_rfl)
@[simp] theorem zero_55 : zeroV Tryz.prog 55 = some (.d (.other .nilFunc)) := nr (by kernel_rfl)
@[simp] theorem und_56 : Tryz.prog.underlying 56 = some (.slice 9) := nr (by kernel_rfl)
@[simp] theorem sz_56 : sizeT Tryz.prog 56 = some 1 := nr (by kernel_rfl)
@[simp] theorem ag_56 : aggT Tryz.prog 56 = some false := nr (by kernel_rfl)
@[simp] theorem zero_56 : zeroV Tryz.prog 56 = some (.nil) := nr (by kernel_rfl)
@[simp] theorem app_56 : appT Tryz.prog 56 = some (9, 1) := nr (by kernel_rfl)
@[simp] theorem sz_57 : sizeT Tryz.prog 57 = some 2 := nr (by kernel_rfl)
@[simp] theorem ag_57 : aggT Tryz.prog 57 = some true := nr (by kernel_rfl)
@[simp] theorem zero_57 : zeroV Tryz.prog 57 = some (.agg [.d (.int .u8 0), .d (.int .i64 0)]) := nr (by kernel_rfl)
@[simp] theorem fld_57_0 : fieldOf Tryz.prog 57 0 = some (0, 5) := nr (by kernel_rfl)
@[simp] theorem fld_57_1 : fieldOf Tryz.prog 57 1 = some (1, 2) := nr (by kernel_rfl)
@[simp] theorem pl_57 : placesT Tryz.prog 57 = some (.struct [(0, 1), (1, 1)]) := nr (by kernel_rfl)
@[simp] theorem sz_58 : sizeT Tryz.prog 58 = some 2 := nr (by kernel_rfl)
@[simp] theorem ag_58 : aggT Tryz.prog 58 = some true := nr (by kernel_rfl)
@[simp] theorem zero_58 : zeroV Tryz.prog 58 = some (.agg [.d (.int .u8 0), .d (.int .i64 0)]) := nr (by kernel_rfl)
@[simp] theorem fld_58_0 : fieldOf Tryz.prog 58 0 = some (0, 5) := nr (by kernel_rfl)
@[simp] theorem fld_58_1 : fieldOf Tryz.prog 58 1 = some (1, 2) := nr (by kernel_rfl)
@[simp] theorem pl_58 : placesT Tryz.prog 58 = some (.struct [(0, 1), (1, 1)]) := nr (by kernel_rfl)
@[simp] theorem sz_59 : sizeT Tryz.prog 59 = some 1 := nr (by kernel_rfl)
@[simp] theorem ag_59 : aggT Tryz.prog 59 = some false := nr (by kernel_rfl)
@[simp] theorem zero_59 : zeroV Tryz.prog 59 = some (.d (.other .nilFunc)) := nr (by kernel_rfl)
@[simp] theorem sz_60 : sizeT Tryz.prog 60 = some 1 := nr (by kernel_rfl)
@[simp] theorem ag_60 : aggT Tryz.prog 60 = some false := nr (by kernel_rfl)
@[simp] theorem zero_60 : zeroV Tryz.prog 60 = some (.d (.other .nilFunc)) := nr (by kernel_rfl)
@[simp] theorem sz_61 : sizeT Tryz.prog 61 = some 5 := nr (by kernel_rfl)
@[simp] theorem ag_61 : aggT Tryz.prog 61 = some true := nr (by kernel_rfl)
@[simp] theorem zero_61 : zeroV Tryz.prog 61 = some (.agg [.d (.str []), .d (.int .i64 0), .d (.bool false), .nil, .d (.str [])]) := nr (by kernel_rfl)
@[simp] theorem fld_61_0 : fieldOf Tryz.prog 61 0 = some (0, 9) := nr (by kernel_rfl)
@[simp] theorem fld_61_1 : fieldOf Tryz.prog 61 1 = some (1, 3) := nr (by kernel_rfl)
@[simp] theorem fld_61_2 : fieldOf Tryz.prog 61 2 = some (2, 36) := nr (by kernel_rfl)
@[simp] theorem pl_61 : placesT Tryz.prog 61 = some (.struct [(0, 1), (1, 1), (2, 3)]) := nr (by kernel_rfl)
@[simp] theorem sz_62 : sizeT Tryz.prog 62 = some 5 := nr (by kernel_rfl)
@[simp] theorem ag_62 : aggT Tryz.prog 62 = some true := nr (by kernel_rfl)
@[simp] theorem zero_62 : zeroV Tryz.prog 62 = some (.agg [.d (.str []), .d (.int .i64 0), .d (.bool false), .nil, .d (.str [])]) := nr (by kernel_rfl)
@[simp] theorem fld_62_0 : fieldOf Tryz.prog 62 0 = some (0, 9) := nr (by kernel_rfl)
@[simp] theorem fld_62_1 : fieldOf Tryz.prog 62 1 = some (1, 3) := nr (by kernel_rfl)
@[simp] theorem fld_62_2 : fieldOf Tryz.prog 62 2 = some (2, 36) := nr (by kernel_rfl)
@[simp] theorem pl_62 : placesT Tryz.prog 62 = some (.struct [(0, 1), (1, 1), (2, 3)]) := nr (by kernel_rfl)
@[simp] theorem sz_63 : sizeT Tryz.prog 63 = some 1 := nr (by kernel_rfl)
@[simp] theorem ag_63 : aggT Tryz.prog 63 = some false := nr (by kernel_rfl)
@[simp] theorem zero_63 : zeroV Tryz.prog 63 = some (.d (.other .nilFunc)) := nr (by kernel_rfl)
@[simp] theorem sz_64 : sizeT Tryz.prog 64 = some 1 := nr (by kernel_rfl)
@[simp] theorem ag_64 : aggT Tryz.prog 64 = some false := nr (by kernel_rfl)
@[simp] theorem zero_64 : zeroV Tryz.prog 64 = some (.d (.other .nilFunc)) := nr (by kernel_rfl)
@[simp] theorem sz_65 : sizeT Tryz.prog 65 = some 1 := nr (by kernel_rfl)
@[simp] theorem ag_65 : aggT Tryz.prog 65 = some false := nr (by kernel_rfl)
@[simp] theorem zero_65 : zeroV Tryz.prog 65 = some (.d (.other .nilFunc)) := nr (by kernel_rfl)
@[simp] theorem sz_67 : sizeT Tryz.prog 67 = some 1 := nr (by kernel_rfl)
@[simp] theorem ag_67 : aggT Tryz.prog 67 = some false := nr (by kernel_rfl)
@[simp] theorem zero_67 : zeroV Tryz.prog 67 = some (.d (.other .nilFunc)) := nr (by kernel_rfl)
@[simp] theorem sz_68 : sizeT Tryz.prog 68 = some 1 := nr (by kernel_rfl)
@[simp] theorem ag_68 : aggT Tryz.prog 68 = some false := nr (by kernel_rfl)
@[simp] theorem zero_68 : zeroV Tryz.prog 68 = some (.d (.other .nilFunc)) := nr (by kernel_rfl)
@[simp] theorem sz_70 : sizeT Tryz.prog 70 = some 1 := nr (by kernel_rfl)
@[simp] theorem ag_70 : aggT Tryz.prog 70 = some false := nr (by kernel_rfl)
@[simp] theorem zero_70 : zeroV Tryz.prog 70 = some (.d (.other .nilFunc)) := nr (by kernel_rfl)
@[simp] theorem und_71 : Tryz.prog.underlying 71 = some (.pointer 5) := nr (by kernel_rfl)
@[simp] theorem sz_71 : sizeT Tryz.prog 71 = some 1 := nr (by kernel_rfl)
@[simp] theorem ag_71 : aggT Tryz.prog 71 = some false := nr (by kernel_rfl)
@[simp] theorem zero_71 : zeroV Tryz.prog 71 = some (.d (.other (.pointer none))) := nr (by kernel_rfl)
@[simp] theorem sz_72 : sizeT Tryz.prog 72 = some 1 := nr (by kernel_rfl)
@[simp] theorem ag_72 : aggT Tryz.prog 72 = some false := nr (by kernel_rfl)
@[simp] theorem zero_72 : zeroV Tryz.prog 72 = some (.d (.other .nilFunc)) := nr (by kernel_rfl)
@[simp] theorem und_73 : Tryz.prog.underlying 73 = some (.int .u64) := nr (by kernel_rfl)
@[simp] theorem sz_73 : sizeT Tryz.prog 73 = some 1 := nr (by kernel_rfl)
@[simp] theorem ag_73 : aggT Tryz.prog 73 = some false := nr (by kernel_rfl)
@[simp] theorem zero_73 : zeroV Tryz.prog 73 = some (.d (.int .u64 0)) := nr (by kernel_rfl)
@[simp] theorem sz_74 : sizeT Tryz.prog 74 = some 1 := nr (by kernel_rfl)
@[simp] theorem ag_74 : aggT Tryz.prog 74 = some false := nr (by kernel_rfl)
@[simp] theorem zero_74 : zeroV Tryz.prog 74 = some (.d (.other .nilFunc)) := nr (by kernel_rfl)
@[simp] theorem sz_75 : sizeT Tryz.prog 75 = some 1 := nr (by kernel_rfl)
@[simp] theorem ag_75 : aggT Tryz.prog 75 = some false := nr (by kernel_rfl)
@[simp] theorem zero_75 : zeroV Tryz.prog 75 = some (.d (.other .nilFunc)) := nr (by kernel_rfl)
@[simp] theorem sz_76 : sizeT Tryz.prog 76 = some 1 := nr (by kernel_rfl)
@[simp] theorem ag_76 : aggT Tryz.prog 76 = some false := nr (by kernel_rfl)
@[simp] theorem zero_76 : zeroV Tryz.prog 76 = some (.d (.other .nilFunc)) := nr (by kernel_rfl)
@[simp] theorem und_77 : Tryz.prog.underlying 77 = some (.pointer 62) := nr (by kernel_rfl)
@[simp] theorem sz_77 : sizeT Tryz.prog 77 = some 1 := nr (by kernel_rfl)
@[simp] theorem ag_77 : aggT Tryz.prog 77 = some false := nr (by kernel_rfl)
@[simp] theorem zero_77 : zeroV Tryz.prog 77 = some (.d (.other (.pointer none))) := nr (by kernel_rfl)
@[simp] theorem sz_80 : sizeT Tryz.prog 80 = some 1 := nr (by kernel_rfl)
@[simp] theorem ag_80 : aggT Tryz.prog 80 = some false := nr (by kernel_rfl)
@[simp] theorem zero_80 : zeroV Tryz.prog 80 = some (.d (.other .nilFunc)) := nr (by kernel_rfl)
@[simp] theorem und_81 : Tryz.prog.underlying 81 = some (.array 256 4) := nr (by kernel_rfl)
@[simp] theorem sz_81 : sizeT Tryz.prog 81 = some 256 := nr (by kernel_rfl)
@[simp] theorem ag_81 : aggT Tryz.prog 81 = some true := nr (by kernel_rfl)
@[simp] theorem pl_81 : placesT Tryz.prog 81 = some (.array 1) := nr (by kernel_rfl)
@[simp] theorem und_82 : Tryz.prog.underlying 82 = some (.array 256 4) := nr (by kernel_rfl)
@[simp] theorem sz_82 : sizeT Tryz.prog 82 = some 256 := nr (by kernel_rfl)
@[simp] theorem ag_82 : aggT Tryz.prog 82 = some true := nr (by kernel_rfl)
@[simp] theorem pl_82 : placesT Tryz.prog 82 = some (.array 1) := nr (by kernel_rfl)
@[simp] theorem sz_84 : sizeT Tryz.prog 84 = some 1 := nr (by kernel_rfl)
@[simp] theorem ag_84 : aggT Tryz.prog 84 = some false := nr (by kernel_rfl)
@[simp] theorem zero_84 : zeroV Tryz.prog 84 = some (.d (.other .nilFunc)) := nr (by kernel_rfl)
@[simp] theorem sz_85 : sizeT Tryz.prog 85 = some 1 := nr (by kernel_rfl)
@[simp] theorem ag_85 : aggT Tryz.prog 85 = some false := nr (by kernel_rfl)
@[simp] theorem zero_85 : zeroV Tryz.prog 85 = some (.d (.other .nilFunc)) := nr (by kernel_rfl)
@[simp] theorem und_86 : Tryz.prog.underlying 86 = some (.pointer 82) := nr (by kernel_rfl)
@[simp] theorem sz_86 : sizeT Tryz.prog 86 = some 1 := nr (by kernel_rfl)
@[simp] theorem ag_86 : aggT Tryz.prog 86 = some false := nr (by kernel_rfl)
@[simp] theorem zero_86 : zeroV Tryz.prog 86 = some (.d (.other (.pointer none))) := nr (by kernel_rfl)
@[simp] theorem sz_87 : sizeT Tryz.prog 87 = some 1 := nr (by kernel_rfl)
@[simp] theorem ag_87 : aggT Tryz.prog 87 = some false := nr (by kernel_rfl)
@[simp] theorem zero_87 : zeroV Tryz.prog 87 = some (.d (.other .nilFunc)) := nr (by kernel_rfl)
@[simp] theorem und_88 : Tryz.prog.underlying 88 = some (.int .u64) := nr (by kernel_rfl)
@[simp] theorem sz_88 : sizeT Tryz.prog 88 = some 1 := nr (by kernel_rfl)
@[simp] theorem ag_88 : aggT Tryz.prog 88 = some false := nr (by kernel_rfl)
@[simp] theorem zero_88 : zeroV Tryz.prog 88 = some (.d (.int .u64 0)) := nr (by kernel_rfl)
@[simp] theorem sz_89 : sizeT Tryz.prog 89 = some 1 := nr (by kernel_rfl)
@[simp] theorem ag_89 : aggT Tryz.prog 89 = some false := nr (by kernel_rfl)
@[simp] theorem zero_89 : zeroV Tryz.prog 89 = some (.d (.other .nilFunc)) := nr (by kernel_rfl)
@[simp] theorem sz_90 : sizeT Tryz.prog 90 = some 1 := nr (by kernel_rfl)
@[simp] theorem ag_90 : aggT Tryz.prog 90 = some false := nr (by kernel_rfl)
@[simp] theorem zero_90 : zeroV Tryz.prog 90 = some (.d (.other .nilFunc)) := nr (by kernel_rfl)
@[simp] theorem und_91 : Tryz.prog.underlying 91 = some (.array 24 5) := nr (by kernel_rfl)
@[simp] theorem sz_91 : sizeT Tryz.prog 91 = some 24 := nr (by kernel_rfl)
@[simp] theorem ag_91 : aggT Tryz.prog 91 = some true := nr (by kernel_rfl)
@[simp] theorem zero_91 : zeroV Tryz.prog 91 = some (.agg [.d (.int .u8 0), .d (.int .u8 0), .d (.int .u8 0), .d (.int .u8 0), .d (.int .u8 0), .d (.int .u8 0), .d (.int .u8 0), .d (.int .u8 0), .d (.int .u8 0), .d (.int .u8 0), .d (.int .u8 0), .d (.int .u8 0), .d (.int .u8 0), .d (.int .u8 0), .d (.int .u8 0), .d (.int .u8 0), .d (.int .u8 0), .d (.int .u8 0), .d (.int .u8 0), .d (.int .u8 0), .d (.int .u8 0), .d (.int .u8 0), .d (.int .u8 0), .d (.int .u8 0)]) := nr (by kernel_rfl)
@[simp] theorem pl_91 : placesT Tryz.prog 91 = some (.array 1) := nr (by kernel_rfl)
@[simp] theorem sz_92 : sizeT Tryz.prog 92 = some 1 := nr (by kernel_rfl)
@[simp] theorem ag_92 : aggT Tryz.prog 92 = some false := nr (by kernel_rfl)
@[simp] theorem zero_92 : zeroV Tryz.prog 92 = some (.d (.other .nilFunc)) := nr (by kernel_rfl)
@[simp] theorem sz_93 : sizeT Tryz.prog 93 = some 1 := nr (by kernel_rfl)
@[simp] theorem ag_93 : aggT Tryz.prog 93 = some false := nr (by kernel_rfl)
@[simp] theorem zero_93 : zeroV Tryz.prog 93 = some (.d (.other .nilFunc)) := nr (by kernel_rfl)
@[simp] theorem sz_95 : sizeT Tryz.prog 95 = some 1 := nr (by kernel_rfl)
@[simp] theorem ag_95 : aggT Tryz.prog 95 = some false := nr (by kernel_rfl)
@[simp] theorem zero_95 : zeroV Tryz.prog 95 = some (.d (.other .nilFunc)) := nr (by kernel_rfl)
@[simp] theorem sz_97 : sizeT Tryz.prog 97 = some 1 := nr (by kernel_rfl)
@[simp] theorem ag_97 : aggT Tryz.prog 97 = some false := nr (by kernel_rfl)
@[simp] theorem zero_97 : zeroV Tryz.prog 97 = some (.d (.other .nilFunc)) := nr (by kernel_rfl)
@[simp] theorem sz_98 : sizeT Tryz.prog 98 = some 1 := nr (by kernel_rfl)
@[simp] theorem ag_98 : aggT Tryz.prog 98 = some false := nr (by kernel_rfl)
@[simp] theorem zero_98 : zeroV Tryz.prog 98 = some (.d (.other .nilFunc)) := nr (by kernel_rfl)
@[simp] theorem sz_99 : sizeT Tryz.prog 99 = some 1 := nr (by kernel_rfl)
@[simp] theorem ag_99 : aggT Tryz.prog 99 = some false := nr (by kernel_rfl)
@[simp] theorem zero_99 : zeroV Tryz.prog 99 = some (.d (.other .nilFunc)) := nr (by kernel_rfl)
@[simp] theorem sz_101 : sizeT Tryz.prog 101 = some 1 := nr (by kernel_rfl)
@[simp] theorem ag_101 : aggT Tryz.prog 101 = some false := nr (by kernel_rfl)
@[simp] theorem zero_101 : zeroV Tryz.prog 101 = some (.d (.other .nilFunc)) := nr (by kernel_rfl)
@[simp] theorem sz_103 : sizeT Tryz.prog 103 = some 1 := nr (by kernel_rfl)
@[simp] theorem ag_103 : aggT Tryz.prog 103 = some false := nr (by kernel_rfl)
@[simp] theorem zero_103 : zeroV Tryz.prog 103 = some (.d (.other .nilFunc)) := nr (by kernel_rfl)
@[simp] theorem und_104 : Tryz.prog.underlying 104 = some (.int .u32) := nr (by kernel_rfl)
@[simp] theorem sz_104 : sizeT Tryz.prog 104 = some 1 := nr (by kernel_rfl)
@[simp] theorem ag_104 : aggT Tryz.prog 104 = some false := nr (by kernel_rfl)
@[simp] theorem zero_104 : zeroV Tryz.prog 104 = some (.d (.int .u32 0)) := nr (by kernel_rfl)
@[simp] theorem sz_106 : sizeT Tryz.prog 106 = some 1 := nr (by kernel_rfl)
@[simp] theorem ag_106 : aggT Tryz.prog 106 = some false := nr (by kernel_rfl)
@[simp] theorem zero_106 : zeroV Tryz.prog 106 = some (.d (.other .nilFunc)) := nr (by kernel_rfl)
@[simp] theorem sz_107 : sizeT Tryz.prog 107 = some 1 := nr (by kernel_rfl)
@[simp] theorem ag_107 : aggT Tryz.prog 107 = some false := nr (by kernel_rfl)
@[simp] theorem zero_107 : zeroV Tryz.prog 107 = some (.d (.other .nilFunc)) := nr (by kernel_rfl)
@[simp] theorem und_108 : Tryz.prog.underlying 108 = some (.array 20 73) := nr (by kernel_rfl)
@[simp] theorem sz_108 : sizeT Tryz.prog 108 = some 20 := nr (by kernel_rfl)
@[simp] theorem ag_108 : aggT Tryz.prog 108 = some true := nr (by kernel_rfl)
@[simp] theorem zero_108 : zeroV Tryz.prog 108 = some (.agg [.d (.int .u64 0), .d (.int .u64 0), .d (.int .u64 0), .d (.int .u64 0), .d (.int .u64 0), .d (.int .u64 0), .d (.int .u64 0), .d (.int .u64 0), .d (.int .u64 0), .d (.int .u64 0), .d (.int .u64 0), .d (.int .u64 0), .d (.int .u64 0), .d (.int .u64 0), .d (.int .u64 0), .d (.int .u64 0), .d (.int .u64 0), .d (.int .u64 0), .d (.int .u64 0), .d (.int .u64 0)]) := nr (by kernel_rfl)
@[simp] theorem pl_108 : placesT Tryz.prog 108 = some (.array 1) := nr (by kernel_rfl)
@[simp] theorem und_109 : Tryz.prog.underlying 109 = some (.array 65 5) := nr (by kernel_rfl)
@[simp] theorem sz_109 : sizeT Tryz.prog 109 = some 65 := nr (by kernel_rfl)
@[simp] theorem ag_109 : aggT Tryz.prog 109 = some true := nr (by kernel_rfl)
@[simp] theorem pl_109 : placesT Tryz.prog 109 = some (.array 1) := nr (by kernel_rfl)
@[simp] theorem sz_110 : sizeT Tryz.prog 110 = some 1 := nr (by kernel_rfl)
@[simp] theorem ag_110 : aggT Tryz.prog 110 = some false := nr (by kernel_rfl)
@[simp] theorem zero_110 : zeroV Tryz.prog 110 = some (.d (.other .nilFunc)) := nr (by kernel_rfl)
@[simp] theorem sz_111 : sizeT Tryz.prog 111 = some 1 := nr (by kernel_rfl)
@[simp] theorem ag_111 : aggT Tryz.prog 111 = some false := nr (by kernel_rfl)
@[simp] theorem zero_111 : zeroV Tryz.prog 111 = some (.d (.other .nilFunc)) := nr (by kernel_rfl)
@[simp] theorem sz_112 : sizeT Tryz.prog 112 = some 1 := nr (by kernel_rfl)
@[simp] theorem ag_112 : aggT Tryz.prog 112 = some false := nr (by kernel_rfl)
@[simp] theorem zero_112 : zeroV Tryz.prog 112 = some (.d (.other .nilFunc)) := nr (by kernel_rfl)
@[simp] theorem sz_113 : sizeT Tryz.prog 113 = some 1 := nr (by kernel_rfl)
@[simp] theorem ag_113 : aggT Tryz.prog 113 = some false := nr (by kernel_rfl)
@[simp] theorem zero_113 : zeroV Tryz.prog 113 = some (.d (.other .nilFunc)) := nr (by kernel_rfl)
@[simp] theorem sz_114 : sizeT Tryz.prog 114 = some 1 := nr (by kernel_rfl)
@[simp] theorem ag_114 : aggT Tryz.prog 114 = some false := nr (by kernel_rfl)
@[simp] theorem zero_114 : zeroV Tryz.prog 114 = some (.d (.other .nilFunc)) := nr (by kernel_rfl)
@[simp] theorem sz_115 : sizeT Tryz.prog 115 = some 1 := nr (by kernel_rfl)
@[simp] theorem ag_115 : aggT Tryz.prog 115 = some false := nr (by kernel_rfl)
@[simp] theorem zero_115 : zeroV Tryz.prog 115 = some (.d (.other .nilFunc)) := nr (by kernel_rfl)
@[simp] theorem und_116 : Tryz.prog.underlying 116 = some (.int .i64) := nr (by kernel_rfl)
@[simp] theorem sz_116 : sizeT Tryz.prog 116 = some 1 := nr (by kernel_rfl)
@[simp] theorem ag_116 : aggT Tryz.prog 116 = some false := nr (by kernel_rfl)
@[simp] theorem zero_116 : zeroV Tryz.prog 116 = some (.d (.int .i64 0)) := nr (by kernel_rfl)
@[simp] theorem sz_118 : sizeT Tryz.prog 118 = some 1 := nr (by kernel_rfl)
@[simp] theorem ag_118 : aggT Tryz.prog 118 = some false := nr (by kernel_rfl)
@[simp] theorem zero_118 : zeroV Tryz.prog 118 = some (.d (.other .nilFunc)) := nr (by kernel_rfl)
@[simp] theorem und_119 : Tryz.prog.underlying 119 = some (.pointer 131) := nr (by kernel_rfl)
@[simp] theorem sz_119 : sizeT Tryz.prog 119 = some 1 := nr (by kernel_rfl)
@[simp] theorem ag_119 : aggT Tryz.prog 119 = some false := nr (by kernel_rfl)
@[simp] theorem zero_119 : zeroV Tryz.prog 119 = some (.d (.other (.pointer none))) := nr (by kernel_rfl)
@[simp] theorem sz_120 : sizeT Tryz.prog 120 = some 1 := nr (by kernel_rfl)
@[simp] theorem ag_120 : aggT Tryz.prog 120 = some false := nr (by kernel_rfl)
@[simp] theorem zero_120 : zeroV Tryz.prog 120 = some (.d (.other .nilFunc)) := nr (by kernel_rfl)
@[simp] theorem sz_121 : sizeT Tryz.prog 121 = some 1 := nr (by kernel_rfl)
@[simp] theorem ag_121 : aggT Tryz.prog 121 = some false := nr (by kernel_rfl)
@[simp] theorem zero_121 : zeroV Tryz.prog 121 = some (.d (.other .nilFunc)) := nr (by kernel_rfl)
@[simp] theorem und_122 : Tryz.prog.underlying 122 = some (.array 32 5) := nr (by kernel_rfl)
@[simp] theorem sz_122 : sizeT Tryz.prog 122 = some 32 := nr (by kernel_rfl)
@[simp] theorem ag_122 : aggT Tryz.prog 122 = some true := nr (by kernel_rfl)
@[simp] theorem zero_122 : zeroV Tryz.prog 122 = some (.agg [.d (.int .u8 0), .d (.int .u8 0), .d (.int .u8 0), .d (.int .u8 0), .d (.int .u8 0), .d (.int .u8 0), .d (.int .u8 0), .d (.int .u8 0), .d (.int .u8 0), .d (.int .u8 0), .d (.int .u8 0), .d (.int .u8 0), .d (.int .u8 0), .d (.int .u8 0), .d (.int .u8 0), .d (.int .u8 0), .d (.int .u8 0), .d (.int .u8 0), .d (.int .u8 0), .d (.int .u8 0), .d (.int .u8 0), .d (.int .u8 0), .d (.int .u8 0), .d (.int .u8 0), .d (.int .u8 0), .d (.int .u8 0), .d (.int .u8 0), .d (.int .u8 0), .d (.int .u8 0), .d (.int .u8 0), .d (.int .u8 0), .d (.int .u8 0)]) := nr (by kernel_rfl)
@[simp] theorem pl_122 : placesT Tryz.prog 122 = some (.array 1) := nr (by kernel_rfl)
@[simp] theorem und_123 : Tryz.prog.underlying 123 = some (.array 64 5) := nr (by kernel_rfl)
@[simp] theorem sz_123 : sizeT Tryz.prog 123 = some 64 := nr (by kernel_rfl)
@[simp] theorem ag_123 : aggT Tryz.prog 123 = some true := nr (by kernel_rfl)
@[simp] theorem pl_123 : placesT Tryz.prog 123 = some (.array 1) := nr (by kernel_rfl)
@[simp] theorem und_124 : Tryz.prog.underlying 124 = some (.array 256 5) := nr (by kernel_rfl)
@[simp] theorem sz_124 : sizeT Tryz.prog 124 = some 256 := nr (by kernel_rfl)
@[simp] theorem ag_124 : aggT Tryz.prog 124 = some true := nr (by kernel_rfl)
@[simp] theorem pl_124 : placesT Tryz.prog 124 = some (.array 1) := nr (by kernel_rfl)
@[simp] theorem sz_125 : sizeT Tryz.prog 125 = some 2 := nr (by kernel_rfl)
@[simp] theorem ag_125 : aggT Tryz.prog 125 = some true := nr (by kernel_rfl)
@[simp] theorem zero_125 : zeroV Tryz.prog 125 = some (.agg [.d (.int .u8 0), .d (.int .u8 0)]) := nr (by kernel_rfl)
@[simp] theorem fld_125_0 : fieldOf Tryz.prog 125 0 = some (0, 5) := nr (by kernel_rfl)
@[simp] theorem fld_125_1 : fieldOf Tryz.prog 125 1 = some (1, 5) := nr (by kernel_rfl)
@[simp] theorem pl_125 : placesT Tryz.prog 125 = some (.struct [(0, 1), (1, 1)]) := nr (by kernel_rfl)
@[simp] theorem sz_126 : sizeT Tryz.prog 126 = some 2 := nr (by kernel_rfl)
@[simp] theorem ag_126 : aggT Tryz.prog 126 = some true := nr (by kernel_rfl)
@[simp] theorem zero_126 : zeroV Tryz.prog 126 = some (.agg [.d (.int .u8 0), .d (.int .u8 0)]) := nr (by kernel_rfl)
@[simp] theorem fld_126_0 : fieldOf Tryz.prog 126 0 = some (0, 5) := nr (by kernel_rfl)
@[simp] theorem fld_126_1 : fieldOf Tryz.prog 126 1 = some (1, 5) := nr (by kernel_rfl)
@[simp] theorem pl_126 : placesT Tryz.prog 126 = some (.struct [(0, 1), (1, 1)]) := nr (by kernel_rfl)
@[simp] theorem und_127 : Tryz.prog.underlying 127 = some (.array 16 126) := nr (by kernel_rfl)
@[simp] theorem sz_127 : sizeT Tryz.prog 127 = some 32 := nr (by kernel_rfl)
@[simp] theorem ag_127 : aggT Tryz.prog 127 = some true := nr (by kernel_rfl)
@[simp] theorem zero_127 : zeroV Tryz.prog 127 = some (.agg [.d (.int .u8 0), .d (.int .u8 0), .d (.int .u8 0), .d (.int .u8 0), .d (.int .u8 0), .d (.int .u8 0), .d (.int .u8 0), .d (.int .u8 0), .d (.int .u8 0), .d (.int .u8 0), .d (.int .u8 0), .d (.int .u8 0), .d (.int .u8 0), .d (.int .u8 0), .d (.int .u8 0), .d (.int .u8 0), .d (.int .u8 0), .d (.int .u8 0), .d (.int .u8 0), .d (.int .u8 0), .d (.int .u8 0), .d (.int .u8 0), .d (.int .u8 0), .d (.int .u8 0), .d (.int .u8 0), .d (.int .u8 0), .d (.int .u8 0), .d (.int .u8 0), .d (.int .u8 0), .d (.int .u8 0), .d (.int .u8 0), .d (.int .u8 0)]) := nr (by kernel_rfl)
@[simp] theorem pl_127 : placesT Tryz.prog 127 = some (.array 2) := nr (by kernel_rfl)
@[simp] theorem sz_128 : sizeT Tryz.prog 128 = some 1 := nr (by kernel_rfl)
@[simp] theorem ag_128 : aggT Tryz.prog 128 = some false := nr (by kernel_rfl)
@[simp] theorem zero_128 : zeroV Tryz.prog 128 = some (.d (.other .nilFunc)) := nr (by kernel_rfl)
@[simp] theorem sz_129 : sizeT Tryz.prog 129 = some 1 := nr (by kernel_rfl)
@[simp] theorem ag_129 : aggT Tryz.prog 129 = some false := nr (by kernel_rfl)
@[simp] theorem zero_129 : zeroV Tryz.prog 129 = some (.d (.other .nilFunc)) := nr (by kernel_rfl)
@[simp] theorem sz_130 : sizeT Tryz.prog 130 = some 3 := nr (by kernel_rfl)
@[simp] theorem ag_130 : aggT Tryz.prog 130 = some true := nr (by kernel_rfl)
@[simp] theorem zero_130 : zeroV Tryz.prog 130 = some (.agg [.d (.str []), .d (.str []), .d (.other .nilIface)]) := nr (by kernel_rfl)
@[simp] theorem fld_130_0 : fieldOf Tryz.prog 130 0 = some (0, 9) := nr (by kernel_rfl)
@[simp] theorem fld_130_1 : fieldOf Tryz.prog 130 1 = some (1, 9) := nr (by kernel_rfl)
@[simp] theorem fld_130_2 : fieldOf Tryz.prog 130 2 = some (2, 50) := nr (by kernel_rfl)
@[simp] theorem pl_130 : placesT Tryz.prog 130 = some (.struct [(0, 1), (1, 1), (2, 1)]) := nr (by kernel_rfl)
@[simp] theorem sz_131 : sizeT Tryz.prog 131 = some 3 := nr (by kernel_rfl)
@[simp] theorem ag_131 : aggT Tryz.prog 131 = some true := nr (by kernel_rfl)
@[simp] theorem zero_131 : zeroV Tryz.prog 131 = some (.agg [.d (.str []), .d (.str []), .d (.other .nilIface)]) := nr (by kernel_rfl)
@[simp] theorem fld_131_0 : fieldOf Tryz.prog 131 0 = some (0, 9) := nr (by kernel_rfl)
@[simp] theorem fld_131_1 : fieldOf Tryz.prog 131 1 = some (1, 9) := nr (by kernel_rfl)
@[simp] theorem fld_131_2 : fieldOf Tryz.prog 131 2 = some (2, 50) := nr (by kernel_rfl)
@[simp] theorem pl_131 : placesT Tryz.prog 131 = some (.struct [(0, 1), (1, 1), (2, 1)]) := nr (by kernel_rfl)
@[simp] theorem sz_132 : sizeT Tryz.prog 132 = some 1 := nr (by kernel_rfl)
@[simp] theorem ag_132 : aggT Tryz.prog 132 = some false := nr (by kernel_rfl)
@[simp] theorem zero_132 : zeroV Tryz.prog 132 = some (.d (.other .nilFunc)) := nr (by kernel_rfl)
@[simp] theorem und_133 : Tryz.prog.underlying 133 = some (.pointer 135) := nr (by kernel_rfl)
@[simp] theorem sz_133 : sizeT Tryz.prog 133 = some 1 := nr (by kernel_rfl)
@[simp] theorem ag_133 : aggT Tryz.prog 133 = some false := nr (by kernel_rfl)
@[simp] theorem zero_133 : zeroV Tryz.prog 133 = some (.d (.other (.pointer none))) := nr (by kernel_rfl)
@[simp] theorem sz_134 : sizeT Tryz.prog 134 = some 1 := nr (by kernel_rfl)
@[simp] theorem ag_134 : aggT Tryz.prog 134 = some true := nr (by kernel_rfl)
@[simp] theorem zero_134 : zeroV Tryz.prog 134 = some (.agg [.d (.str [])]) := nr (by kernel_rfl)
@[simp] theorem fld_134_0 : fieldOf Tryz.prog 134 0 = some (0, 9) := nr (by kernel_rfl)
@[simp] theorem pl_134 : placesT Tryz.prog 134 = some (.struct [(0, 1)]) := nr (by kernel_rfl)
@[simp] theorem sz_135 : sizeT Tryz.prog 135 = some 1 := nr (by kernel_rfl)
@[simp] theorem ag_135 : aggT Tryz.prog 135 = some true := nr (by kernel_rfl)
@[simp] theorem zero_135 : zeroV Tryz.prog 135 = some (.agg [.d (.str [])]) := nr (by kernel_rfl)
@[simp] theorem fld_135_0 : fieldOf Tryz.prog 135 0 = some (0, 9) := nr (by kernel_rfl)
@[simp] theorem pl_135 : placesT Tryz.prog 135 = some (.struct [(0, 1)]) := nr (by kernel_rfl)
@[simp] theorem sz_136 : sizeT Tryz.prog 136 = some 1 := nr (by kernel_rfl)
@[simp] theorem ag_136 : aggT Tryz.prog 136 = some false := nr (by kernel_rfl)
@[simp] theorem zero_136 : zeroV Tryz.prog 136 = some (.d (.other .nilFunc)) := nr (by kernel_rfl)
@[simp] theorem sz_142 : sizeT Tryz.prog 142 = some 1 := nr (by kernel_rfl)
@[simp] theorem ag_142 : aggT Tryz.prog 142 = some false := nr (by kernel_rfl)
@[simp] theorem zero_142 : zeroV Tryz.prog 142 = some (.d (.other .nilFunc)) := nr (by kernel_rfl)
theorem eq_58 : EqOk Tryz.prog 58 [.int .u8, .int .i64] := by
  refine ⟨by kernel_rfl, fun xs ys hx hy w => ?_⟩
  obtain ⟨xa0, ra0, ea0, ka0, hx0⟩ := kinds_cons hx
  obtain ⟨a0, rfl⟩ := kind_int ka0
  obtain ⟨xa1, ra1, ea1, ka1, hx1⟩ := kinds_cons hx0
  obtain ⟨a1, rfl⟩ := kind_int ka1
  have za := kinds_nil hx1
  subst za
  subst ea1
  subst ea0
  obtain ⟨xb0, rb0, eb0, kb0, hy0⟩ := kinds_cons hy
  obtain ⟨b0, rfl⟩ := kind_int kb0
  obtain ⟨xb1, rb1, eb1, kb1, hy1⟩ := kinds_cons hy0
  obtain ⟨b1, rfl⟩ := kind_int kb1
  have zb := kinds_nil hy1
  subst zb
  subst eb1
  subst eb0
  have hS : Tryz.prog.underlying 58 = some (.struct (Tryz.prog.fieldsOf 58)) := by kernel_rfl
  simp only [Op.equal, Op.maxDepth]
  rw [show (10000 : Nat) = 9999 + 1 from rfl, run_equalIn_agg w 9999 58 _ _ hS (by kernel_rfl)]
  simp only [Program.fieldsOf, Tryz.underlying58, List.map_cons, List.map_nil, D.val]
  go_simp
  simp only [eqAll, eqD]
  refine Decidable.byCases (p := a0 = b0) (fun h0 => ?_) (fun h0 => by simp [h0])
  refine Decidable.byCases (p := a1 = b1) (fun h1 => ?_) (fun h1 => by simp [h0, h1])
  simp [h0, h1]
def eqTab : TypeId → Option (List SK)
  | 58 => some [.int .u8, .int .i64]
  | _ => none
theorem eqTab_ok : ∀ t ks, eqTab t = some ks → EqOk Tryz.prog t ks := by
  intro t ks h
  unfold eqTab at h
  split at h
  · injection h with h; subst h; exact eq_58
  · cases h
def gP : Pg Tryz.prog := ⟨by kernel_rfl, eqTab, eqTab_ok⟩
@[simp] theorem gE_58 : gP.E 58 = some [.int .u8, .int .i64] := nr rfl
theorem ent_3 : enterable Tryz.prog 3 = true := by kernel_rfl
theorem ent_4 : enterable Tryz.prog 4 = true := by kernel_rfl
theorem ent_5 : enterable Tryz.prog 5 = true := by kernel_rfl
theorem ent_6 : enterable Tryz.prog 6 = true := by kernel_rfl
theorem ent_7 : enterable Tryz.prog 7 = true := by kernel_rfl
theorem ent_8 : enterable Tryz.prog 8 = true := by kernel_rfl
theorem ent_9 : enterable Tryz.prog 9 = true := by kernel_rfl
theorem ent_10 : enterable Tryz.prog 10 = true := by kernel_rfl
theorem ent_11 : enterable Tryz.prog 11 = true := by kernel_rfl
theorem ent_12 : enterable Tryz.prog 12 = true := by kernel_rfl
theorem ent_13 : enterable Tryz.prog 13 = true := by kernel_rfl
theorem ent_14 : enterable Tryz.prog 14 = true := by kernel_rfl
theorem ent_15 : enterable Tryz.prog 15 = true := by kernel_rfl
theorem ent_16 : enterable Tryz.prog 16 = true := by kernel_rfl
theorem ent_17 : enterable Tryz.prog 17 = true := by kernel_rfl
theorem ent_18 : enterable Tryz.prog 18 = true := by kernel_rfl
theorem ent_19 : enterable Tryz.prog 19 = true := by kernel_rfl
theorem ent_20 : enterable Tryz.prog 20 = true := by kernel_rfl
theorem ent_21 : enterable Tryz.prog 21 = true := by kernel_rfl
theorem ent_22 : enterable Tryz.prog 22 = true := by kernel_rfl
theorem ent_23 : enterable Tryz.prog 23 = true := by kernel_rfl
theorem ent_24 : enterable Tryz.prog 24 = true := by kernel_rfl
theorem ent_25 : enterable Tryz.prog 25 = true := by kernel_rfl
theorem ent_26 : enterable Tryz.prog 26 = true := by kernel_rfl
theorem ent_27 : enterable Tryz.prog 27 = true := by kernel_rfl
theorem ent_30 : enterable Tryz.prog 30 = true := by kernel_rfl
theorem ent_33 : enterable Tryz.prog 33 = true := by kernel_rfl
theorem ent_34 : enterable Tryz.prog 34 = true := by kernel_rfl
theorem ent_35 : enterable Tryz.prog 35 = true := by kernel_rfl
theorem ent_36 : enterable Tryz.prog 36 = true := by kernel_rfl
theorem ent_37 : enterable Tryz.prog 37 = true := by kernel_rfl
theorem ent_38 : enterable Tryz.prog 38 = true := by kernel_rfl
theorem ent_39 : enterable Tryz.prog 39 = true := by kernel_rfl
theorem ent_41 : enterable Tryz.prog 41 = true := by kernel_rfl
theorem ent_42 : enterable Tryz.prog 42 = true := by kernel_rfl
theorem ent_43 : enterable Tryz.prog 43 = true := by kernel_rfl
theorem ent_44 : enterable Tryz.prog 44 = true := by kernel_rfl
theorem ent_45 : enterable Tryz.prog 45 = true := by kernel_rfl
theorem ent_46 : enterable Tryz.prog 46 = true := by kernel_rfl
theorem ent_48 : enterable Tryz.prog 48 = true := by kernel_rfl
theorem ent_49 : enterable Tryz.prog 49 = true := by kernel_rfl
theorem ent_51 : enterable Tryz.prog 51 = true := by kernel_rfl
theorem ent_53 : enterable Tryz.prog 53 = true := by kernel_rfl
theorem ent_54 : enterable Tryz.prog 54 = true := by kernel_rfl
theorem ent_55 : enterable Tryz.prog 55 = true := by kernel_rfl
theorem ent_56 : enterable Tryz.prog 56 = true := by kernel_rfl
theorem ent_57 : enterable Tryz.prog 57 = true := by kernel_rfl
theorem ent_58 : enterable Tryz.prog 58 = true := by kernel_rfl
theorem ent_63 : enterable Tryz.prog 63 = true := by kernel_rfl
theorem ent_68 : enterable Tryz.prog 68 = true := by kernel_rfl
theorem ent_70 : enterable Tryz.prog 70 = true := by kernel_rfl
theorem ent_72 : enterable Tryz.prog 72 = true := by kernel_rfl
theorem ent_73 : enterable Tryz.prog 73 = true := by kernel_rfl
theorem ent_84 : enterable Tryz.prog 84 = true := by kernel_rfl
theorem ent_86 : enterable Tryz.prog 86 = true := by kernel_rfl
theorem ent_92 : enterable Tryz.prog 92 = true := by kernel_rfl
theorem ent_95 : enterable Tryz.prog 95 = true := by kernel_rfl
theorem ent_96 : enterable Tryz.prog 96 = true := by kernel_rfl
theorem ent_97 : enterable Tryz.prog 97 = true := by kernel_rfl

end Go.Proofs.YtijihbegfmkceaaGreatDoor
