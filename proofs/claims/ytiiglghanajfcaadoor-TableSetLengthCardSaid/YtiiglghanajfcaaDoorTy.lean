/-
  Facts on types and functions of this seat, for the shadow (written by wip/types.py).
-/
import Derived.Test.YtiiglghanajfcaaDoorSp
import Derived.Laws.StructEq
import Derived.ChangeKeysEq
namespace Go.Proofs.YtiiglghanajfcaaDoor
open Go.RowKit
set_option linter.unusedSimpArgs false

@[simp] theorem sz_1 : sizeT Tryd.prog 1 = some 1 := nr (by kernel_rfl)
@[simp] theorem ag_1 : aggT Tryd.prog 1 = some false := nr (by kernel_rfl)
@[simp] theorem zero_1 : zeroV Tryd.prog 1 = some (.d (.other .nilFunc)) := nr (by kernel_rfl)
@[simp] theorem und_2 : Tryd.prog.underlying 2 = some (.int .i64) := nr (by kernel_rfl)
@[simp] theorem sz_2 : sizeT Tryd.prog 2 = some 1 := nr (by kernel_rfl)
@[simp] theorem ag_2 : aggT Tryd.prog 2 = some false := nr (by kernel_rfl)
@[simp] theorem zero_2 : zeroV Tryd.prog 2 = some (.d (.int .i64 0)) := nr (by kernel_rfl)
@[simp] theorem und_3 : Tryd.prog.underlying 3 = some (.int .i64) := nr (by kernel_rfl)
@[simp] theorem sz_3 : sizeT Tryd.prog 3 = some 1 := nr (by kernel_rfl)
@[simp] theorem ag_3 : aggT Tryd.prog 3 = some false := nr (by kernel_rfl)
@[simp] theorem zero_3 : zeroV Tryd.prog 3 = some (.d (.int .i64 0)) := nr (by kernel_rfl)
@[simp] theorem und_4 : Tryd.prog.underlying 4 = some (.bool) := nr (by kernel_rfl)
@[simp] theorem sz_4 : sizeT Tryd.prog 4 = some 1 := nr (by kernel_rfl)
@[simp] theorem ag_4 : aggT Tryd.prog 4 = some false := nr (by kernel_rfl)
@[simp] theorem zero_4 : zeroV Tryd.prog 4 = some (.d (.bool false)) := nr (by kernel_rfl)
@[simp] theorem und_5 : Tryd.prog.underlying 5 = some (.int .u8) := nr (by kernel_rfl)
@[simp] theorem sz_5 : sizeT Tryd.prog 5 = some 1 := nr (by kernel_rfl)
@[simp] theorem ag_5 : aggT Tryd.prog 5 = some false := nr (by kernel_rfl)
@[simp] theorem zero_5 : zeroV Tryd.prog 5 = some (.d (.int .u8 0)) := nr (by kernel_rfl)
@[simp] theorem und_9 : Tryd.prog.underlying 9 = some (.string) := nr (by kernel_rfl)
@[simp] theorem sz_9 : sizeT Tryd.prog 9 = some 1 := nr (by kernel_rfl)
@[simp] theorem ag_9 : aggT Tryd.prog 9 = some false := nr (by kernel_rfl)
@[simp] theorem zero_9 : zeroV Tryd.prog 9 = some (.d (.str [])) := nr (by kernel_rfl)
@[simp] theorem und_12 : Tryd.prog.underlying 12 = some (.int .u64) := nr (by kernel_rfl)
@[simp] theorem sz_12 : sizeT Tryd.prog 12 = some 1 := nr (by kernel_rfl)
@[simp] theorem ag_12 : aggT Tryd.prog 12 = some false := nr (by kernel_rfl)
@[simp] theorem zero_12 : zeroV Tryd.prog 12 = some (.d (.int .u64 0)) := nr (by kernel_rfl)
@[simp] theorem sz_13 : sizeT Tryd.prog 13 = some 2 := nr (by kernel_rfl)
@[simp] theorem ag_13 : aggT Tryd.prog 13 = some true := nr (by kernel_rfl)
@[simp] theorem zero_13 : zeroV Tryd.prog 13 = some (.agg [.d (.str []), .d (.int .u64 0)]) := nr (by kernel_rfl)
@[simp] theorem fld_13_0 : fieldOf Tryd.prog 13 0 = some (0, 9) := nr (by kernel_rfl)
@[simp] theorem fld_13_1 : fieldOf Tryd.prog 13 1 = some (1, 12) := nr (by kernel_rfl)
@[simp] theorem pl_13 : placesT Tryd.prog 13 = some (.struct [(0, 1), (1, 1)]) := nr (by kernel_rfl)
@[simp] theorem sz_19 : sizeT Tryd.prog 19 = some 1 := nr (by kernel_rfl)
@[simp] theorem ag_19 : aggT Tryd.prog 19 = some true := nr (by kernel_rfl)
@[simp] theorem zero_19 : zeroV Tryd.prog 19 = some (.agg [.d (.other (.pointer none))]) := nr (by kernel_rfl)
@[simp] theorem fld_19_0 : fieldOf Tryd.prog 19 0 = some (0, 17) := nr (by kernel_rfl)
@[simp] theorem pl_19 : placesT Tryd.prog 19 = some (.struct [(0, 1)]) := nr (by kernel_rfl)
@[simp] theorem sz_20 : sizeT Tryd.prog 20 = some 1 := nr (by kernel_rfl)
@[simp] theorem ag_20 : aggT Tryd.prog 20 = some false := nr (by kernel_rfl)
@[simp] theorem zero_20 : zeroV Tryd.prog 20 = some (.d (.other .nilIface)) := nr (by kernel_rfl)
@[simp] theorem und_21 : Tryd.prog.underlying 21 = some (.int .i32) := nr (by kernel_rfl)
@[simp] theorem sz_21 : sizeT Tryd.prog 21 = some 1 := nr (by kernel_rfl)
@[simp] theorem ag_21 : aggT Tryd.prog 21 = some false := nr (by kernel_rfl)
@[simp] theorem zero_21 : zeroV Tryd.prog 21 = some (.d (.int .i32 0)) := nr (by kernel_rfl)
@[simp] theorem sz_22 : sizeT Tryd.prog 22 = some 3 := nr (by kernel_rfl)
@[simp] theorem ag_22 : aggT Tryd.prog 22 = some true := nr (by kernel_rfl)
@[simp] theorem zero_22 : zeroV Tryd.prog 22 = some (.agg [.d (.int .i64 0), .d (.int .i64 0), .d (.int .i64 0)]) := nr (by kernel_rfl)
@[simp] theorem fld_22_0 : fieldOf Tryd.prog 22 0 = some (0, 2) := nr (by kernel_rfl)
@[simp] theorem fld_22_1 : fieldOf Tryd.prog 22 1 = some (1, 2) := nr (by kernel_rfl)
@[simp] theorem fld_22_2 : fieldOf Tryd.prog 22 2 = some (2, 2) := nr (by kernel_rfl)
@[simp] theorem pl_22 : placesT Tryd.prog 22 = some (.struct [(0, 1), (1, 1), (2, 1)]) := nr (by kernel_rfl)
@[simp] theorem sz_23 : sizeT Tryd.prog 23 = some 3 := nr (by kernel_rfl)
@[simp] theorem ag_23 : aggT Tryd.prog 23 = some true := nr (by kernel_rfl)
@[simp] theorem zero_23 : zeroV Tryd.prog 23 = some (.agg [.d (.int .i64 0), .d (.int .i64 0), .d (.int .i64 0)]) := nr (by kernel_rfl)
@[simp] theorem fld_23_0 : fieldOf Tryd.prog 23 0 = some (0, 2) := nr (by kernel_rfl)
@[simp] theorem fld_23_1 : fieldOf Tryd.prog 23 1 = some (1, 2) := nr (by kernel_rfl)
@[simp] theorem fld_23_2 : fieldOf Tryd.prog 23 2 = some (2, 2) := nr (by kernel_rfl)
@[simp] theorem pl_23 : placesT Tryd.prog 23 = some (.struct [(0, 1), (1, 1), (2, 1)]) := nr (by kernel_rfl)
@[simp] theorem und_24 : Tryd.prog.underlying 24 = some (.array 6 23) := nr (by kernel_rfl)
@[simp] theorem sz_24 : sizeT Tryd.prog 24 = some 18 := nr (by kernel_rfl)
@[simp] theorem ag_24 : aggT Tryd.prog 24 = some true := nr (by kernel_rfl)
@[simp] theorem zero_24 : zeroV Tryd.prog 24 = some (.agg [.d (.int .i64 0), .d (.int .i64 0), .d (.int .i64 0), .d (.int .i64 0), .d (.int .i64 0), .d (.int .i64 0), .d (.int .i64 0), .d (.int .i64 0), .d (.int .i64 0), .d (.int .i64 0), .d (.int .i64 0), .d (.int .i64 0), .d (.int .i64 0), .d (.int .i64 0), .d (.int .i64 0), .d (.int .i64 0), .d (.int .i64 0), .d (.int .i64 0)]) := nr (by kernel_rfl)
@[simp] theorem pl_24 : placesT Tryd.prog 24 = some (.array 3) := nr (by kernel_rfl)
@[simp] theorem und_25 : Tryd.prog.underlying 25 = some (.slice 61) := nr (by kernel_rfl)
@[simp] theorem sz_25 : sizeT Tryd.prog 25 = some 1 := nr (by kernel_rfl)
@[simp] theorem ag_25 : aggT Tryd.prog 25 = some false := nr (by kernel_rfl)
@[simp] theorem zero_25 : zeroV Tryd.prog 25 = some (.nil) := nr (by kernel_rfl)
@[simp] theorem app_25 : appT Tryd.prog 25 = some (61, 2) := nr (by kernel_rfl)
@[simp] theorem sz_26 : sizeT Tryd.prog 26 = some 19 := nr (by kernel_rfl)
@[simp] theorem ag_26 : aggT Tryd.prog 26 = some true := nr (by kernel_rfl)
@[simp] theorem zero_26 : zeroV Tryd.prog 26 = some (.agg [.d (.int .i64 0), .d (.int .i64 0), .d (.int .i64 0), .d (.int .i64 0), .d (.int .i64 0), .d (.int .i64 0), .d (.int .i64 0), .d (.int .i64 0), .d (.int .i64 0), .d (.int .i64 0), .d (.int .i64 0), .d (.int .i64 0), .d (.int .i64 0), .d (.int .i64 0), .d (.int .i64 0), .d (.int .i64 0), .d (.int .i64 0), .d (.int .i64 0), .nil]) := nr (by kernel_rfl)
@[simp] theorem fld_26_0 : fieldOf Tryd.prog 26 0 = some (0, 24) := nr (by kernel_rfl)
@[simp] theorem fld_26_1 : fieldOf Tryd.prog 26 1 = some (18, 25) := nr (by kernel_rfl)
@[simp] theorem pl_26 : placesT Tryd.prog 26 = some (.struct [(0, 18), (18, 1)]) := nr (by kernel_rfl)
@[simp] theorem sz_27 : sizeT Tryd.prog 27 = some 19 := nr (by kernel_rfl)
@[simp] theorem ag_27 : aggT Tryd.prog 27 = some true := nr (by kernel_rfl)
@[simp] theorem zero_27 : zeroV Tryd.prog 27 = some (.agg [.d (.int .i64 0), .d (.int .i64 0), .d (.int .i64 0), .d (.int .i64 0), .d (.int .i64 0), .d (.int .i64 0), .d (.int .i64 0), .d (.int .i64 0), .d (.int .i64 0), .d (.int .i64 0), .d (.int .i64 0), .d (.int .i64 0), .d (.int .i64 0), .d (.int .i64 0), .d (.int .i64 0), .d (.int .i64 0), .d (.int .i64 0), .d (.int .i64 0), .nil]) := nr (by kernel_rfl)
@[simp] theorem fld_27_0 : fieldOf Tryd.prog 27 0 = some (0, 24) := nr (by kernel_rfl)
@[simp] theorem fld_27_1 : fieldOf Tryd.prog 27 1 = some (18, 25) := nr (by kernel_rfl)
@[simp] theorem pl_27 : placesT Tryd.prog 27 = some (.struct [(0, 18), (18, 1)]) := nr (by kernel_rfl)
@[simp] theorem sz_28 : sizeT Tryd.prog 28 = some 1 := nr (by kernel_rfl)
@[simp] theorem ag_28 : aggT Tryd.prog 28 = some false := nr (by kernel_rfl)
@[simp] theorem zero_28 : zeroV Tryd.prog 28 = some (.d (.other .nilFunc)) := nr (by kernel_rfl)
@[simp] theorem und_29 : Tryd.prog.underlying 29 = some (.int .i64) := nr (by kernel_rfl)
@[simp] theorem sz_29 : sizeT Tryd.prog 29 = some 1 := nr (by kernel_rfl)
@[simp] theorem ag_29 : aggT Tryd.prog 29 = some false := nr (by kernel_rfl)
@[simp] theorem zero_29 : zeroV Tryd.prog 29 = some (.d (.int .i64 0)) := nr (by kernel_rfl)
@[simp] theorem sz_30 : sizeT Tryd.prog 30 = some 1 := nr (by kernel_rfl)
@[simp] theorem ag_30 : aggT Tryd.prog 30 = some false := nr (by kernel_rfl)
@[simp] theorem zero_30 : zeroV Tryd.prog 30 = some (.d (.other .nilFunc)) := nr (by kernel_rfl)
@[simp] theorem und_31 : Tryd.prog.underlying 31 = some (.slice 48) := nr (by kernel_rfl)
@[simp] theorem sz_31 : sizeT Tryd.prog 31 = some 1 := nr (by kernel_rfl)
@[simp] theorem ag_31 : aggT Tryd.prog 31 = some false := nr (by kernel_rfl)
@[simp] theorem zero_31 : zeroV Tryd.prog 31 = some (.nil) := nr (by kernel_rfl)
@[simp] theorem app_31 : appT Tryd.prog 31 = some (48, 2) := nr (by kernel_rfl)
@[simp] theorem sz_32 : sizeT Tryd.prog 32 = some 19 := nr (by kernel_rfl)
@[simp] theorem ag_32 : aggT Tryd.prog 32 = some true := nr (by kernel_rfl)
@[simp] theorem zero_32 : zeroV Tryd.prog 32 = some (.agg [.d (.int .i64 0), .d (.int .i64 0), .d (.int .i64 0), .d (.int .i64 0), .d (.int .i64 0), .d (.int .i64 0), .d (.int .i64 0), .d (.int .i64 0), .d (.int .i64 0), .d (.int .i64 0), .d (.int .i64 0), .d (.int .i64 0), .d (.int .i64 0), .d (.int .i64 0), .d (.int .i64 0), .d (.int .i64 0), .d (.int .i64 0), .d (.int .i64 0), .nil]) := nr (by kernel_rfl)
@[simp] theorem fld_32_0 : fieldOf Tryd.prog 32 0 = some (0, 24) := nr (by kernel_rfl)
@[simp] theorem fld_32_1 : fieldOf Tryd.prog 32 1 = some (18, 31) := nr (by kernel_rfl)
@[simp] theorem pl_32 : placesT Tryd.prog 32 = some (.struct [(0, 18), (18, 1)]) := nr (by kernel_rfl)
@[simp] theorem sz_33 : sizeT Tryd.prog 33 = some 19 := nr (by kernel_rfl)
@[simp] theorem ag_33 : aggT Tryd.prog 33 = some true := nr (by kernel_rfl)
@[simp] theorem zero_33 : zeroV Tryd.prog 33 = some (.agg [.d (.int .i64 0), .d (.int .i64 0), .d (.int .i64 0), .d (.int .i64 0), .d (.int .i64 0), .d (.int .i64 0), .d (.int .i64 0), .d (.int .i64 0), .d (.int .i64 0), .d (.int .i64 0), .d (.int .i64 0), .d (.int .i64 0), .d (.int .i64 0), .d (.int .i64 0), .d (.int .i64 0), .d (.int .i64 0), .d (.int .i64 0), .d (.int .i64 0), .nil]) := nr (by kernel_rfl)
@[simp] theorem fld_33_0 : fieldOf Tryd.prog 33 0 = some (0, 24) := nr (by kernel_rfl)
@[simp] theorem fld_33_1 : fieldOf Tryd.prog 33 1 = some (18, 31) := nr (by kernel_rfl)
@[simp] theorem pl_33 : placesT Tryd.prog 33 = some (.struct [(0, 18), (18, 1)]) := nr (by kernel_rfl)
@[simp] theorem sz_34 : sizeT Tryd.prog 34 = some 1 := nr (by kernel_rfl)
@[simp] theorem ag_34 : aggT Tryd.prog 34 = some false := nr (by kernel_rfl)
@[simp] theorem zero_34 : zeroV Tryd.prog 34 = some (.d (.other .nilFunc)) := nr (by kernel_rfl)
@[simp] theorem sz_35 : sizeT Tryd.prog 35 = some 1 := nr (by kernel_rfl)
@[simp] theorem ag_35 : aggT Tryd.prog 35 = some false := nr (by kernel_rfl)
@[simp] theorem zero_35 : zeroV Tryd.prog 35 = some (.d (.other .nilFunc)) := nr (by kernel_rfl)
@[simp] theorem sz_36 : sizeT Tryd.prog 36 = some 1 := nr (by kernel_rfl)
@[simp] theorem ag_36 : aggT Tryd.prog 36 = some false := nr (by kernel_rfl)
@[simp] theorem zero_36 : zeroV Tryd.prog 36 = some (.d (.other .nilFunc)) := nr (by kernel_rfl)
@[simp] theorem sz_38 : sizeT Tryd.prog 38 = some 1 := nr (by kernel_rfl)
@[simp] theorem ag_38 : aggT Tryd.prog 38 = some false := nr (by kernel_rfl)
@[simp] theorem zero_38 : zeroV Tryd.prog 38 = some (.d (.other .nilFunc)) := nr (by kernel_rfl)
@[simp] theorem sz_40 : sizeT Tryd.prog 40 = some 1 := nr (by kernel_rfl)
@[simp] theorem ag_40 : aggT Tryd.prog 40 = some false := nr (by kernel_rfl)
@[simp] theorem zero_40 : zeroV Tryd.prog 40 = some (.d (.other .nilFunc)) := nr (by kernel_rfl)
@[simp] theorem sz_41 : sizeT Tryd.prog 41 = some 1 := nr (by kernel_rfl)
@[simp] theorem ag_41 : aggT Tryd.prog 41 = some false := nr (by kernel_rfl)
@[simp] theorem zero_41 : zeroV Tryd.prog 41 = some (.d (.other .nilFunc)) := nr (by kernel_rfl)
@[simp] theorem sz_42 : sizeT Tryd.prog 42 = some 1 := nr (by kernel_rfl)
@[simp] theorem ag_42 : aggT Tryd.prog 42 = some false := nr (by kernel_rfl)
@[simp] theorem zero_42 : zeroV Tryd.prog 42 = some (.d (.other .nilFunc)) := nr (by kernel_rfl)
@[simp] theorem sz_43 : sizeT Tryd.prog 43 = some 1 := nr (by kernel_rfl)
@[simp] theorem ag_43 : aggT Tryd.prog 43 = some false := nr (by kernel_rfl)
@[simp] theorem zero_43 : zeroV Tryd.prog 43 = some (.d (.other .nilFunc)) := nr (by kernel_rfl)
@[simp] theorem sz_44 : sizeT Tryd.prog 44 = some 1 := nr (by kernel_rfl)
@[simp] theorem ag_44 : aggT Tryd.prog 44 = some false := nr (by kernel_rfl)
@[simp] theorem zero_44 : zeroV Tryd.prog 44 = some (.d (.other .nilFunc)) := nr (by kernel_rfl)
@[simp] theorem sz_45 : sizeT Tryd.prog 45 = some 1 := nr (by kernel_rfl)
@[simp] theorem ag_45 : aggT Tryd.prog 45 = some false := nr (by kernel_rfl)
@[simp] theorem zero_45 : zeroV Tryd.prog 45 = some (.d (.other .nilFunc)) := nr (by kernel_rfl)
@[simp] theorem sz_46 : sizeT Tryd.prog 46 = some 1 := nr (by kernel_rfl)
@[simp] theorem ag_46 : aggT Tryd.prog 46 = some false := nr (by kernel_rfl)
@[simp] theorem zero_46 : zeroV Tryd.prog 46 = some (.d (.other .nilFunc)) := nr (by kernel_rfl)
@[simp] theorem sz_47 : sizeT Tryd.prog 47 = some 2 := nr (by kernel_rfl)
@[simp] theorem ag_47 : aggT Tryd.prog 47 = some true := nr (by kernel_rfl)
@[simp] theorem zero_47 : zeroV Tryd.prog 47 = some (.agg [.d (.int .i64 0), .d (.int .i64 0)]) := nr (by kernel_rfl)
@[simp] theorem fld_47_0 : fieldOf Tryd.prog 47 0 = some (0, 2) := nr (by kernel_rfl)
@[simp] theorem fld_47_1 : fieldOf Tryd.prog 47 1 = some (1, 2) := nr (by kernel_rfl)
@[simp] theorem pl_47 : placesT Tryd.prog 47 = some (.struct [(0, 1), (1, 1)]) := nr (by kernel_rfl)
@[simp] theorem sz_48 : sizeT Tryd.prog 48 = some 2 := nr (by kernel_rfl)
@[simp] theorem ag_48 : aggT Tryd.prog 48 = some true := nr (by kernel_rfl)
@[simp] theorem zero_48 : zeroV Tryd.prog 48 = some (.agg [.d (.int .i64 0), .d (.int .i64 0)]) := nr (by kernel_rfl)
@[simp] theorem fld_48_0 : fieldOf Tryd.prog 48 0 = some (0, 2) := nr (by kernel_rfl)
@[simp] theorem fld_48_1 : fieldOf Tryd.prog 48 1 = some (1, 2) := nr (by kernel_rfl)
@[simp] theorem pl_48 : placesT Tryd.prog 48 = some (.struct [(0, 1), (1, 1)]) := nr (by kernel_rfl)
@[simp] theorem sz_49 : sizeT Tryd.prog 49 = some 1 := nr (by kernel_rfl)
@[simp] theorem ag_49 : aggT Tryd.prog 49 = some false := nr (by kernel_rfl)
@[simp] theorem zero_49 : zeroV Tryd.prog 49 = some (.d (.other .nilFunc)) := nr (by kernel_rfl)
@[simp] theorem und_50 : Tryd.prog.underlying 50 = some (.array 2 2) := nr (by kernel_rfl)
@[simp] theorem sz_50 : sizeT Tryd.prog 50 = some 2 := nr (by kernel_rfl)
@[simp] theorem ag_50 : aggT Tryd.prog 50 = some true := nr (by kernel_rfl)
@[simp] theorem zero_50 : zeroV Tryd.prog 50 = some (.agg [.d (.int .i64 0), .d (.int .i64 0)]) := nr (by kernel_rfl)
@[simp] theorem pl_50 : placesT Tryd.prog 50 = some (.array 1) := nr (by kernel_rfl)
@[simp] theorem sz_52 : sizeT Tryd.prog 52 = some 1 := nr (by kernel_rfl)
@[simp] theorem ag_52 : aggT Tryd.prog 52 = some false := nr (by kernel_rfl)
@[simp] theorem zero_52 : zeroV Tryd.prog 52 = some (.d (.other .nilFunc)) := nr (by kernel_rfl)
@[simp] theorem sz_53 : sizeT Tryd.prog 53 = some 1 := nr (by kernel_rfl)
@[simp] theorem ag_53 : aggT Tryd.prog 53 = some false := nr (by kernel_rfl)
@[simp] theorem zero_53 : zeroV Tryd.prog 53 = some (.d (.other .nilFunc)) := nr (by kernel_rfl)
@[simp] theorem sz_54 : sizeT Tryd.prog 54 = some 1 := nr (by kernel_rfl)
@[simp] theorem ag_54 : aggT Tryd.prog 54 = some false := nr (by kernel_rfl)
@[simp] theorem zero_54 : zeroV Tryd.prog 54 = some (.d (.other .nilFunc)) := nr (by kernel_rfl)
@[simp] theorem sz_56 : sizeT Tryd.prog 56 = some 1 := nr (by kernel_rfl)
@[simp] theorem ag_56 : aggT Tryd.prog 56 = some false := nr (by kernel_rfl)
@[simp] theorem zero_56 : zeroV Tryd.prog 56 = some (.d (.other .nilFunc)) := nr (by kernel_rfl)
@[simp] theorem sz_57 : sizeT Tryd.prog 57 = some 1 := nr (by kernel_rfl)
@[simp] theorem ag_57 : aggT Tryd.prog 57 = some false := nr (by kernel_rfl)
@[simp] theorem zero_57 : zeroV Tryd.prog 57 = some (.d (.other .nilFunc)) := nr (by kernel_rfl)
@[simp] theorem und_58 : Tryd.prog.underlying 58 = some (.slice 23) := nr (by kernel_rfl)
@[simp] theorem sz_58 : sizeT Tryd.prog 58 = some 1 := nr (by kernel_rfl)
@[simp] theorem ag_58 : aggT Tryd.prog 58 = some false := nr (by kernel_rfl)
@[simp] theorem zero_58 : zeroV Tryd.prog 58 = some (.nil) := nr (by kernel_rfl)
@[simp] theorem app_58 : appT Tryd.prog 58 = some (23, 3) := nr (by kernel_rfl)
@[simp] theorem sz_59 : sizeT Tryd.prog 59 = some 1 := nr (by kernel_rfl)
@[simp] theorem ag_59 : aggT Tryd.prog 59 = some false := nr (by kernel_rfl)
@[simp] theorem zero_59 : zeroV Tryd.prog 59 = some (.d (.other .nilFunc)) := nr (by kernel_rfl)
@[simp] theorem sz_60 : sizeT Tryd.prog 60 = some 1 := nr (by kernel_rfl)
@[simp] theorem ag_60 : aggT Tryd.prog 60 = some false := nr (by kernel_rfl)
@[simp] theorem zero_60 : zeroV Tryd.prog 60 = some (.d (.other .nilFunc)) := nr (by kernel_rfl)
@[simp] theorem sz_61 : sizeT Tryd.prog 61 = some 2 := nr (by kernel_rfl)
@[simp] theorem ag_61 : aggT Tryd.prog 61 = some true := nr (by kernel_rfl)
@[simp] theorem zero_61 : zeroV Tryd.prog 61 = some (.agg [.d (.int .i64 0), .d (.int .i64 0)]) := nr (by kernel_rfl)
@[simp] theorem fld_61_0 : fieldOf Tryd.prog 61 0 = some (0, 2) := nr (by kernel_rfl)
@[simp] theorem fld_61_1 : fieldOf Tryd.prog 61 1 = some (1, 2) := nr (by kernel_rfl)
@[simp] theorem pl_61 : placesT Tryd.prog 61 = some (.struct [(0, 1), (1, 1)]) := nr (by kernel_rfl)
@[simp] theorem sz_62 : sizeT Tryd.prog 62 = some 1 := nr (by kernel_rfl)
@[simp] theorem ag_62 : aggT Tryd.prog 62 = some false := nr (by kernel_rfl)
@[simp] theorem zero_62 : zeroV Tryd.prog 62 = some (.d (.other .nilFunc)) := nr (by kernel_rfl)
@[simp] theorem sz_64 : sizeT Tryd.prog 64 = some 1 := nr (by kernel_rfl)
@[simp] theorem ag_64 : aggT Tryd.prog 64 = some false := nr (by kernel_rfl)
@[simp] theorem zero_64 : zeroV Tryd.prog 64 = some (.d (.other .nilFunc)) := nr (by kernel_rfl)
@[simp] theorem sz_65 : sizeT Tryd.prog 65 = some 1 := nr (by kernel_rfl)
@[simp] theorem ag_65 : aggT Tryd.prog 65 = some false := nr (by kernel_rfl)
@[simp] theorem zero_65 : zeroV Tryd.prog 65 = some (.d (.other .nilFunc)) := nr (by kernel_rfl)
@[simp] theorem sz_66 : sizeT Tryd.prog 66 = some 1 := nr (by kernel_rfl)
@[simp] theorem ag_66 : aggT Tryd.prog 66 = some false := nr (by kernel_rfl)
@[simp] theorem zero_66 : zeroV Tryd.prog 66 = some (.d (.other .nilFunc)) := nr (by kernel_rfl)
@[simp] theorem sz_68 : sizeT Tryd.prog 68 = some 1 := nr (by kernel_rfl)
@[simp] theorem ag_68 : aggT Tryd.prog 68 = some false := nr (by kernel_rfl)
@[simp] theorem zero_68 : zeroV Tryd.prog 68 = some (.d (.other .nilFunc)) := nr (by kernel_rfl)
@[simp] theorem sz_69 : sizeT Tryd.prog 69 = some 1 := nr (by kernel_rfl)
@[simp] theorem ag_69 : aggT Tryd.prog 69 = some false := nr (by kernel_rfl)
@[simp] theorem zero_69 : zeroV Tryd.prog 69 = some (.d (.other .nilFunc)) := nr (by kernel_rfl)
@[simp] theorem sz_70 : sizeT Tryd.prog 70 = some 1 := nr (by kernel_rfl)
@[simp] theorem ag_70 : aggT Tryd.prog 70 = some false := nr (by kernel_rfl)
@[simp] theorem zero_70 : zeroV Tryd.prog 70 = some (.d (.other .nilFunc)) := nr (by kernel_rfl)
@[simp] theorem sz_71 : sizeT Tryd.prog 71 = some 1 := nr (by kernel_rfl)
@[simp] theorem ag_71 : aggT Tryd.prog 71 = some false := nr (by kernel_rfl)
@[simp] theorem zero_71 : zeroV Tryd.prog 71 = some (.d (.other .nilFunc)) := nr (by kernel_rfl)
@[simp] theorem sz_72 : sizeT Tryd.prog 72 = some 1 := nr (by kernel_rfl)
@[simp] theorem ag_72 : aggT Tryd.prog 72 = some false := nr (by kernel_rfl)
@[simp] theorem zero_72 : zeroV Tryd.prog 72 = some (.d (.other .nilFunc)) := nr (by kernel_rfl)
@[simp] theorem und_73 : Tryd.prog.underlying 73 = some (.pointer 76) := nr (by kernel_rfl)
@[simp] theorem sz_73 : sizeT Tryd.prog 73 = some 1 := nr (by kernel_rfl)
@[simp] theorem ag_73 : aggT Tryd.prog 73 = some false := nr (by kernel_rfl)
@[simp] theorem zero_73 : zeroV Tryd.prog 73 = some (.d (.other (.pointer none))) := nr (by kernel_rfl)
@[simp] theorem und_74 : Tryd.prog.underlying 74 = some (.slice 5) := nr (by kernel_rfl)
@[simp] theorem sz_74 : sizeT Tryd.prog 74 = some 1 := nr (by kernel_rfl)
@[simp] theorem ag_74 : aggT Tryd.prog 74 = some false := nr (by kernel_rfl)
@[simp] theorem zero_74 : zeroV Tryd.prog 74 = some (.nil) := nr (by kernel_rfl)
@[simp] theorem app_74 : appT Tryd.prog 74 = some (5, 1) := nr (by kernel_rfl)
@[simp] theorem sz_75 : sizeT Tryd.prog 75 = some 2 := nr (by kernel_rfl)
@[simp] theorem ag_75 : aggT Tryd.prog 75 = some true := nr (by kernel_rfl)
@[simp] theorem zero_75 : zeroV Tryd.prog 75 = some (.agg [.d (.other (.pointer none)), .nil]) := nr (by kernel_rfl)
@[simp] theorem fld_75_0 : fieldOf Tryd.prog 75 0 = some (0, 73) := nr (by kernel_rfl)
@[simp] theorem fld_75_1 : fieldOf Tryd.prog 75 1 = some (1, 74) := nr (by kernel_rfl)
@[simp] theorem pl_75 : placesT Tryd.prog 75 = some (.struct [(0, 1), (1, 1)]) := nr (by kernel_rfl)
@[simp] theorem sz_76 : sizeT Tryd.prog 76 = some 2 := nr (by kernel_rfl)
@[simp] theorem ag_76 : aggT Tryd.prog 76 = some true := nr (by kernel_rfl)
@[simp] theorem zero_76 : zeroV Tryd.prog 76 = some (.agg [.d (.other (.pointer none)), .nil]) := nr (by kernel_rfl)
@[simp] theorem fld_76_0 : fieldOf Tryd.prog 76 0 = some (0, 73) := nr (by kernel_rfl)
@[simp] theorem fld_76_1 : fieldOf Tryd.prog 76 1 = some (1, 74) := nr (by kernel_rfl)
@[simp] theorem pl_76 : placesT Tryd.prog 76 = some (.struct [(0, 1), (1, 1)]) := nr (by kernel_rfl)
@[simp] theorem sz_77 : sizeT Tryd.prog 77 = some 1 := nr (by kernel_rfl)
@[simp] theorem ag_77 : aggT Tryd.prog 77 = some false := nr (by kernel_rfl)
@[simp] theorem zero_77 : zeroV Tryd.prog 77 = some (.d (.other .nilIface)) := nr (by kernel_rfl)
@[simp] theorem sz_78 : sizeT Tryd.prog 78 = some 1 := nr (by kernel_rfl)
@[simp] theorem ag_78 : aggT Tryd.prog 78 = some false := nr (by kernel_rfl)
@[simp] theorem zero_78 : zeroV Tryd.prog 78 = some (.d (.other .nilIface)) := nr (by kernel_rfl)
@[simp] theorem sz_80 : sizeT Tryd.prog 80 = some 1 := nr (by kernel_rfl)
@[simp] theorem ag_80 : aggT Tryd.prog 80 = some false := nr (by kernel_rfl)
@[simp] theorem zero_80 : zeroV Tryd.prog 80 = some (.d (.other .nilFunc)) := nr (by kernel_rfl)
@[simp] theorem sz_81 : sizeT Tryd.prog 81 = some 1 := nr (by kernel_rfl)
@[simp] theorem ag_81 : aggT Tryd.prog 81 = some false := nr (by kernel_rfl)
@[simp] theorem zero_81 : zeroV Tryd.prog 81 = some (.d (.other .nilFunc)) := nr (by kernel_rfl)
@[simp] theorem und_82 : Tryd.prog.underlying 82 = some (.slice 2) := nr (by kernel_rfl)
@[simp] theorem sz_82 : sizeT Tryd.prog 82 = some 1 := nr (by kernel_rfl)
@[simp] theorem ag_82 : aggT Tryd.prog 82 = some false := nr (by kernel_rfl)
@[simp] theorem zero_82 : zeroV Tryd.prog 82 = some (.nil) := nr (by kernel_rfl)
@[simp] theorem app_82 : appT Tryd.prog 82 = some (2, 1) := nr (by kernel_rfl)
@[simp] theorem sz_83 : sizeT Tryd.prog 83 = some 1 := nr (by kernel_rfl)
@[simp] theorem ag_83 : aggT Tryd.prog 83 = some false := nr (by kernel_rfl)
@[simp] theorem zero_83 : zeroV Tryd.prog 83 = some (.d (.other .nilFunc)) := nr (by kernel_rfl)
@[simp] theorem sz_84 : sizeT Tryd.prog 84 = some 1 := nr (by kernel_rfl)
@[simp] theorem ag_84 : aggT Tryd.prog 84 = some false := nr (by kernel_rfl)
@[simp] theorem zero_84 : zeroV Tryd.prog 84 = some (.d (.other .nilFunc)) := nr (by kernel_rfl)
@[simp] theorem sz_85 : sizeT Tryd.prog 85 = some 1 := nr (by kernel_rfl)
@[simp] theorem ag_85 : aggT Tryd.prog 85 = some false := nr (by kernel_rfl)
@[simp] theorem zero_85 : zeroV Tryd.prog 85 = some (.d (.other .nilFunc)) := nr (by kernel_rfl)
@[simp] theorem sz_86 : sizeT Tryd.prog 86 = some 1 := nr (by kernel_rfl)
@[simp] theorem ag_86 : aggT Tryd.prog 86 = some false := nr (by kernel_rfl)
@[simp] theorem zero_86 : zeroV Tryd.prog 86 = some (.d (.other .nilFunc)) := nr (by kernel_rfl)
@[simp] theorem sz_87 : sizeT Tryd.prog 87 = some 1 := nr (by kernel_rfl)
@[simp] theorem ag_87 : aggT Tryd.prog 87 = some false := nr (by kernel_rfl)
@[simp] theorem zero_87 : zeroV Tryd.prog 87 = some (.d (.other .nilFunc)) := nr (by kernel_rfl)
@[simp] theorem sz_88 : sizeT Tryd.prog 88 = some 1 := nr (by kernel_rfl)
@[simp] theorem ag_88 : aggT Tryd.prog 88 = some false := nr (by kernel_rfl)
@[simp] theorem zero_88 : zeroV Tryd.prog 88 = some (.d (.other .nilFunc)) := nr (by kernel_rfl)
@[simp] theorem sz_89 : sizeT Tryd.prog 89 = some 1 := nr (by kernel_rfl)
@[simp] theorem ag_89 : aggT Tryd.prog 89 = some false := nr (by kernel_rfl)
@[simp] theorem zero_89 : zeroV Tryd.prog 89 = some (.d (.other .nilFunc)) := nr (by kernel_rfl)
@[simp] theorem sz_90 : sizeT Tryd.prog 90 = some 1 := nr (by kernel_rfl)
@[simp] theorem ag_90 : aggT Tryd.prog 90 = some false := nr (by kernel_rfl)
@[simp] theorem zero_90 : zeroV Tryd.prog 90 = some (.d (.other .nilFunc)) := nr (by kernel_rfl)
@[simp] theorem sz_91 : sizeT Tryd.prog 91 = some 1 := nr (by kernel_rfl)
@[simp] theorem ag_91 : aggT Tryd.prog 91 = some false := nr (by kernel_rfl)
@[simp] theorem zero_91 : zeroV Tryd.prog 91 = some (.d (.other .nilFunc)) := nr (by kernel_rfl)
@[simp] theorem sz_92 : sizeT Tryd.prog 92 = some 1 := nr (by kernel_rfl)
@[simp] theorem ag_92 : aggT Tryd.prog 92 = some false := nr (by kernel_rfl)
@[simp] theorem zero_92 : zeroV Tryd.prog 92 = some (.d (.other .nilFunc)) := nr (by kernel_rfl)
@[simp] theorem sz_93 : sizeT Tryd.prog 93 = some 1 := nr (by kernel_rfl)
@[simp] theorem ag_93 : aggT Tryd.prog 93 = some false := nr (by kernel_rfl)
@[simp] theorem zero_93 : zeroV Tryd.prog 93 = some (.d (.other .nilFunc)) := nr (by kernel_rfl)
@[simp] theorem sz_94 : sizeT Tryd.prog 94 = some 1 := nr (by kernel_rfl)
@[simp] theorem ag_94 : aggT Tryd.prog 94 = some false := nr (by kernel_rfl)
@[simp] theorem zero_94 : zeroV Tryd.prog 94 = some (.d (.other .nilFunc)) := nr (by kernel_rfl)
@[simp] theorem sz_96 : sizeT Tryd.prog 96 = some 1 := nr (by kernel_rfl)
@[simp] theorem ag_96 : aggT Tryd.prog 96 = some false := nr (by kernel_rfl)
@[simp] theorem zero_96 : zeroV Tryd.prog 96 = some (.d (.other .nilFunc)) := nr (by kernel_rfl)
@[simp] theorem sz_97 : sizeT Tryd.prog 97 = some 1 := nr (by kernel_rfl)
@[simp] theorem ag_97 : aggT Tryd.prog 97 = some false := nr (by kernel_rfl)
@[simp] theorem zero_97 : zeroV Tryd.prog 97 = some (.d (.other .nilFunc)) := nr (by kernel_rfl)
@[simp] theorem und_98 : Tryd.prog.underlying 98 = some (.int .u64) := nr (by kernel_rfl)
@[simp] theorem sz_98 : sizeT Tryd.prog 98 = some 1 := nr (by kernel_rfl)
@[simp] theorem ag_98 : aggT Tryd.prog 98 = some false := nr (by kernel_rfl)
@[simp] theorem zero_98 : zeroV Tryd.prog 98 = some (.d (.int .u64 0)) := nr (by kernel_rfl)
@[simp] theorem sz_99 : sizeT Tryd.prog 99 = some 1 := nr (by kernel_rfl)
@[simp] theorem ag_99 : aggT Tryd.prog 99 = some false := nr (by kernel_rfl)
@[simp] theorem zero_99 : zeroV Tryd.prog 99 = some (.d (.other .nilFunc)) := nr (by kernel_rfl)
@[simp] theorem sz_100 : sizeT Tryd.prog 100 = some 1 := nr (by kernel_rfl)
@[simp] theorem ag_100 : aggT Tryd.prog 100 = some false := nr (by kernel_rfl)
@[simp] theorem zero_100 : zeroV Tryd.prog 100 = some (.d (.other .nilFunc)) := nr (by kernel_rfl)
@[simp] theorem und_101 : Tryd.prog.underlying 101 = some (.pointer 5) := nr (by kernel_rfl)
@[simp] theorem sz_101 : sizeT Tryd.prog 101 = some 1 := nr (by kernel_rfl)
@[simp] theorem ag_101 : aggT Tryd.prog 101 = some false := nr (by kernel_rfl)
@[simp] theorem zero_101 : zeroV Tryd.prog 101 = some (.d (.other (.pointer none))) := nr (by kernel_rfl)
@[simp] theorem und_102 : Tryd.prog.underlying 102 = some (.int .u64) := nr (by kernel_rfl)
@[simp] theorem sz_102 : sizeT Tryd.prog 102 = some 1 := nr (by kernel_rfl)
@[simp] theorem ag_102 : aggT Tryd.prog 102 = some false := nr (by kernel_rfl)
@[simp] theorem zero_102 : zeroV Tryd.prog 102 = some (.d (.int .u64 0)) := nr (by kernel_rfl)
@[simp] theorem sz_105 : sizeT Tryd.prog 105 = some 1 := nr (by kernel_rfl)
@[simp] theorem ag_105 : aggT Tryd.prog 105 = some false := nr (by kernel_rfl)
@[simp] theorem zero_105 : zeroV Tryd.prog 105 = some (.d (.other .nilFunc)) := nr (by kernel_rfl)
@[simp] theorem und_106 : Tryd.prog.underlying 106 = some (.array 256 4) := nr (by kernel_rfl)
@[simp] theorem sz_106 : sizeT Tryd.prog 106 = some 256 := nr (by kernel_rfl)
@[simp] theorem ag_106 : aggT Tryd.prog 106 = some true := nr (by kernel_rfl)
@[simp] theorem pl_106 : placesT Tryd.prog 106 = some (.array 1) := nr (by kernel_rfl)
@[simp] theorem und_107 : Tryd.prog.underlying 107 = some (.array 256 4) := nr (by kernel_rfl)
@[simp] theorem sz_107 : sizeT Tryd.prog 107 = some 256 := nr (by kernel_rfl)
@[simp] theorem ag_107 : aggT Tryd.prog 107 = some true := nr (by kernel_rfl)
@[simp] theorem pl_107 : placesT Tryd.prog 107 = some (.array 1) := nr (by kernel_rfl)
@[simp] theorem sz_109 : sizeT Tryd.prog 109 = some 1 := nr (by kernel_rfl)
@[simp] theorem ag_109 : aggT Tryd.prog 109 = some false := nr (by kernel_rfl)
@[simp] theorem zero_109 : zeroV Tryd.prog 109 = some (.d (.other .nilFunc)) := nr (by kernel_rfl)
@[simp] theorem sz_110 : sizeT Tryd.prog 110 = some 1 := nr (by kernel_rfl)
@[simp] theorem ag_110 : aggT Tryd.prog 110 = some false := nr (by kernel_rfl)
@[simp] theorem zero_110 : zeroV Tryd.prog 110 = some (.d (.other .nilFunc)) := nr (by kernel_rfl)
@[simp] theorem und_111 : Tryd.prog.underlying 111 = some (.pointer 107) := nr (by kernel_rfl)
@[simp] theorem sz_111 : sizeT Tryd.prog 111 = some 1 := nr (by kernel_rfl)
@[simp] theorem ag_111 : aggT Tryd.prog 111 = some false := nr (by kernel_rfl)
@[simp] theorem zero_111 : zeroV Tryd.prog 111 = some (.d (.other (.pointer none))) := nr (by kernel_rfl)
@[simp] theorem und_112 : Tryd.prog.underlying 112 = some (.array 24 5) := nr (by kernel_rfl)
@[simp] theorem sz_112 : sizeT Tryd.prog 112 = some 24 := nr (by kernel_rfl)
@[simp] theorem ag_112 : aggT Tryd.prog 112 = some true := nr (by kernel_rfl)
@[simp] theorem zero_112 : zeroV Tryd.prog 112 = some (.agg [.d (.int .u8 0), .d (.int .u8 0), .d (.int .u8 0), .d (.int .u8 0), .d (.int .u8 0), .d (.int .u8 0), .d (.int .u8 0), .d (.int .u8 0), .d (.int .u8 0), .d (.int .u8 0), .d (.int .u8 0), .d (.int .u8 0), .d (.int .u8 0), .d (.int .u8 0), .d (.int .u8 0), .d (.int .u8 0), .d (.int .u8 0), .d (.int .u8 0), .d (.int .u8 0), .d (.int .u8 0), .d (.int .u8 0), .d (.int .u8 0), .d (.int .u8 0), .d (.int .u8 0)]) := nr (by kernel_rfl)
@[simp] theorem pl_112 : placesT Tryd.prog 112 = some (.array 1) := nr (by kernel_rfl)
@[simp] theorem sz_113 : sizeT Tryd.prog 113 = some 1 := nr (by kernel_rfl)
@[simp] theorem ag_113 : aggT Tryd.prog 113 = some false := nr (by kernel_rfl)
@[simp] theorem zero_113 : zeroV Tryd.prog 113 = some (.d (.other .nilFunc)) := nr (by kernel_rfl)
@[simp] theorem sz_114 : sizeT Tryd.prog 114 = some 1 := nr (by kernel_rfl)
@[simp] theorem ag_114 : aggT Tryd.prog 114 = some false := nr (by kernel_rfl)
@[simp] theorem zero_114 : zeroV Tryd.prog 114 = some (.d (.other .nilFunc)) := nr (by kernel_rfl)
@[simp] theorem sz_116 : sizeT Tryd.prog 116 = some 1 := nr (by kernel_rfl)
@[simp] theorem ag_116 : aggT Tryd.prog 116 = some false := nr (by kernel_rfl)
@[simp] theorem zero_116 : zeroV Tryd.prog 116 = some (.d (.other .nilFunc)) := nr (by kernel_rfl)
@[simp] theorem sz_117 : sizeT Tryd.prog 117 = some 1 := nr (by kernel_rfl)
@[simp] theorem ag_117 : aggT Tryd.prog 117 = some false := nr (by kernel_rfl)
@[simp] theorem zero_117 : zeroV Tryd.prog 117 = some (.d (.other .nilFunc)) := nr (by kernel_rfl)
@[simp] theorem sz_118 : sizeT Tryd.prog 118 = some 1 := nr (by kernel_rfl)
@[simp] theorem ag_118 : aggT Tryd.prog 118 = some false := nr (by kernel_rfl)
@[simp] theorem zero_118 : zeroV Tryd.prog 118 = some (.d (.other .nilFunc)) := nr (by kernel_rfl)
@[simp] theorem sz_120 : sizeT Tryd.prog 120 = some 1 := nr (by kernel_rfl)
@[simp] theorem ag_120 : aggT Tryd.prog 120 = some false := nr (by kernel_rfl)
@[simp] theorem zero_120 : zeroV Tryd.prog 120 = some (.d (.other .nilFunc)) := nr (by kernel_rfl)
@[simp] theorem sz_121 : sizeT Tryd.prog 121 = some 1 := nr (by kernel_rfl)
@[simp] theorem ag_121 : aggT Tryd.prog 121 = some false := nr (by kernel_rfl)
@[simp] theorem zero_121 : zeroV Tryd.prog 121 = some (.d (.other .nilFunc)) := nr (by kernel_rfl)
@[simp] theorem sz_122 : sizeT Tryd.prog 122 = some 1 := nr (by kernel_rfl)
@[simp] theorem ag_122 : aggT Tryd.prog 122 = some false := nr (by kernel_rfl)
@[simp] theorem zero_122 : zeroV Tryd.prog 122 = some (.d (.other .nilFunc)) := nr (by kernel_rfl)
@[simp] theorem sz_123 : sizeT Tryd.prog 123 = some 1 := nr (by kernel_rfl)
@[simp] theorem ag_123 : aggT Tryd.prog 123 = some false := nr (by kernel_rfl)
@[simp] theorem zero_123 : zeroV Tryd.prog 123 = some (.d (.other .nilFunc)) := nr (by kernel_rfl)
@[simp] theorem und_124 : Tryd.prog.underlying 124 = some (.array 20 98) := nr (by kernel_rfl)
@[simp] theorem sz_124 : sizeT Tryd.prog 124 = some 20 := nr (by kernel_rfl)
@[simp] theorem ag_124 : aggT Tryd.prog 124 = some true := nr (by kernel_rfl)
@[simp] theorem zero_124 : zeroV Tryd.prog 124 = some (.agg [.d (.int .u64 0), .d (.int .u64 0), .d (.int .u64 0), .d (.int .u64 0), .d (.int .u64 0), .d (.int .u64 0), .d (.int .u64 0), .d (.int .u64 0), .d (.int .u64 0), .d (.int .u64 0), .d (.int .u64 0), .d (.int .u64 0), .d (.int .u64 0), .d (.int .u64 0), .d (.int .u64 0), .d (.int .u64 0), .d (.int .u64 0), .d (.int .u64 0), .d (.int .u64 0), .d (.int .u64 0)]) := nr (by kernel_rfl)
@[simp] theorem pl_124 : placesT Tryd.prog 124 = some (.array 1) := nr (by kernel_rfl)
@[simp] theorem und_125 : Tryd.prog.underlying 125 = some (.int .u32) := nr (by kernel_rfl)
@[simp] theorem sz_125 : sizeT Tryd.prog 125 = some 1 := nr (by kernel_rfl)
@[simp] theorem ag_125 : aggT Tryd.prog 125 = some false := nr (by kernel_rfl)
@[simp] theorem zero_125 : zeroV Tryd.prog 125 = some (.d (.int .u32 0)) := nr (by kernel_rfl)
@[simp] theorem und_126 : Tryd.prog.underlying 126 = some (.array 65 5) := nr (by kernel_rfl)
@[simp] theorem sz_126 : sizeT Tryd.prog 126 = some 65 := nr (by kernel_rfl)
@[simp] theorem ag_126 : aggT Tryd.prog 126 = some true := nr (by kernel_rfl)
@[simp] theorem pl_126 : placesT Tryd.prog 126 = some (.array 1) := nr (by kernel_rfl)
@[simp] theorem sz_127 : sizeT Tryd.prog 127 = some 1 := nr (by kernel_rfl)
@[simp] theorem ag_127 : aggT Tryd.prog 127 = some false := nr (by kernel_rfl)
@[simp] theorem zero_127 : zeroV Tryd.prog 127 = some (.d (.other .nilFunc)) := nr (by kernel_rfl)
@[simp] theorem sz_128 : sizeT Tryd.prog 128 = some 1 := nr (by kernel_rfl)
@[simp] theorem ag_128 : aggT Tryd.prog 128 = some false := nr (by kernel_rfl)
@[simp] theorem zero_128 : zeroV Tryd.prog 128 = some (.d (.other .nilFunc)) := nr (by kernel_rfl)
@[simp] theorem sz_129 : sizeT Tryd.prog 129 = some 1 := nr (by kernel_rfl)
@[simp] theorem ag_129 : aggT Tryd.prog 129 = some false := nr (by kernel_rfl)
@[simp] theorem zero_129 : zeroV Tryd.prog 129 = some (.d (.other .nilFunc)) := nr (by kernel_rfl)
@[simp] theorem sz_130 : sizeT Tryd.prog 130 = some 1 := nr (by kernel_rfl)
@[simp] theorem ag_130 : aggT Tryd.prog 130 = some false := nr (by kernel_rfl)
@[simp] theorem zero_130 : zeroV Tryd.prog 130 = some (.d (.other .nilFunc)) := nr (by kernel_rfl)
@[simp] theorem sz_131 : sizeT Tryd.prog 131 = some 1 := nr (by kernel_rfl)
@[simp] theorem ag_131 : aggT Tryd.prog 131 = some false := nr (by kernel_rfl)
@[simp] theorem zero_131 : zeroV Tryd.prog 131 = some (.d (.other .nilFunc)) := nr (by kernel_rfl)
@[simp] theorem sz_132 : sizeT Tryd.prog 132 = some 1 := nr (by kernel_rfl)
@[simp] theorem ag_132 : aggT Tryd.prog 132 = some false := nr (by kernel_rfl)
@[simp] theorem zero_132 : zeroV Tryd.prog 132 = some (.d (.other .nilFunc)) := nr (by kernel_rfl)
@[simp] theorem sz_133 : sizeT Tryd.prog 133 = some 1 := nr (by kernel_rfl)
@[simp] theorem ag_133 : aggT Tryd.prog 133 = some false := nr (by kernel_rfl)
@[simp] theorem zero_133 : zeroV Tryd.prog 133 = some (.d (.other .nilFunc)) := nr (by kernel_rfl)
@[simp] theorem und_134 : Tryd.prog.underlying 134 = some (.array 32 5) := nr (by kernel_rfl)
@[simp] theorem sz_134 : sizeT Tryd.prog 134 = some 32 := nr (by kernel_rfl)
@[simp] theorem ag_134 : aggT Tryd.prog 134 = some true := nr (by kernel_rfl)
@[simp] theorem zero_134 : zeroV Tryd.prog 134 = some (.agg [.d (.int .u8 0), .d (.int .u8 0), .d (.int .u8 0), .d (.int .u8 0), .d (.int .u8 0), .d (.int .u8 0), .d (.int .u8 0), .d (.int .u8 0), .d (.int .u8 0), .d (.int .u8 0), .d (.int .u8 0), .d (.int .u8 0), .d (.int .u8 0), .d (.int .u8 0), .d (.int .u8 0), .d (.int .u8 0), .d (.int .u8 0), .d (.int .u8 0), .d (.int .u8 0), .d (.int .u8 0), .d (.int .u8 0), .d (.int .u8 0), .d (.int .u8 0), .d (.int .u8 0), .d (.int .u8 0), .d (.int .u8 0), .d (.int .u8 0), .d (.int .u8 0), .d (.int .u8 0), .d (.int .u8 0), .d (.int .u8 0), .d (.int .u8 0)]) := nr (by kernel_rfl)
@[simp] theorem pl_134 : placesT Tryd.prog 134 = some (.array 1) := nr (by kernel_rfl)
@[simp] theorem und_135 : Tryd.prog.underlying 135 = some (.array 64 5) := nr (by kernel_rfl)
@[simp] theorem sz_135 : sizeT Tryd.prog 135 = some 64 := nr (by kernel_rfl)
@[simp] theorem ag_135 : aggT Tryd.prog 135 = some true := nr (by kernel_rfl)
@[simp] theorem pl_135 : placesT Tryd.prog 135 = some (.array 1) := nr (by kernel_rfl)
@[simp] theorem und_136 : Tryd.prog.underlying 136 = some (.array 256 5) := nr (by kernel_rfl)
@[simp] theorem sz_136 : sizeT Tryd.prog 136 = some 256 := nr (by kernel_rfl)
@[simp] theorem ag_136 : aggT Tryd.prog 136 = some true := nr (by kernel_rfl)
@[simp] theorem pl_136 : placesT Tryd.prog 136 = some (.array 1) := nr (by kernel_rfl)
@[simp] theorem sz_137 : sizeT Tryd.prog 137 = some 2 := nr (by kernel_rfl)
@[simp] theorem ag_137 : aggT Tryd.prog 137 = some true := nr (by kernel_rfl)
@[simp] theorem zero_137 : zeroV Tryd.prog 137 = some (.agg [.d (.int .u8 0), .d (.int .u8 0)]) := nr (by kernel_rfl)
@[simp] theorem fld_137_0 : fieldOf Tryd.prog 137 0 = some (0, 5) := nr (by kernel_rfl)
@[simp] theorem fld_137_1 : fieldOf Tryd.prog 137 1 = some (1, 5) := nr (by kernel_rfl)
@[simp] theorem pl_137 : placesT Tryd.prog 137 = some (.struct [(0, 1), (1, 1)]) := nr (by kernel_rfl)
@[simp] theorem sz_138 : sizeT Tryd.prog 138 = some 2 := nr (by kernel_rfl)
@[simp] theorem ag_138 : aggT Tryd.prog 138 = some true := nr (by kernel_rfl)
@[simp] theorem zero_138 : zeroV Tryd.prog 138 = some (.agg [.d (.int .u8 0), .d (.int .u8 0)]) := nr (by kernel_rfl)
@[simp] theorem fld_138_0 : fieldOf Tryd.prog 138 0 = some (0, 5) := nr (by kernel_rfl)
@[simp] theorem fld_138_1 : fieldOf Tryd.prog 138 1 = some (1, 5) := nr (by kernel_rfl)
@[simp] theorem pl_138 : placesT Tryd.prog 138 = some (.struct [(0, 1), (1, 1)]) := nr (by kernel_rfl)
@[simp] theorem und_139 : Tryd.prog.underlying 139 = some (.array 16 138) := nr (by kernel_rfl)
@[simp] theorem sz_139 : sizeT Tryd.prog 139 = some 32 := nr (by kernel_rfl)
@[simp] theorem ag_139 : aggT Tryd.prog 139 = some true := nr (by kernel_rfl)
@[simp] theorem zero_139 : zeroV Tryd.prog 139 = some (.agg [.d (.int .u8 0), .d (.int .u8 0), .d (.int .u8 0), .d (.int .u8 0), .d (.int .u8 0), .d (.int .u8 0), .d (.int .u8 0), .d (.int .u8 0), .d (.int .u8 0), .d (.int .u8 0), .d (.int .u8 0), .d (.int .u8 0), .d (.int .u8 0), .d (.int .u8 0), .d (.int .u8 0), .d (.int .u8 0), .d (.int .u8 0), .d (.int .u8 0), .d (.int .u8 0), .d (.int .u8 0), .d (.int .u8 0), .d (.int .u8 0), .d (.int .u8 0), .d (.int .u8 0), .d (.int .u8 0), .d (.int .u8 0), .d (.int .u8 0), .d (.int .u8 0), .d (.int .u8 0), .d (.int .u8 0), .d (.int .u8 0), .d (.int .u8 0)]) := nr (by kernel_rfl)
@[simp] theorem pl_139 : placesT Tryd.prog 139 = some (.array 2) := nr (by kernel_rfl)
@[simp] theorem sz_145 : sizeT Tryd.prog 145 = some 1 := nr (by kernel_rfl)
@[simp] theorem ag_145 : aggT Tryd.prog 145 = some false := nr (by kernel_rfl)
@[simp] theorem zero_145 : zeroV Tryd.prog 145 = some (.d (.other .nilFunc)) := nr (by kernel_rfl)
theorem eq_23 : EqOk Tryd.prog 23 [.int .i64, .int .i64, .int .i64] := by
  refine ⟨by kernel_rfl, fun xs ys hx hy w => ?_⟩
  obtain ⟨xa0, ra0, ea0, ka0, hx0⟩ := kinds_cons hx
  obtain ⟨a0, rfl⟩ := kind_int ka0
  obtain ⟨xa1, ra1, ea1, ka1, hx1⟩ := kinds_cons hx0
  obtain ⟨a1, rfl⟩ := kind_int ka1
  obtain ⟨xa2, ra2, ea2, ka2, hx2⟩ := kinds_cons hx1
  obtain ⟨a2, rfl⟩ := kind_int ka2
  have za := kinds_nil hx2
  subst za
  subst ea2
  subst ea1
  subst ea0
  obtain ⟨xb0, rb0, eb0, kb0, hy0⟩ := kinds_cons hy
  obtain ⟨b0, rfl⟩ := kind_int kb0
  obtain ⟨xb1, rb1, eb1, kb1, hy1⟩ := kinds_cons hy0
  obtain ⟨b1, rfl⟩ := kind_int kb1
  obtain ⟨xb2, rb2, eb2, kb2, hy2⟩ := kinds_cons hy1
  obtain ⟨b2, rfl⟩ := kind_int kb2
  have zb := kinds_nil hy2
  subst zb
  subst eb2
  subst eb1
  subst eb0
  have hS : Tryd.prog.underlying 23 = some (.struct (Tryd.prog.fieldsOf 23)) := by kernel_rfl
  simp only [Op.equal, Op.maxDepth]
  rw [show (10000 : Nat) = 9999 + 1 from rfl, run_equalIn_agg w 9999 23 _ _ hS (by kernel_rfl)]
  simp only [Program.fieldsOf, Tryd.underlying23, List.map_cons, List.map_nil, D.val]
  go_simp
  simp only [eqAll, eqD]
  refine Decidable.byCases (p := a0 = b0) (fun h0 => ?_) (fun h0 => by simp [h0])
  refine Decidable.byCases (p := a1 = b1) (fun h1 => ?_) (fun h1 => by simp [h0, h1])
  refine Decidable.byCases (p := a2 = b2) (fun h2 => ?_) (fun h2 => by simp [h0, h1, h2])
  simp [h0, h1, h2]
theorem eq_61 : EqOk Tryd.prog 61 [.int .i64, .int .i64] := by
  refine ⟨by kernel_rfl, fun xs ys hx hy w => ?_⟩
  obtain ⟨xa0, ra0, ea0, ka0, hx0⟩ := kinds_cons hx
  obtain ⟨a0, rfl⟩ := kind_int ka0
  obtain ⟨xa1, ra1, ea1, ka1, hx1⟩ := kinds_cons hx0
  obtain ⟨a1, rfl⟩ := kind_int ka1
  have za := kinds_nil hx1
  subst za
  subst ea1
  subst ea0
  obtain ⟨xb0, rb0, eb0, kb0, hy0⟩ := kinds_cons hy
  obtain ⟨b0, rfl⟩ := kind_int kb0
  obtain ⟨xb1, rb1, eb1, kb1, hy1⟩ := kinds_cons hy0
  obtain ⟨b1, rfl⟩ := kind_int kb1
  have zb := kinds_nil hy1
  subst zb
  subst eb1
  subst eb0
  have hS : Tryd.prog.underlying 61 = some (.struct (Tryd.prog.fieldsOf 61)) := by kernel_rfl
  simp only [Op.equal, Op.maxDepth]
  rw [show (10000 : Nat) = 9999 + 1 from rfl, run_equalIn_agg w 9999 61 _ _ hS (by kernel_rfl)]
  simp only [Program.fieldsOf, Tryd.underlying61, List.map_cons, List.map_nil, D.val]
  go_simp
  simp only [eqAll, eqD]
  refine Decidable.byCases (p := a0 = b0) (fun h0 => ?_) (fun h0 => by simp [h0])
  refine Decidable.byCases (p := a1 = b1) (fun h1 => ?_) (fun h1 => by simp [h0, h1])
  simp [h0, h1]
theorem ein_23 (d : Nat) (a0 a1 a2 b0 b1 b2 : Int) (w : World) : (Op.equalIn (d + 2) 23 (.agg #[.int .i64 a0, .int .i64 a1, .int .i64 a2]) (.agg #[.int .i64 b0, .int .i64 b1, .int .i64 b2])).run Tryd.prog w = .ok ((a0 == b0) && ((a1 == b1) && (a2 == b2))) w := by
  have hS : Tryd.prog.underlying 23 = some (.struct (Tryd.prog.fieldsOf 23)) := by kernel_rfl
  rw [run_equalIn_agg w (d + 1) 23 _ _ hS (by kernel_rfl)]
  simp only [Program.fieldsOf, Tryd.underlying23, List.map_cons, List.map_nil, D.val]
  go_simp
  refine Decidable.byCases (p := a0 = b0) (fun h0 => ?_) (fun h0 => by simp [h0])
  refine Decidable.byCases (p := a1 = b1) (fun h1 => ?_) (fun h1 => by simp [h0, h1])
  refine Decidable.byCases (p := a2 = b2) (fun h2 => ?_) (fun h2 => by simp [h0, h1, h2])
  simp [h0, h1, h2]
theorem eq_24 : EqOk Tryd.prog 24 [.int .i64, .int .i64, .int .i64, .int .i64, .int .i64, .int .i64, .int .i64, .int .i64, .int .i64, .int .i64, .int .i64, .int .i64, .int .i64, .int .i64, .int .i64, .int .i64, .int .i64, .int .i64] := by
  refine ⟨by kernel_rfl, fun xs ys hx hy w => ?_⟩
  obtain ⟨xa0, ra0, ea0, ka0, hx0⟩ := kinds_cons hx
  obtain ⟨a0, rfl⟩ := kind_int ka0
  obtain ⟨xa1, ra1, ea1, ka1, hx1⟩ := kinds_cons hx0
  obtain ⟨a1, rfl⟩ := kind_int ka1
  obtain ⟨xa2, ra2, ea2, ka2, hx2⟩ := kinds_cons hx1
  obtain ⟨a2, rfl⟩ := kind_int ka2
  obtain ⟨xa3, ra3, ea3, ka3, hx3⟩ := kinds_cons hx2
  obtain ⟨a3, rfl⟩ := kind_int ka3
  obtain ⟨xa4, ra4, ea4, ka4, hx4⟩ := kinds_cons hx3
  obtain ⟨a4, rfl⟩ := kind_int ka4
  obtain ⟨xa5, ra5, ea5, ka5, hx5⟩ := kinds_cons hx4
  obtain ⟨a5, rfl⟩ := kind_int ka5
  obtain ⟨xa6, ra6, ea6, ka6, hx6⟩ := kinds_cons hx5
  obtain ⟨a6, rfl⟩ := kind_int ka6
  obtain ⟨xa7, ra7, ea7, ka7, hx7⟩ := kinds_cons hx6
  obtain ⟨a7, rfl⟩ := kind_int ka7
  obtain ⟨xa8, ra8, ea8, ka8, hx8⟩ := kinds_cons hx7
  obtain ⟨a8, rfl⟩ := kind_int ka8
  obtain ⟨xa9, ra9, ea9, ka9, hx9⟩ := kinds_cons hx8
  obtain ⟨a9, rfl⟩ := kind_int ka9
  obtain ⟨xa10, ra10, ea10, ka10, hx10⟩ := kinds_cons hx9
  obtain ⟨a10, rfl⟩ := kind_int ka10
  obtain ⟨xa11, ra11, ea11, ka11, hx11⟩ := kinds_cons hx10
  obtain ⟨a11, rfl⟩ := kind_int ka11
  obtain ⟨xa12, ra12, ea12, ka12, hx12⟩ := kinds_cons hx11
  obtain ⟨a12, rfl⟩ := kind_int ka12
  obtain ⟨xa13, ra13, ea13, ka13, hx13⟩ := kinds_cons hx12
  obtain ⟨a13, rfl⟩ := kind_int ka13
  obtain ⟨xa14, ra14, ea14, ka14, hx14⟩ := kinds_cons hx13
  obtain ⟨a14, rfl⟩ := kind_int ka14
  obtain ⟨xa15, ra15, ea15, ka15, hx15⟩ := kinds_cons hx14
  obtain ⟨a15, rfl⟩ := kind_int ka15
  obtain ⟨xa16, ra16, ea16, ka16, hx16⟩ := kinds_cons hx15
  obtain ⟨a16, rfl⟩ := kind_int ka16
  obtain ⟨xa17, ra17, ea17, ka17, hx17⟩ := kinds_cons hx16
  obtain ⟨a17, rfl⟩ := kind_int ka17
  have za := kinds_nil hx17
  subst za
  subst ea17
  subst ea16
  subst ea15
  subst ea14
  subst ea13
  subst ea12
  subst ea11
  subst ea10
  subst ea9
  subst ea8
  subst ea7
  subst ea6
  subst ea5
  subst ea4
  subst ea3
  subst ea2
  subst ea1
  subst ea0
  obtain ⟨xb0, rb0, eb0, kb0, hy0⟩ := kinds_cons hy
  obtain ⟨b0, rfl⟩ := kind_int kb0
  obtain ⟨xb1, rb1, eb1, kb1, hy1⟩ := kinds_cons hy0
  obtain ⟨b1, rfl⟩ := kind_int kb1
  obtain ⟨xb2, rb2, eb2, kb2, hy2⟩ := kinds_cons hy1
  obtain ⟨b2, rfl⟩ := kind_int kb2
  obtain ⟨xb3, rb3, eb3, kb3, hy3⟩ := kinds_cons hy2
  obtain ⟨b3, rfl⟩ := kind_int kb3
  obtain ⟨xb4, rb4, eb4, kb4, hy4⟩ := kinds_cons hy3
  obtain ⟨b4, rfl⟩ := kind_int kb4
  obtain ⟨xb5, rb5, eb5, kb5, hy5⟩ := kinds_cons hy4
  obtain ⟨b5, rfl⟩ := kind_int kb5
  obtain ⟨xb6, rb6, eb6, kb6, hy6⟩ := kinds_cons hy5
  obtain ⟨b6, rfl⟩ := kind_int kb6
  obtain ⟨xb7, rb7, eb7, kb7, hy7⟩ := kinds_cons hy6
  obtain ⟨b7, rfl⟩ := kind_int kb7
  obtain ⟨xb8, rb8, eb8, kb8, hy8⟩ := kinds_cons hy7
  obtain ⟨b8, rfl⟩ := kind_int kb8
  obtain ⟨xb9, rb9, eb9, kb9, hy9⟩ := kinds_cons hy8
  obtain ⟨b9, rfl⟩ := kind_int kb9
  obtain ⟨xb10, rb10, eb10, kb10, hy10⟩ := kinds_cons hy9
  obtain ⟨b10, rfl⟩ := kind_int kb10
  obtain ⟨xb11, rb11, eb11, kb11, hy11⟩ := kinds_cons hy10
  obtain ⟨b11, rfl⟩ := kind_int kb11
  obtain ⟨xb12, rb12, eb12, kb12, hy12⟩ := kinds_cons hy11
  obtain ⟨b12, rfl⟩ := kind_int kb12
  obtain ⟨xb13, rb13, eb13, kb13, hy13⟩ := kinds_cons hy12
  obtain ⟨b13, rfl⟩ := kind_int kb13
  obtain ⟨xb14, rb14, eb14, kb14, hy14⟩ := kinds_cons hy13
  obtain ⟨b14, rfl⟩ := kind_int kb14
  obtain ⟨xb15, rb15, eb15, kb15, hy15⟩ := kinds_cons hy14
  obtain ⟨b15, rfl⟩ := kind_int kb15
  obtain ⟨xb16, rb16, eb16, kb16, hy16⟩ := kinds_cons hy15
  obtain ⟨b16, rfl⟩ := kind_int kb16
  obtain ⟨xb17, rb17, eb17, kb17, hy17⟩ := kinds_cons hy16
  obtain ⟨b17, rfl⟩ := kind_int kb17
  have zb := kinds_nil hy17
  subst zb
  subst eb17
  subst eb16
  subst eb15
  subst eb14
  subst eb13
  subst eb12
  subst eb11
  subst eb10
  subst eb9
  subst eb8
  subst eb7
  subst eb6
  subst eb5
  subst eb4
  subst eb3
  subst eb2
  subst eb1
  subst eb0
  have hR : eqAll [.int .i64 a0, .int .i64 a1, .int .i64 a2, .int .i64 a3, .int .i64 a4, .int .i64 a5, .int .i64 a6, .int .i64 a7, .int .i64 a8, .int .i64 a9, .int .i64 a10, .int .i64 a11, .int .i64 a12, .int .i64 a13, .int .i64 a14, .int .i64 a15, .int .i64 a16, .int .i64 a17] [.int .i64 b0, .int .i64 b1, .int .i64 b2, .int .i64 b3, .int .i64 b4, .int .i64 b5, .int .i64 b6, .int .i64 b7, .int .i64 b8, .int .i64 b9, .int .i64 b10, .int .i64 b11, .int .i64 b12, .int .i64 b13, .int .i64 b14, .int .i64 b15, .int .i64 b16, .int .i64 b17] = (((a0 == b0) && ((a1 == b1) && (a2 == b2))) && (((a3 == b3) && ((a4 == b4) && (a5 == b5))) && (((a6 == b6) && ((a7 == b7) && (a8 == b8))) && (((a9 == b9) && ((a10 == b10) && (a11 == b11))) && (((a12 == b12) && ((a13 == b13) && (a14 == b14))) && ((a15 == b15) && ((a16 == b16) && (a17 == b17)))))))) := by
    simp only [eqAll, eqD, Bool.and_assoc, Bool.and_true]
  rw [hR]
  clear hR hx hy
  obtain ⟨i, hi⟩ : ∃ i, Tryd.prog.info? 23 = some i := Option.isSome_iff_exists.1 (by kernel_rfl)
  simp only [Op.equal, Op.maxDepth, List.map_cons, List.map_nil, D.val]
  rw [show (10000 : Nat) = 9999 + 1 from rfl, run_equalIn_array w 9999 _ _ Tryd.underlying24 hi]
  rw [show Tryd.prog.cellsOf 23 = 3 from by kernel_rfl, show List.range 6 = [0, 1, 2, 3, 4, 5] from rfl]
  have hp : ∀ (W : World) (a : Array Value) (o : Nat), (part 23 a o).run Tryd.prog W = .ok (.agg (a.extract o (o + 3))) W := fun W a o => by simp [part, Tryd.isAgg23, Tryd.sizeOf23]
  simp only [Op.eqItems, Sem.run_bind, Nat.reduceMul, hp, Result.andThen_ok, List.extract_toArray, List.extract_eq_take_drop, List.drop_succ_cons, List.drop_zero, List.take_succ_cons, List.take_zero, Nat.reduceAdd, Nat.reduceSub, Nat.zero_add, Nat.sub_zero, show (9999 : Nat) = 9997 + 2 from rfl, ein_23]
  cases g0 : ((a0 == b0) && ((a1 == b1) && (a2 == b2)))
  · simp only [Bool.not_false, if_true, Sem.run_pure, Bool.false_and, Bool.true_and]
  simp only [Bool.not_true, Bool.false_eq_true, if_false, Bool.true_and]
  simp only [Op.eqItems, Sem.run_bind, Nat.reduceMul, hp, Result.andThen_ok, List.extract_toArray, List.extract_eq_take_drop, List.drop_succ_cons, List.drop_zero, List.take_succ_cons, List.take_zero, Nat.reduceAdd, Nat.reduceSub, Nat.zero_add, Nat.sub_zero, show (9999 : Nat) = 9997 + 2 from rfl, ein_23]
  cases g1 : ((a3 == b3) && ((a4 == b4) && (a5 == b5)))
  · simp only [Bool.not_false, if_true, Sem.run_pure, Bool.false_and, Bool.true_and]
  simp only [Bool.not_true, Bool.false_eq_true, if_false, Bool.true_and]
  simp only [Op.eqItems, Sem.run_bind, Nat.reduceMul, hp, Result.andThen_ok, List.extract_toArray, List.extract_eq_take_drop, List.drop_succ_cons, List.drop_zero, List.take_succ_cons, List.take_zero, Nat.reduceAdd, Nat.reduceSub, Nat.zero_add, Nat.sub_zero, show (9999 : Nat) = 9997 + 2 from rfl, ein_23]
  cases g2 : ((a6 == b6) && ((a7 == b7) && (a8 == b8)))
  · simp only [Bool.not_false, if_true, Sem.run_pure, Bool.false_and, Bool.true_and]
  simp only [Bool.not_true, Bool.false_eq_true, if_false, Bool.true_and]
  simp only [Op.eqItems, Sem.run_bind, Nat.reduceMul, hp, Result.andThen_ok, List.extract_toArray, List.extract_eq_take_drop, List.drop_succ_cons, List.drop_zero, List.take_succ_cons, List.take_zero, Nat.reduceAdd, Nat.reduceSub, Nat.zero_add, Nat.sub_zero, show (9999 : Nat) = 9997 + 2 from rfl, ein_23]
  cases g3 : ((a9 == b9) && ((a10 == b10) && (a11 == b11)))
  · simp only [Bool.not_false, if_true, Sem.run_pure, Bool.false_and, Bool.true_and]
  simp only [Bool.not_true, Bool.false_eq_true, if_false, Bool.true_and]
  simp only [Op.eqItems, Sem.run_bind, Nat.reduceMul, hp, Result.andThen_ok, List.extract_toArray, List.extract_eq_take_drop, List.drop_succ_cons, List.drop_zero, List.take_succ_cons, List.take_zero, Nat.reduceAdd, Nat.reduceSub, Nat.zero_add, Nat.sub_zero, show (9999 : Nat) = 9997 + 2 from rfl, ein_23]
  cases g4 : ((a12 == b12) && ((a13 == b13) && (a14 == b14)))
  · simp only [Bool.not_false, if_true, Sem.run_pure, Bool.false_and, Bool.true_and]
  simp only [Bool.not_true, Bool.false_eq_true, if_false, Bool.true_and]
  simp only [Op.eqItems, Sem.run_bind, Nat.reduceMul, hp, Result.andThen_ok, List.extract_toArray, List.extract_eq_take_drop, List.drop_succ_cons, List.drop_zero, List.take_succ_cons, List.take_zero, Nat.reduceAdd, Nat.reduceSub, Nat.zero_add, Nat.sub_zero, show (9999 : Nat) = 9997 + 2 from rfl, ein_23]
  cases g5 : ((a15 == b15) && ((a16 == b16) && (a17 == b17)))
  · simp only [Bool.not_false, if_true, Sem.run_pure, Bool.false_and, Bool.true_and]
  simp only [Op.eqItems, Bool.not_true, Bool.false_eq_true, if_false, Bool.true_and, Sem.run_pure]
def eqTab : TypeId → Option (List SK)
  | 23 => some [.int .i64, .int .i64, .int .i64]
  | 61 => some [.int .i64, .int .i64]
  | 24 => some [.int .i64, .int .i64, .int .i64, .int .i64, .int .i64, .int .i64, .int .i64, .int .i64, .int .i64, .int .i64, .int .i64, .int .i64, .int .i64, .int .i64, .int .i64, .int .i64, .int .i64, .int .i64]
  | _ => none
theorem eqTab_ok : ∀ t ks, eqTab t = some ks → EqOk Tryd.prog t ks := by
  intro t ks h
  unfold eqTab at h
  split at h
  · injection h with h; subst h; exact eq_23
  · injection h with h; subst h; exact eq_61
  · injection h with h; subst h; exact eq_24
  · cases h
def gP : Pg Tryd.prog := ⟨by kernel_rfl, eqTab, eqTab_ok⟩
@[simp] theorem gE_23 : gP.E 23 = some [.int .i64, .int .i64, .int .i64] := nr rfl
@[simp] theorem gE_61 : gP.E 61 = some [.int .i64, .int .i64] := nr rfl
@[simp] theorem gE_24 : gP.E 24 = some [.int .i64, .int .i64, .int .i64, .int .i64, .int .i64, .int .i64, .int .i64, .int .i64, .int .i64, .int .i64, .int .i64, .int .i64, .int .i64, .int .i64, .int .i64, .int .i64, .int .i64, .int .i64] := nr rfl
theorem ent_3 : enterable Tryd.prog 3 = true := by kernel_rfl
theorem ent_4 : enterable Tryd.prog 4 = true := by kernel_rfl
theorem ent_5 : enterable Tryd.prog 5 = true := by kernel_rfl
theorem ent_6 : enterable Tryd.prog 6 = true := by kernel_rfl
theorem ent_7 : enterable Tryd.prog 7 = true := by kernel_rfl
theorem ent_8 : enterable Tryd.prog 8 = true := by kernel_rfl
theorem ent_9 : enterable Tryd.prog 9 = true := by kernel_rfl
theorem ent_10 : enterable Tryd.prog 10 = true := by kernel_rfl
theorem ent_11 : enterable Tryd.prog 11 = true := by kernel_rfl
theorem ent_12 : enterable Tryd.prog 12 = true := by kernel_rfl
theorem ent_13 : enterable Tryd.prog 13 = true := by kernel_rfl
theorem ent_14 : enterable Tryd.prog 14 = true := by kernel_rfl
theorem ent_15 : enterable Tryd.prog 15 = true := by kernel_rfl
theorem ent_16 : enterable Tryd.prog 16 = true := by kernel_rfl
theorem ent_17 : enterable Tryd.prog 17 = true := by kernel_rfl
theorem ent_18 : enterable Tryd.prog 18 = true := by kernel_rfl
theorem ent_19 : enterable Tryd.prog 19 = true := by kernel_rfl
theorem ent_20 : enterable Tryd.prog 20 = true := by kernel_rfl
theorem ent_21 : enterable Tryd.prog 21 = true := by kernel_rfl
theorem ent_22 : enterable Tryd.prog 22 = true := by kernel_rfl
theorem ent_23 : enterable Tryd.prog 23 = true := by kernel_rfl
theorem ent_24 : enterable Tryd.prog 24 = true := by kernel_rfl
theorem ent_25 : enterable Tryd.prog 25 = true := by kernel_rfl
theorem ent_26 : enterable Tryd.prog 26 = true := by kernel_rfl
theorem ent_27 : enterable Tryd.prog 27 = true := by kernel_rfl
theorem ent_28 : enterable Tryd.prog 28 = true := by kernel_rfl
theorem ent_29 : enterable Tryd.prog 29 = true := by kernel_rfl
theorem ent_30 : enterable Tryd.prog 30 = true := by kernel_rfl
theorem ent_31 : enterable Tryd.prog 31 = true := by kernel_rfl
theorem ent_32 : enterable Tryd.prog 32 = true := by kernel_rfl
theorem ent_33 : enterable Tryd.prog 33 = true := by kernel_rfl
theorem ent_34 : enterable Tryd.prog 34 = true := by kernel_rfl
theorem ent_35 : enterable Tryd.prog 35 = true := by kernel_rfl
theorem ent_36 : enterable Tryd.prog 36 = true := by kernel_rfl
theorem ent_37 : enterable Tryd.prog 37 = true := by kernel_rfl
theorem ent_39 : enterable Tryd.prog 39 = true := by kernel_rfl
theorem ent_40 : enterable Tryd.prog 40 = true := by kernel_rfl
theorem ent_42 : enterable Tryd.prog 42 = true := by kernel_rfl
theorem ent_43 : enterable Tryd.prog 43 = true := by kernel_rfl
theorem ent_44 : enterable Tryd.prog 44 = true := by kernel_rfl
theorem ent_45 : enterable Tryd.prog 45 = true := by kernel_rfl
theorem ent_46 : enterable Tryd.prog 46 = true := by kernel_rfl
theorem ent_47 : enterable Tryd.prog 47 = true := by kernel_rfl
theorem ent_48 : enterable Tryd.prog 48 = true := by kernel_rfl
theorem ent_50 : enterable Tryd.prog 50 = true := by kernel_rfl
theorem ent_51 : enterable Tryd.prog 51 = true := by kernel_rfl
theorem ent_52 : enterable Tryd.prog 52 = true := by kernel_rfl
theorem ent_53 : enterable Tryd.prog 53 = true := by kernel_rfl
theorem ent_56 : enterable Tryd.prog 56 = true := by kernel_rfl
theorem ent_58 : enterable Tryd.prog 58 = true := by kernel_rfl
theorem ent_59 : enterable Tryd.prog 59 = true := by kernel_rfl
theorem ent_62 : enterable Tryd.prog 62 = true := by kernel_rfl
theorem ent_63 : enterable Tryd.prog 63 = true := by kernel_rfl
theorem ent_64 : enterable Tryd.prog 64 = true := by kernel_rfl
theorem ent_65 : enterable Tryd.prog 65 = true := by kernel_rfl
theorem ent_70 : enterable Tryd.prog 70 = true := by kernel_rfl
theorem ent_71 : enterable Tryd.prog 71 = true := by kernel_rfl
theorem ent_73 : enterable Tryd.prog 73 = true := by kernel_rfl
theorem ent_81 : enterable Tryd.prog 81 = true := by kernel_rfl
theorem ent_85 : enterable Tryd.prog 85 = true := by kernel_rfl

end Go.Proofs.YtiiglghanajfcaaDoor
