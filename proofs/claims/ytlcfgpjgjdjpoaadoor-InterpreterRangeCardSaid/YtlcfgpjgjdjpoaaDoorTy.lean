/-
  Facts on types and functions of this seat, for the shadow (written by wip/types.py).
-/
import Derived.Test.YtlcfgpjgjdjpoaaDoorSp
import Derived.Laws.StructEq
namespace Go.Proofs.YtlcfgpjgjdjpoaaDoor
open Go.RowKit

@[simp] theorem sz_1 : sizeT Tryd.prog 1 = some 1 := nr (by kernel_rfl)
@[simp] theorem ag_1 : aggT Tryd.prog 1 = some false := nr (by kernel_rfl)
@[simp] theorem zero_1 : zeroV Tryd.prog 1 = some (.d (.other .nilFunc)) := nr (by kernel_rfl)
@[simp] theorem und_2 : Tryd.prog.underlying 2 = some (.int .i64) := nr (by kernel_rfl)
@[simp] theorem sz_2 : sizeT Tryd.prog 2 = some 1 := nr (by kernel_rfl)
@[simp] theorem ag_2 : aggT Tryd.prog 2 = some false := nr (by kernel_rfl)
@[simp] theorem zero_2 : zeroV Tryd.prog 2 = some (.d (.int .i64 0)) := nr (by kernel_rfl)
@[simp] theorem und_3 : Tryd.prog.underlying 3 = some (.int .i64) := nr (by kernel_rfl)
@[simp] theorem sz_3 : sizeT Tryd.prog 3 = some 1 := nr (by kernel_rfl)
@[simp] theorem ag_3 : aggT Tryd.prog 3 = some false := nr (by kernel_rfl)
@[simp] theorem zero_3 : zeroV Tryd.prog 3 = some (.d (.int .i64 0)) := nr (by kernel_rfl)
@[simp] theorem und_4 : Tryd.prog.underlying 4 = some (.bool) := nr (by kernel_rfl)
@[simp] theorem sz_4 : sizeT Tryd.prog 4 = some 1 := nr (by kernel_rfl)
@[simp] theorem ag_4 : aggT Tryd.prog 4 = some false := nr (by kernel_rfl)
@[simp] theorem zero_4 : zeroV Tryd.prog 4 = some (.d (.bool false)) := nr (by kernel_rfl)
@[simp] theorem und_5 : Tryd.prog.underlying 5 = some (.int .u8) := nr (by kernel_rfl)
@[simp] theorem sz_5 : sizeT Tryd.prog 5 = some 1 := nr (by kernel_rfl)
@[simp] theorem ag_5 : aggT Tryd.prog 5 = some false := nr (by kernel_rfl)
@[simp] theorem zero_5 : zeroV Tryd.prog 5 = some (.d (.int .u8 0)) := nr (by kernel_rfl)
@[simp] theorem und_9 : Tryd.prog.underlying 9 = some (.string) := nr (by kernel_rfl)
@[simp] theorem sz_9 : sizeT Tryd.prog 9 = some 1 := nr (by kernel_rfl)
@[simp] theorem ag_9 : aggT Tryd.prog 9 = some false := nr (by kernel_rfl)
@[simp] theorem zero_9 : zeroV Tryd.prog 9 = some (.d (.str [])) := nr (by kernel_rfl)
@[simp] theorem und_12 : Tryd.prog.underlying 12 = some (.int .u64) := nr (by kernel_rfl)
@[simp] theorem sz_12 : sizeT Tryd.prog 12 = some 1 := nr (by kernel_rfl)
@[simp] theorem ag_12 : aggT Tryd.prog 12 = some false := nr (by kernel_rfl)
@[simp] theorem zero_12 : zeroV Tryd.prog 12 = some (.d (.int .u64 0)) := nr (by kernel_rfl)
@[simp] theorem sz_13 : sizeT Tryd.prog 13 = some 2 := nr (by kernel_rfl)
@[simp] theorem ag_13 : aggT Tryd.prog 13 = some true := nr (by kernel_rfl)
@[simp] theorem zero_13 : zeroV Tryd.prog 13 = some (.agg [.d (.str []), .d (.int .u64 0)]) := nr (by kernel_rfl)
@[simp] theorem fld_13_0 : fieldOf Tryd.prog 13 0 = some (0, 9) := nr (by kernel_rfl)
@[simp] theorem fld_13_1 : fieldOf Tryd.prog 13 1 = some (1, 12) := nr (by kernel_rfl)
@[simp] theorem pl_13 : placesT Tryd.prog 13 = some (.struct [(0, 1), (1, 1)]) := nr (by kernel_rfl)
@[simp] theorem sz_19 : sizeT Tryd.prog 19 = some 1 := nr (by kernel_rfl)
@[simp] theorem ag_19 : aggT Tryd.prog 19 = some true := nr (by kernel_rfl)
@[simp] theorem zero_19 : zeroV Tryd.prog 19 = some (.agg [.d (.other (.pointer none))]) := nr (by kernel_rfl)
@[simp] theorem fld_19_0 : fieldOf Tryd.prog 19 0 = some (0, 17) := nr (by kernel_rfl)
@[simp] theorem pl_19 : placesT Tryd.prog 19 = some (.struct [(0, 1)]) := nr (by kernel_rfl)
@[simp] theorem sz_20 : sizeT Tryd.prog 20 = some 1 := nr (by kernel_rfl)
@[simp] theorem ag_20 : aggT Tryd.prog 20 = some false := nr (by kernel_rfl)
@[simp] theorem zero_20 : zeroV Tryd.prog 20 = some (.d (.other .nilIface)) := nr (by kernel_rfl)
@[simp] theorem und_21 : Tryd.prog.underlying 21 = some (.int .i32) := nr (by kernel_rfl)
@[simp] theorem sz_21 : sizeT Tryd.prog 21 = some 1 := nr (by kernel_rfl)
@[simp] theorem ag_21 : aggT Tryd.prog 21 = some false := nr (by kernel_rfl)
@[simp] theorem zero_21 : zeroV Tryd.prog 21 = some (.d (.int .i32 0)) := nr (by kernel_rfl)
@[simp] theorem und_22 : Tryd.prog.underlying 22 = some (.slice 45) := nr (by kernel_rfl)
@[simp] theorem sz_22 : sizeT Tryd.prog 22 = some 1 := nr (by kernel_rfl)
@[simp] theorem ag_22 : aggT Tryd.prog 22 = some false := nr (by kernel_rfl)
@[simp] theorem zero_22 : zeroV Tryd.prog 22 = some (.nil) := nr (by kernel_rfl)
@[simp] theorem app_22 : appT Tryd.prog 22 = some (45, 3) := nr (by kernel_rfl)
@[simp] theorem sz_23 : sizeT Tryd.prog 23 = some 3 := nr (by kernel_rfl)
@[simp] theorem ag_23 : aggT Tryd.prog 23 = some true := nr (by kernel_rfl)
@[simp] theorem zero_23 : zeroV Tryd.prog 23 = some (.agg [.d (.int .i64 0), .d (.int .i64 0), .d (.int .i64 0)]) := nr (by kernel_rfl)
@[simp] theorem fld_23_0 : fieldOf Tryd.prog 23 0 = some (0, 2) := nr (by kernel_rfl)
@[simp] theorem fld_23_1 : fieldOf Tryd.prog 23 1 = some (1, 2) := nr (by kernel_rfl)
@[simp] theorem fld_23_2 : fieldOf Tryd.prog 23 2 = some (2, 2) := nr (by kernel_rfl)
@[simp] theorem pl_23 : placesT Tryd.prog 23 = some (.struct [(0, 1), (1, 1), (2, 1)]) := nr (by kernel_rfl)
@[simp] theorem sz_24 : sizeT Tryd.prog 24 = some 3 := nr (by kernel_rfl)
@[simp] theorem ag_24 : aggT Tryd.prog 24 = some true := nr (by kernel_rfl)
@[simp] theorem zero_24 : zeroV Tryd.prog 24 = some (.agg [.d (.int .i64 0), .d (.int .i64 0), .d (.int .i64 0)]) := nr (by kernel_rfl)
@[simp] theorem fld_24_0 : fieldOf Tryd.prog 24 0 = some (0, 2) := nr (by kernel_rfl)
@[simp] theorem fld_24_1 : fieldOf Tryd.prog 24 1 = some (1, 2) := nr (by kernel_rfl)
@[simp] theorem fld_24_2 : fieldOf Tryd.prog 24 2 = some (2, 2) := nr (by kernel_rfl)
@[simp] theorem pl_24 : placesT Tryd.prog 24 = some (.struct [(0, 1), (1, 1), (2, 1)]) := nr (by kernel_rfl)
@[simp] theorem und_25 : Tryd.prog.underlying 25 = some (.array 6 24) := nr (by kernel_rfl)
@[simp] theorem sz_25 : sizeT Tryd.prog 25 = some 18 := nr (by kernel_rfl)
@[simp] theorem ag_25 : aggT Tryd.prog 25 = some true := nr (by kernel_rfl)
@[simp] theorem zero_25 : zeroV Tryd.prog 25 = some (.agg [.d (.int .i64 0), .d (.int .i64 0), .d (.int .i64 0), .d (.int .i64 0), .d (.int .i64 0), .d (.int .i64 0), .d (.int .i64 0), .d (.int .i64 0), .d (.int .i64 0), .d (.int .i64 0), .d (.int .i64 0), .d (.int .i64 0), .d (.int .i64 0), .d (.int .i64 0), .d (.int .i64 0), .d (.int .i64 0), .d (.int .i64 0), .d (.int .i64 0)]) := nr (by kernel_rfl)
@[simp] theorem pl_25 : placesT Tryd.prog 25 = some (.array 3) := nr (by kernel_rfl)
@[simp] theorem und_26 : Tryd.prog.underlying 26 = some (.slice 93) := nr (by kernel_rfl)
@[simp] theorem sz_26 : sizeT Tryd.prog 26 = some 1 := nr (by kernel_rfl)
@[simp] theorem ag_26 : aggT Tryd.prog 26 = some false := nr (by kernel_rfl)
@[simp] theorem zero_26 : zeroV Tryd.prog 26 = some (.nil) := nr (by kernel_rfl)
@[simp] theorem app_26 : appT Tryd.prog 26 = some (93, 2) := nr (by kernel_rfl)
@[simp] theorem sz_27 : sizeT Tryd.prog 27 = some 19 := nr (by kernel_rfl)
@[simp] theorem ag_27 : aggT Tryd.prog 27 = some true := nr (by kernel_rfl)
@[simp] theorem zero_27 : zeroV Tryd.prog 27 = some (.agg [.d (.int .i64 0), .d (.int .i64 0), .d (.int .i64 0), .d (.int .i64 0), .d (.int .i64 0), .d (.int .i64 0), .d (.int .i64 0), .d (.int .i64 0), .d (.int .i64 0), .d (.int .i64 0), .d (.int .i64 0), .d (.int .i64 0), .d (.int .i64 0), .d (.int .i64 0), .d (.int .i64 0), .d (.int .i64 0), .d (.int .i64 0), .d (.int .i64 0), .nil]) := nr (by kernel_rfl)
@[simp] theorem fld_27_0 : fieldOf Tryd.prog 27 0 = some (0, 25) := nr (by kernel_rfl)
@[simp] theorem fld_27_1 : fieldOf Tryd.prog 27 1 = some (18, 26) := nr (by kernel_rfl)
@[simp] theorem pl_27 : placesT Tryd.prog 27 = some (.struct [(0, 18), (18, 1)]) := nr (by kernel_rfl)
@[simp] theorem sz_28 : sizeT Tryd.prog 28 = some 19 := nr (by kernel_rfl)
@[simp] theorem ag_28 : aggT Tryd.prog 28 = some true := nr (by kernel_rfl)
@[simp] theorem zero_28 : zeroV Tryd.prog 28 = some (.agg [.d (.int .i64 0), .d (.int .i64 0), .d (.int .i64 0), .d (.int .i64 0), .d (.int .i64 0), .d (.int .i64 0), .d (.int .i64 0), .d (.int .i64 0), .d (.int .i64 0), .d (.int .i64 0), .d (.int .i64 0), .d (.int .i64 0), .d (.int .i64 0), .d (.int .i64 0), .d (.int .i64 0), .d (.int .i64 0), .d (.int .i64 0), .d (.int .i64 0), .nil]) := nr (by kernel_rfl)
@[simp] theorem fld_28_0 : fieldOf Tryd.prog 28 0 = some (0, 25) := nr (by kernel_rfl)
@[simp] theorem fld_28_1 : fieldOf Tryd.prog 28 1 = some (18, 26) := nr (by kernel_rfl)
@[simp] theorem pl_28 : placesT Tryd.prog 28 = some (.struct [(0, 18), (18, 1)]) := nr (by kernel_rfl)
@[simp] theorem sz_29 : sizeT Tryd.prog 29 = some 22 := nr (by kernel_rfl)
@[simp] theorem ag_29 : aggT Tryd.prog 29 = some true := nr (by kernel_rfl)
@[simp] theorem zero_29 : zeroV Tryd.prog 29 = some (.agg [.d (.int .i64 0), .d (.int .i64 0), .d (.int .i64 0), .d (.int .i64 0), .d (.int .i64 0), .d (.int .i64 0), .d (.int .i64 0), .d (.int .i64 0), .d (.int .i64 0), .d (.int .i64 0), .d (.int .i64 0), .d (.int .i64 0), .d (.int .i64 0), .d (.int .i64 0), .d (.int .i64 0), .d (.int .i64 0), .d (.int .i64 0), .d (.int .i64 0), .nil, .d (.int .i64 0), .d (.int .i64 0), .d (.int .i64 0)]) := nr (by kernel_rfl)
@[simp] theorem fld_29_0 : fieldOf Tryd.prog 29 0 = some (0, 28) := nr (by kernel_rfl)
@[simp] theorem fld_29_1 : fieldOf Tryd.prog 29 1 = some (19, 24) := nr (by kernel_rfl)
@[simp] theorem pl_29 : placesT Tryd.prog 29 = some (.struct [(0, 19), (19, 3)]) := nr (by kernel_rfl)
@[simp] theorem sz_30 : sizeT Tryd.prog 30 = some 22 := nr (by kernel_rfl)
@[simp] theorem ag_30 : aggT Tryd.prog 30 = some true := nr (by kernel_rfl)
@[simp] theorem zero_30 : zeroV Tryd.prog 30 = some (.agg [.d (.int .i64 0), .d (.int .i64 0), .d (.int .i64 0), .d (.int .i64 0), .d (.int .i64 0), .d (.int .i64 0), .d (.int .i64 0), .d (.int .i64 0), .d (.int .i64 0), .d (.int .i64 0), .d (.int .i64 0), .d (.int .i64 0), .d (.int .i64 0), .d (.int .i64 0), .d (.int .i64 0), .d (.int .i64 0), .d (.int .i64 0), .d (.int .i64 0), .nil, .d (.int .i64 0), .d (.int .i64 0), .d (.int .i64 0)]) := nr (by kernel_rfl)
@[simp] theorem fld_30_0 : fieldOf Tryd.prog 30 0 = some (0, 28) := nr (by kernel_rfl)
@[simp] theorem fld_30_1 : fieldOf Tryd.prog 30 1 = some (19, 24) := nr (by kernel_rfl)
@[simp] theorem pl_30 : placesT Tryd.prog 30 = some (.struct [(0, 19), (19, 3)]) := nr (by kernel_rfl)
@[simp] theorem sz_31 : sizeT Tryd.prog 31 = some 1 := nr (by kernel_rfl)
@[simp] theorem ag_31 : aggT Tryd.prog 31 = some false := nr (by kernel_rfl)
@[simp] theorem zero_31 : zeroV Tryd.prog 31 = some (.d (.other .nilFunc)) := nr (by kernel_rfl)
@[simp] theorem und_32 : Tryd.prog.underlying 32 = some (.int .i64) := nr (by kernel_rfl)
@[simp] theorem sz_32 : sizeT Tryd.prog 32 = some 1 := nr (by kernel_rfl)
@[simp] theorem ag_32 : aggT Tryd.prog 32 = some false := nr (by kernel_rfl)
@[simp] theorem zero_32 : zeroV Tryd.prog 32 = some (.d (.int .i64 0)) := nr (by kernel_rfl)
@[simp] theorem sz_33 : sizeT Tryd.prog 33 = some 1 := nr (by kernel_rfl)
@[simp] theorem ag_33 : aggT Tryd.prog 33 = some false := nr (by kernel_rfl)
@[simp] theorem zero_33 : zeroV Tryd.prog 33 = some (.d (.other .nilFunc)) := nr (by kernel_rfl)
@[simp] theorem sz_34 : sizeT Tryd.prog 34 = some 1 := nr (by kernel_rfl)
@[simp] theorem ag_34 : aggT Tryd.prog 34 = some false := nr (by kernel_rfl)
@[simp] theorem zero_34 : zeroV Tryd.prog 34 = some (.d (.other .nilFunc)) := nr (by kernel_rfl)
@[simp] theorem sz_36 : sizeT Tryd.prog 36 = some 1 := nr (by kernel_rfl)
@[simp] theorem ag_36 : aggT Tryd.prog 36 = some false := nr (by kernel_rfl)
@[simp] theorem zero_36 : zeroV Tryd.prog 36 = some (.d (.other .nilFunc)) := nr (by kernel_rfl)
@[simp] theorem sz_37 : sizeT Tryd.prog 37 = some 2 := nr (by kernel_rfl)
@[simp] theorem ag_37 : aggT Tryd.prog 37 = some true := nr (by kernel_rfl)
@[simp] theorem zero_37 : zeroV Tryd.prog 37 = some (.agg [.d (.int .u8 0), .d (.int .i64 0)]) := nr (by kernel_rfl)
@[simp] theorem fld_37_0 : fieldOf Tryd.prog 37 0 = some (0, 5) := nr (by kernel_rfl)
@[simp] theorem fld_37_1 : fieldOf Tryd.prog 37 1 = some (1, 2) := nr (by kernel_rfl)
@[simp] theorem pl_37 : placesT Tryd.prog 37 = some (.struct [(0, 1), (1, 1)]) := nr (by kernel_rfl)
@[simp] theorem sz_38 : sizeT Tryd.prog 38 = some 2 := nr (by kernel_rfl)
@[simp] theorem ag_38 : aggT Tryd.prog 38 = some true := nr (by kernel_rfl)
@[simp] theorem zero_38 : zeroV Tryd.prog 38 = some (.agg [.d (.int .u8 0), .d (.int .i64 0)]) := nr (by kernel_rfl)
@[simp] theorem fld_38_0 : fieldOf Tryd.prog 38 0 = some (0, 5) := nr (by kernel_rfl)
@[simp] theorem fld_38_1 : fieldOf Tryd.prog 38 1 = some (1, 2) := nr (by kernel_rfl)
@[simp] theorem pl_38 : placesT Tryd.prog 38 = some (.struct [(0, 1), (1, 1)]) := nr (by kernel_rfl)
@[simp] theorem sz_39 : sizeT Tryd.prog 39 = some 1 := nr (by kernel_rfl)
@[simp] theorem ag_39 : aggT Tryd.prog 39 = some false := nr (by kernel_rfl)
@[simp] theorem zero_39 : zeroV Tryd.prog 39 = some (.d (.other .nilFunc)) := nr (by kernel_rfl)
@[simp] theorem und_40 : Tryd.prog.underlying 40 = some (.slice 38) := nr (by kernel_rfl)
@[simp] theorem sz_40 : sizeT Tryd.prog 40 = some 1 := nr (by kernel_rfl)
@[simp] theorem ag_40 : aggT Tryd.prog 40 = some false := nr (by kernel_rfl)
@[simp] theorem zero_40 : zeroV Tryd.prog 40 = some (.nil) := nr (by kernel_rfl)
@[simp] theorem app_40 : appT Tryd.prog 40 = some (38, 2) := nr (by kernel_rfl)
@[simp] theorem sz_41 : sizeT Tryd.prog 41 = some 3 := nr (by kernel_rfl)
@[simp] theorem ag_41 : aggT Tryd.prog 41 = some true := nr (by kernel_rfl)
@[simp] theorem zero_41 : zeroV Tryd.prog 41 = some (.agg [.d (.bool false), .nil, .d (.str [])]) := nr (by kernel_rfl)
@[simp] theorem fld_41_0 : fieldOf Tryd.prog 41 0 = some (0, 4) := nr (by kernel_rfl)
@[simp] theorem fld_41_1 : fieldOf Tryd.prog 41 1 = some (1, 40) := nr (by kernel_rfl)
@[simp] theorem fld_41_2 : fieldOf Tryd.prog 41 2 = some (2, 9) := nr (by kernel_rfl)
@[simp] theorem pl_41 : placesT Tryd.prog 41 = some (.struct [(0, 1), (1, 1), (2, 1)]) := nr (by kernel_rfl)
@[simp] theorem sz_42 : sizeT Tryd.prog 42 = some 3 := nr (by kernel_rfl)
@[simp] theorem ag_42 : aggT Tryd.prog 42 = some true := nr (by kernel_rfl)
@[simp] theorem zero_42 : zeroV Tryd.prog 42 = some (.agg [.d (.bool false), .nil, .d (.str [])]) := nr (by kernel_rfl)
@[simp] theorem fld_42_0 : fieldOf Tryd.prog 42 0 = some (0, 4) := nr (by kernel_rfl)
@[simp] theorem fld_42_1 : fieldOf Tryd.prog 42 1 = some (1, 40) := nr (by kernel_rfl)
@[simp] theorem fld_42_2 : fieldOf Tryd.prog 42 2 = some (2, 9) := nr (by kernel_rfl)
@[simp] theorem pl_42 : placesT Tryd.prog 42 = some (.struct [(0, 1), (1, 1), (2, 1)]) := nr (by kernel_rfl)
@[simp] theorem und_43 : Tryd.prog.underlying 43 = some (.slice 42) := nr (by kernel_rfl)
@[simp] theorem sz_43 : sizeT Tryd.prog 43 = some 1 := nr (by kernel_rfl)
@[simp] theorem ag_43 : aggT Tryd.prog 43 = some false := nr (by kernel_rfl)
@[simp] theorem zero_43 : zeroV Tryd.prog 43 = some (.nil) := nr (by kernel_rfl)
@[simp] theorem app_43 : appT Tryd.prog 43 = some (42, 3) := nr (by kernel_rfl)
@[simp] theorem und_44 : Tryd.prog.underlying 44 = some (.int .i16) := nr (by kernel_rfl)
@[simp] theorem sz_44 : sizeT Tryd.prog 44 = some 1 := nr (by kernel_rfl)
@[simp] theorem ag_44 : aggT Tryd.prog 44 = some false := nr (by kernel_rfl)
@[simp] theorem zero_44 : zeroV Tryd.prog 44 = some (.d (.int .i16 0)) := nr (by kernel_rfl)
@[simp] theorem und_45 : Tryd.prog.underlying 45 = some (.array 3 44) := nr (by kernel_rfl)
@[simp] theorem sz_45 : sizeT Tryd.prog 45 = some 3 := nr (by kernel_rfl)
@[simp] theorem ag_45 : aggT Tryd.prog 45 = some true := nr (by kernel_rfl)
@[simp] theorem zero_45 : zeroV Tryd.prog 45 = some (.agg [.d (.int .i16 0), .d (.int .i16 0), .d (.int .i16 0)]) := nr (by kernel_rfl)
@[simp] theorem pl_45 : placesT Tryd.prog 45 = some (.array 1) := nr (by kernel_rfl)
@[simp] theorem sz_46 : sizeT Tryd.prog 46 = some 1 := nr (by kernel_rfl)
@[simp] theorem ag_46 : aggT Tryd.prog 46 = some false := nr (by kernel_rfl)
@[simp] theorem zero_46 : zeroV Tryd.prog 46 = some (.d (.other .nilFunc)) := nr (by kernel_rfl)
@[simp] theorem und_47 : Tryd.prog.underlying 47 = some (.slice 62) := nr (by kernel_rfl)
@[simp] theorem sz_47 : sizeT Tryd.prog 47 = some 1 := nr (by kernel_rfl)
@[simp] theorem ag_47 : aggT Tryd.prog 47 = some false := nr (by kernel_rfl)
@[simp] theorem zero_47 : zeroV Tryd.prog 47 = some (.nil) := nr (by kernel_rfl)
@[simp] theorem app_47 : appT Tryd.prog 47 = some (62, 9) := nr (by kernel_rfl)
@[simp] theorem sz_48 : sizeT Tryd.prog 48 = some 2 := nr (by kernel_rfl)
@[simp] theorem ag_48 : aggT Tryd.prog 48 = some true := nr (by kernel_rfl)
@[simp] theorem zero_48 : zeroV Tryd.prog 48 = some (.agg [.d (.int .i64 0), .d (.int .i64 0)]) := nr (by kernel_rfl)
@[simp] theorem fld_48_0 : fieldOf Tryd.prog 48 0 = some (0, 3) := nr (by kernel_rfl)
@[simp] theorem fld_48_1 : fieldOf Tryd.prog 48 1 = some (1, 32) := nr (by kernel_rfl)
@[simp] theorem pl_48 : placesT Tryd.prog 48 = some (.struct [(0, 1), (1, 1)]) := nr (by kernel_rfl)
@[simp] theorem sz_49 : sizeT Tryd.prog 49 = some 2 := nr (by kernel_rfl)
@[simp] theorem ag_49 : aggT Tryd.prog 49 = some true := nr (by kernel_rfl)
@[simp] theorem zero_49 : zeroV Tryd.prog 49 = some (.agg [.d (.int .i64 0), .d (.int .i64 0)]) := nr (by kernel_rfl)
@[simp] theorem fld_49_0 : fieldOf Tryd.prog 49 0 = some (0, 3) := nr (by kernel_rfl)
@[simp] theorem fld_49_1 : fieldOf Tryd.prog 49 1 = some (1, 32) := nr (by kernel_rfl)
@[simp] theorem pl_49 : placesT Tryd.prog 49 = some (.struct [(0, 1), (1, 1)]) := nr (by kernel_rfl)
@[simp] theorem sz_51 : sizeT Tryd.prog 51 = some 1 := nr (by kernel_rfl)
@[simp] theorem ag_51 : aggT Tryd.prog 51 = some false := nr (by kernel_rfl)
@[simp] theorem zero_51 : zeroV Tryd.prog 51 = some (.d (.other .nilFunc)) := nr (by kernel_rfl)
@[simp] theorem und_52 : Tryd.prog.underlying 52 = some (.slice 100) := nr (by kernel_rfl)
@[simp] theorem sz_52 : sizeT Tryd.prog 52 = some 1 := nr (by kernel_rfl)
@[simp] theorem ag_52 : aggT Tryd.prog 52 = some false := nr (by kernel_rfl)
@[simp] theorem zero_52 : zeroV Tryd.prog 52 = some (.nil) := nr (by kernel_rfl)
@[simp] theorem app_52 : appT Tryd.prog 52 = some (100, 2) := nr (by kernel_rfl)
@[simp] theorem sz_53 : sizeT Tryd.prog 53 = some 19 := nr (by kernel_rfl)
@[simp] theorem ag_53 : aggT Tryd.prog 53 = some true := nr (by kernel_rfl)
@[simp] theorem zero_53 : zeroV Tryd.prog 53 = some (.agg [.d (.int .i64 0), .d (.int .i64 0), .d (.int .i64 0), .d (.int .i64 0), .d (.int .i64 0), .d (.int .i64 0), .d (.int .i64 0), .d (.int .i64 0), .d (.int .i64 0), .d (.int .i64 0), .d (.int .i64 0), .d (.int .i64 0), .d (.int .i64 0), .d (.int .i64 0), .d (.int .i64 0), .d (.int .i64 0), .d (.int .i64 0), .d (.int .i64 0), .nil]) := nr (by kernel_rfl)
@[simp] theorem fld_53_0 : fieldOf Tryd.prog 53 0 = some (0, 25) := nr (by kernel_rfl)
@[simp] theorem fld_53_1 : fieldOf Tryd.prog 53 1 = some (18, 52) := nr (by kernel_rfl)
@[simp] theorem pl_53 : placesT Tryd.prog 53 = some (.struct [(0, 18), (18, 1)]) := nr (by kernel_rfl)
@[simp] theorem sz_54 : sizeT Tryd.prog 54 = some 19 := nr (by kernel_rfl)
@[simp] theorem ag_54 : aggT Tryd.prog 54 = some true := nr (by kernel_rfl)
@[simp] theorem zero_54 : zeroV Tryd.prog 54 = some (.agg [.d (.int .i64 0), .d (.int .i64 0), .d (.int .i64 0), .d (.int .i64 0), .d (.int .i64 0), .d (.int .i64 0), .d (.int .i64 0), .d (.int .i64 0), .d (.int .i64 0), .d (.int .i64 0), .d (.int .i64 0), .d (.int .i64 0), .d (.int .i64 0), .d (.int .i64 0), .d (.int .i64 0), .d (.int .i64 0), .d (.int .i64 0), .d (.int .i64 0), .nil]) := nr (by kernel_rfl)
@[simp] theorem fld_54_0 : fieldOf Tryd.prog 54 0 = some (0, 25) := nr (by kernel_rfl)
@[simp] theorem fld_54_1 : fieldOf Tryd.prog 54 1 = some (18, 52) := nr (by kernel_rfl)
@[simp] theorem pl_54 : placesT Tryd.prog 54 = some (.struct [(0, 18), (18, 1)]) := nr (by kernel_rfl)
@[simp] theorem sz_55 : sizeT Tryd.prog 55 = some 1 := nr (by kernel_rfl)
@[simp] theorem ag_55 : aggT Tryd.prog 55 = some false := nr (by kernel_rfl)
@[simp] theorem zero_55 : zeroV Tryd.prog 55 = some (.d (.other .nilFunc)) := nr (by kernel_rfl)
@[simp] theorem sz_56 : sizeT Tryd.prog 56 = some 1 := nr (by kernel_rfl)
@[simp] theorem ag_56 : aggT Tryd.prog 56 = some false := nr (by kernel_rfl)
@[simp] theorem zero_56 : zeroV Tryd.prog 56 = some (.d (.other .nilFunc)) := nr (by kernel_rfl)
@[simp] theorem sz_57 : sizeT Tryd.prog 57 = some 1 := nr (by kernel_rfl)
@[simp] theorem ag_57 : aggT Tryd.prog 57 = some false := nr (by kernel_rfl)
@[simp] theorem zero_57 : zeroV Tryd.prog 57 = some (.d (.other .nilFunc)) := nr (by kernel_rfl)
@[simp] theorem und_58 : Tryd.prog.underlying 58 = some (.array 3 21) := nr (by kernel_rfl)
@[simp] theorem sz_58 : sizeT Tryd.prog 58 = some 3 := nr (by kernel_rfl)
@[simp] theorem ag_58 : aggT Tryd.prog 58 = some true := nr (by kernel_rfl)
@[simp] theorem zero_58 : zeroV Tryd.prog 58 = some (.agg [.d (.int .i32 0), .d (.int .i32 0), .d (.int .i32 0)]) := nr (by kernel_rfl)
@[simp] theorem pl_58 : placesT Tryd.prog 58 = some (.array 1) := nr (by kernel_rfl)
@[simp] theorem sz_59 : sizeT Tryd.prog 59 = some 1 := nr (by kernel_rfl)
@[simp] theorem ag_59 : aggT Tryd.prog 59 = some false := nr (by kernel_rfl)
@[simp] theorem zero_59 : zeroV Tryd.prog 59 = some (.d (.other .nilFunc)) := nr (by kernel_rfl)
@[simp] theorem sz_60 : sizeT Tryd.prog 60 = some 1 := nr (by kernel_rfl)
@[simp] theorem ag_60 : aggT Tryd.prog 60 = some false := nr (by kernel_rfl)
@[simp] theorem zero_60 : zeroV Tryd.prog 60 = some (.d (.other .nilFunc)) := nr (by kernel_rfl)
@[simp] theorem sz_61 : sizeT Tryd.prog 61 = some 9 := nr (by kernel_rfl)
@[simp] theorem ag_61 : aggT Tryd.prog 61 = some true := nr (by kernel_rfl)
@[simp] theorem zero_61 : zeroV Tryd.prog 61 = some (.agg [.d (.int .i64 0), .d (.int .i64 0), .d (.int .i64 0), .d (.int .i64 0), .d (.int .i64 0), .d (.int .i64 0), .d (.int .i64 0), .d (.int .i64 0), .d (.int .i64 0)]) := nr (by kernel_rfl)
@[simp] theorem fld_61_0 : fieldOf Tryd.prog 61 0 = some (0, 24) := nr (by kernel_rfl)
@[simp] theorem fld_61_1 : fieldOf Tryd.prog 61 1 = some (3, 24) := nr (by kernel_rfl)
@[simp] theorem fld_61_2 : fieldOf Tryd.prog 61 2 = some (6, 2) := nr (by kernel_rfl)
@[simp] theorem fld_61_3 : fieldOf Tryd.prog 61 3 = some (7, 3) := nr (by kernel_rfl)
@[simp] theorem fld_61_4 : fieldOf Tryd.prog 61 4 = some (8, 3) := nr (by kernel_rfl)
@[simp] theorem pl_61 : placesT Tryd.prog 61 = some (.struct [(0, 3), (3, 3), (6, 1), (7, 1), (8, 1)]) := nr (by kernel_rfl)
@[simp] theorem sz_62 : sizeT Tryd.prog 62 = some 9 := nr (by kernel_rfl)
@[simp] theorem ag_62 : aggT Tryd.prog 62 = some true := nr (by kernel_rfl)
@[simp] theorem zero_62 : zeroV Tryd.prog 62 = some (.agg [.d (.int .i64 0), .d (.int .i64 0), .d (.int .i64 0), .d (.int .i64 0), .d (.int .i64 0), .d (.int .i64 0), .d (.int .i64 0), .d (.int .i64 0), .d (.int .i64 0)]) := nr (by kernel_rfl)
@[simp] theorem fld_62_0 : fieldOf Tryd.prog 62 0 = some (0, 24) := nr (by kernel_rfl)
@[simp] theorem fld_62_1 : fieldOf Tryd.prog 62 1 = some (3, 24) := nr (by kernel_rfl)
@[simp] theorem fld_62_2 : fieldOf Tryd.prog 62 2 = some (6, 2) := nr (by kernel_rfl)
@[simp] theorem fld_62_3 : fieldOf Tryd.prog 62 3 = some (7, 3) := nr (by kernel_rfl)
@[simp] theorem fld_62_4 : fieldOf Tryd.prog 62 4 = some (8, 3) := nr (by kernel_rfl)
@[simp] theorem pl_62 : placesT Tryd.prog 62 = some (.struct [(0, 3), (3, 3), (6, 1), (7, 1), (8, 1)]) := nr (by kernel_rfl)
@[simp] theorem sz_63 : sizeT Tryd.prog 63 = some 1 := nr (by kernel_rfl)
@[simp] theorem ag_63 : aggT Tryd.prog 63 = some false := nr (by kernel_rfl)
@[simp] theorem zero_63 : zeroV Tryd.prog 63 = some (.d (.other .nilFunc)) := nr (by kernel_rfl)
@[simp] theorem sz_64 : sizeT Tryd.prog 64 = some 8 := nr (by kernel_rfl)
@[simp] theorem ag_64 : aggT Tryd.prog 64 = some true := nr (by kernel_rfl)
@[simp] theorem zero_64 : zeroV Tryd.prog 64 = some (.agg [.d (.int .i64 0), .d (.int .i64 0), .d (.int .i64 0), .d (.int .i64 0), .d (.int .i64 0), .d (.int .i64 0), .d (.int .i64 0), .d (.int .i64 0)]) := nr (by kernel_rfl)
@[simp] theorem fld_64_0 : fieldOf Tryd.prog 64 0 = some (0, 2) := nr (by kernel_rfl)
@[simp] theorem fld_64_1 : fieldOf Tryd.prog 64 1 = some (1, 2) := nr (by kernel_rfl)
@[simp] theorem fld_64_2 : fieldOf Tryd.prog 64 2 = some (2, 2) := nr (by kernel_rfl)
@[simp] theorem fld_64_3 : fieldOf Tryd.prog 64 3 = some (3, 2) := nr (by kernel_rfl)
@[simp] theorem fld_64_4 : fieldOf Tryd.prog 64 4 = some (4, 2) := nr (by kernel_rfl)
@[simp] theorem fld_64_5 : fieldOf Tryd.prog 64 5 = some (5, 2) := nr (by kernel_rfl)
@[simp] theorem fld_64_6 : fieldOf Tryd.prog 64 6 = some (6, 2) := nr (by kernel_rfl)
@[simp] theorem fld_64_7 : fieldOf Tryd.prog 64 7 = some (7, 2) := nr (by kernel_rfl)
@[simp] theorem pl_64 : placesT Tryd.prog 64 = some (.struct [(0, 1), (1, 1), (2, 1), (3, 1), (4, 1), (5, 1), (6, 1), (7, 1)]) := nr (by kernel_rfl)
@[simp] theorem sz_65 : sizeT Tryd.prog 65 = some 8 := nr (by kernel_rfl)
@[simp] theorem ag_65 : aggT Tryd.prog 65 = some true := nr (by kernel_rfl)
@[simp] theorem zero_65 : zeroV Tryd.prog 65 = some (.agg [.d (.int .i64 0), .d (.int .i64 0), .d (.int .i64 0), .d (.int .i64 0), .d (.int .i64 0), .d (.int .i64 0), .d (.int .i64 0), .d (.int .i64 0)]) := nr (by kernel_rfl)
@[simp] theorem fld_65_0 : fieldOf Tryd.prog 65 0 = some (0, 2) := nr (by kernel_rfl)
@[simp] theorem fld_65_1 : fieldOf Tryd.prog 65 1 = some (1, 2) := nr (by kernel_rfl)
@[simp] theorem fld_65_2 : fieldOf Tryd.prog 65 2 = some (2, 2) := nr (by kernel_rfl)
@[simp] theorem fld_65_3 : fieldOf Tryd.prog 65 3 = some (3, 2) := nr (by kernel_rfl)
@[simp] theorem fld_65_4 : fieldOf Tryd.prog 65 4 = some (4, 2) := nr (by kernel_rfl)
@[simp] theorem fld_65_5 : fieldOf Tryd.prog 65 5 = some (5, 2) := nr (by kernel_rfl)
@[simp] theorem fld_65_6 : fieldOf Tryd.prog 65 6 = some (6, 2) := nr (by kernel_rfl)
@[simp] theorem fld_65_7 : fieldOf Tryd.prog 65 7 = some (7, 2) := nr (by kernel_rfl)
@[simp] theorem pl_65 : placesT Tryd.prog 65 = some (.struct [(0, 1), (1, 1), (2, 1), (3, 1), (4, 1), (5, 1), (6, 1), (7, 1)]) := nr (by kernel_rfl)
@[simp] theorem sz_66 : sizeT Tryd.prog 66 = some 1 := nr (by kernel_rfl)
@[simp] theorem ag_66 : aggT Tryd.prog 66 = some false := nr (by kernel_rfl)
@[simp] theorem zero_66 : zeroV Tryd.prog 66 = some (.d (.other .nilFunc)) := nr (by kernel_rfl)
@[simp] theorem sz_67 : sizeT Tryd.prog 67 = some 7 := nr (by kernel_rfl)
@[simp] theorem ag_67 : aggT Tryd.prog 67 = some true := nr (by kernel_rfl)
@[simp] theorem zero_67 : zeroV Tryd.prog 67 = some (.agg [.d (.int .i64 0), .d (.int .i64 0), .d (.int .i64 0), .d (.int .i64 0), .d (.int .i64 0), .d (.int .i64 0), .d (.bool false)]) := nr (by kernel_rfl)
@[simp] theorem fld_67_0 : fieldOf Tryd.prog 67 0 = some (0, 2) := nr (by kernel_rfl)
@[simp] theorem fld_67_1 : fieldOf Tryd.prog 67 1 = some (1, 2) := nr (by kernel_rfl)
@[simp] theorem fld_67_2 : fieldOf Tryd.prog 67 2 = some (2, 2) := nr (by kernel_rfl)
@[simp] theorem fld_67_3 : fieldOf Tryd.prog 67 3 = some (3, 2) := nr (by kernel_rfl)
@[simp] theorem fld_67_4 : fieldOf Tryd.prog 67 4 = some (4, 2) := nr (by kernel_rfl)
@[simp] theorem fld_67_5 : fieldOf Tryd.prog 67 5 = some (5, 2) := nr (by kernel_rfl)
@[simp] theorem fld_67_6 : fieldOf Tryd.prog 67 6 = some (6, 4) := nr (by kernel_rfl)
@[simp] theorem pl_67 : placesT Tryd.prog 67 = some (.struct [(0, 1), (1, 1), (2, 1), (3, 1), (4, 1), (5, 1), (6, 1)]) := nr (by kernel_rfl)
@[simp] theorem sz_68 : sizeT Tryd.prog 68 = some 7 := nr (by kernel_rfl)
@[simp] theorem ag_68 : aggT Tryd.prog 68 = some true := nr (by kernel_rfl)
@[simp] theorem zero_68 : zeroV Tryd.prog 68 = some (.agg [.d (.int .i64 0), .d (.int .i64 0), .d (.int .i64 0), .d (.int .i64 0), .d (.int .i64 0), .d (.int .i64 0), .d (.bool false)]) := nr (by kernel_rfl)
@[simp] theorem fld_68_0 : fieldOf Tryd.prog 68 0 = some (0, 2) := nr (by kernel_rfl)
@[simp] theorem fld_68_1 : fieldOf Tryd.prog 68 1 = some (1, 2) := nr (by kernel_rfl)
@[simp] theorem fld_68_2 : fieldOf Tryd.prog 68 2 = some (2, 2) := nr (by kernel_rfl)
@[simp] theorem fld_68_3 : fieldOf Tryd.prog 68 3 = some (3, 2) := nr (by kernel_rfl)
@[simp] theorem fld_68_4 : fieldOf Tryd.prog 68 4 = some (4, 2) := nr (by kernel_rfl)
@[simp] theorem fld_68_5 : fieldOf Tryd.prog 68 5 = some (5, 2) := nr (by kernel_rfl)
@[simp] theorem fld_68_6 : fieldOf Tryd.prog 68 6 = some (6, 4) := nr (by kernel_rfl)
@[simp] theorem pl_68 : placesT Tryd.prog 68 = some (.struct [(0, 1), (1, 1), (2, 1), (3, 1), (4, 1), (5, 1), (6, 1)]) := nr (by kernel_rfl)
@[simp] theorem sz_70 : sizeT Tryd.prog 70 = some 1 := nr (by kernel_rfl)
@[simp] theorem ag_70 : aggT Tryd.prog 70 = some false := nr (by kernel_rfl)
@[simp] theorem zero_70 : zeroV Tryd.prog 70 = some (.d (.other .nilFunc)) := nr (by kernel_rfl)
@[simp] theorem sz_71 : sizeT Tryd.prog 71 = some 1 := nr (by kernel_rfl)
@[simp] theorem ag_71 : aggT Tryd.prog 71 = some false := nr (by kernel_rfl)
@[simp] theorem zero_71 : zeroV Tryd.prog 71 = some (.d (.other .nilFunc)) := nr (by kernel_rfl)
@[simp] theorem sz_73 : sizeT Tryd.prog 73 = some 1 := nr (by kernel_rfl)
@[simp] theorem ag_73 : aggT Tryd.prog 73 = some false := nr (by kernel_rfl)
@[simp] theorem zero_73 : zeroV Tryd.prog 73 = some (.d (.other .nilFunc)) := nr (by kernel_rfl)
@[simp] theorem sz_74 : sizeT Tryd.prog 74 = some 1 := nr (by kernel_rfl)
@[simp] theorem ag_74 : aggT Tryd.prog 74 = some false := nr (by kernel_rfl)
@[simp] theorem zero_74 : zeroV Tryd.prog 74 = some (.d (.other .nilFunc)) := nr (by kernel_rfl)
@[simp] theorem sz_75 : sizeT Tryd.prog 75 = some 1 := nr (by kernel_rfl)
@[simp] theorem ag_75 : aggT Tryd.prog 75 = some false := nr (by kernel_rfl)
@[simp] theorem zero_75 : zeroV Tryd.prog 75 = some (.d (.other .nilFunc)) := nr (by kernel_rfl)
@[simp] theorem sz_77 : sizeT Tryd.prog 77 = some 1 := nr (by kernel_rfl)
@[simp] theorem ag_77 : aggT Tryd.prog 77 = some false := nr (by kernel_rfl)
@[simp] theorem zero_77 : zeroV Tryd.prog 77 = some (.d (.other .nilFunc)) := nr (by kernel_rfl)
@[simp] theorem sz_78 : sizeT Tryd.prog 78 = some 8 := nr (by kernel_rfl)
@[simp] theorem ag_78 : aggT Tryd.prog 78 = some true := nr (by kernel_rfl)
@[simp] theorem zero_78 : zeroV Tryd.prog 78 = some (.agg [.d (.int .i64 0), .d (.int .i64 0), .d (.int .i64 0), .d (.int .i64 0), .d (.int .i64 0), .d (.int .i64 0), .d (.int .i64 0), .d (.int .i64 0)]) := nr (by kernel_rfl)
@[simp] theorem fld_78_0 : fieldOf Tryd.prog 78 0 = some (0, 2) := nr (by kernel_rfl)
@[simp] theorem fld_78_1 : fieldOf Tryd.prog 78 1 = some (1, 2) := nr (by kernel_rfl)
@[simp] theorem fld_78_2 : fieldOf Tryd.prog 78 2 = some (2, 2) := nr (by kernel_rfl)
@[simp] theorem fld_78_3 : fieldOf Tryd.prog 78 3 = some (3, 2) := nr (by kernel_rfl)
@[simp] theorem fld_78_4 : fieldOf Tryd.prog 78 4 = some (4, 2) := nr (by kernel_rfl)
@[simp] theorem fld_78_5 : fieldOf Tryd.prog 78 5 = some (5, 2) := nr (by kernel_rfl)
@[simp] theorem fld_78_6 : fieldOf Tryd.prog 78 6 = some (6, 2) := nr (by kernel_rfl)
@[simp] theorem fld_78_7 : fieldOf Tryd.prog 78 7 = some (7, 2) := nr (by kernel_rfl)
@[simp] theorem pl_78 : placesT Tryd.prog 78 = some (.struct [(0, 1), (1, 1), (2, 1), (3, 1), (4, 1), (5, 1), (6, 1), (7, 1)]) := nr (by kernel_rfl)
@[simp] theorem sz_80 : sizeT Tryd.prog 80 = some 1 := nr (by kernel_rfl)
@[simp] theorem ag_80 : aggT Tryd.prog 80 = some false := nr (by kernel_rfl)
@[simp] theorem zero_80 : zeroV Tryd.prog 80 = some (.d (.other .nilFunc)) := nr (by kernel_rfl)
@[simp] theorem sz_81 : sizeT Tryd.prog 81 = some 1 := nr (by kernel_rfl)
@[simp] theorem ag_81 : aggT Tryd.prog 81 = some false := nr (by kernel_rfl)
@[simp] theorem zero_81 : zeroV Tryd.prog 81 = some (.d (.other .nilFunc)) := nr (by kernel_rfl)
@[simp] theorem sz_82 : sizeT Tryd.prog 82 = some 1 := nr (by kernel_rfl)
@[simp] theorem ag_82 : aggT Tryd.prog 82 = some false := nr (by kernel_rfl)
@[simp] theorem zero_82 : zeroV Tryd.prog 82 = some (.d (.other .nilFunc)) := nr (by kernel_rfl)
@[simp] theorem und_83 : Tryd.prog.underlying 83 = some (.slice 3) := nr (by kernel_rfl)
@[simp] theorem sz_83 : sizeT Tryd.prog 83 = some 1 := nr (by kernel_rfl)
@[simp] theorem ag_83 : aggT Tryd.prog 83 = some false := nr (by kernel_rfl)
@[simp] theorem zero_83 : zeroV Tryd.prog 83 = some (.nil) := nr (by kernel_rfl)
@[simp] theorem app_83 : appT Tryd.prog 83 = some (3, 1) := nr (by kernel_rfl)
@[simp] theorem sz_84 : sizeT Tryd.prog 84 = some 1 := nr (by kernel_rfl)
@[simp] theorem ag_84 : aggT Tryd.prog 84 = some false := nr (by kernel_rfl)
@[simp] theorem zero_84 : zeroV Tryd.prog 84 = some (.d (.other .nilFunc)) := nr (by kernel_rfl)
@[simp] theorem sz_85 : sizeT Tryd.prog 85 = some 1 := nr (by kernel_rfl)
@[simp] theorem ag_85 : aggT Tryd.prog 85 = some false := nr (by kernel_rfl)
@[simp] theorem zero_85 : zeroV Tryd.prog 85 = some (.d (.other .nilFunc)) := nr (by kernel_rfl)
@[simp] theorem sz_86 : sizeT Tryd.prog 86 = some 1 := nr (by kernel_rfl)
@[simp] theorem ag_86 : aggT Tryd.prog 86 = some false := nr (by kernel_rfl)
@[simp] theorem zero_86 : zeroV Tryd.prog 86 = some (.d (.other .nilFunc)) := nr (by kernel_rfl)
@[simp] theorem sz_87 : sizeT Tryd.prog 87 = some 1 := nr (by kernel_rfl)
@[simp] theorem ag_87 : aggT Tryd.prog 87 = some false := nr (by kernel_rfl)
@[simp] theorem zero_87 : zeroV Tryd.prog 87 = some (.d (.other .nilFunc)) := nr (by kernel_rfl)
@[simp] theorem sz_88 : sizeT Tryd.prog 88 = some 1 := nr (by kernel_rfl)
@[simp] theorem ag_88 : aggT Tryd.prog 88 = some false := nr (by kernel_rfl)
@[simp] theorem zero_88 : zeroV Tryd.prog 88 = some (.d (.other .nilFunc)) := nr (by kernel_rfl)
@[simp] theorem sz_89 : sizeT Tryd.prog 89 = some 1 := nr (by kernel_rfl)
@[simp] theorem ag_89 : aggT Tryd.prog 89 = some false := nr (by kernel_rfl)
@[simp] theorem zero_89 : zeroV Tryd.prog 89 = some (.d (.other .nilFunc)) := nr (by kernel_rfl)
@[simp] theorem sz_90 : sizeT Tryd.prog 90 = some 1 := nr (by kernel_rfl)
@[simp] theorem ag_90 : aggT Tryd.prog 90 = some false := nr (by kernel_rfl)
@[simp] theorem zero_90 : zeroV Tryd.prog 90 = some (.d (.other .nilFunc)) := nr (by kernel_rfl)
@[simp] theorem sz_91 : sizeT Tryd.prog 91 = some 1 := nr (by kernel_rfl)
@[simp] theorem ag_91 : aggT Tryd.prog 91 = some false := nr (by kernel_rfl)
@[simp] theorem zero_91 : zeroV Tryd.prog 91 = some (.d (.other .nilFunc)) := nr (by kernel_rfl)
@[simp] theorem sz_92 : sizeT Tryd.prog 92 = some 2 := nr (by kernel_rfl)
@[simp] theorem ag_92 : aggT Tryd.prog 92 = some true := nr (by kernel_rfl)
@[simp] theorem zero_92 : zeroV Tryd.prog 92 = some (.agg [.d (.int .i64 0), .d (.int .i64 0)]) := nr (by kernel_rfl)
@[simp] theorem fld_92_0 : fieldOf Tryd.prog 92 0 = some (0, 2) := nr (by kernel_rfl)
@[simp] theorem fld_92_1 : fieldOf Tryd.prog 92 1 = some (1, 2) := nr (by kernel_rfl)
@[simp] theorem pl_92 : placesT Tryd.prog 92 = some (.struct [(0, 1), (1, 1)]) := nr (by kernel_rfl)
@[simp] theorem sz_93 : sizeT Tryd.prog 93 = some 2 := nr (by kernel_rfl)
@[simp] theorem ag_93 : aggT Tryd.prog 93 = some true := nr (by kernel_rfl)
@[simp] theorem zero_93 : zeroV Tryd.prog 93 = some (.agg [.d (.int .i64 0), .d (.int .i64 0)]) := nr (by kernel_rfl)
@[simp] theorem fld_93_0 : fieldOf Tryd.prog 93 0 = some (0, 2) := nr (by kernel_rfl)
@[simp] theorem fld_93_1 : fieldOf Tryd.prog 93 1 = some (1, 2) := nr (by kernel_rfl)
@[simp] theorem pl_93 : placesT Tryd.prog 93 = some (.struct [(0, 1), (1, 1)]) := nr (by kernel_rfl)
@[simp] theorem sz_94 : sizeT Tryd.prog 94 = some 1 := nr (by kernel_rfl)
@[simp] theorem ag_94 : aggT Tryd.prog 94 = some false := nr (by kernel_rfl)
@[simp] theorem zero_94 : zeroV Tryd.prog 94 = some (.d (.other .nilFunc)) := nr (by kernel_rfl)
@[simp] theorem sz_95 : sizeT Tryd.prog 95 = some 1 := nr (by kernel_rfl)
@[simp] theorem ag_95 : aggT Tryd.prog 95 = some false := nr (by kernel_rfl)
@[simp] theorem zero_95 : zeroV Tryd.prog 95 = some (.d (.other .nilFunc)) := nr (by kernel_rfl)
@[simp] theorem sz_96 : sizeT Tryd.prog 96 = some 1 := nr (by kernel_rfl)
@[simp] theorem ag_96 : aggT Tryd.prog 96 = some false := nr (by kernel_rfl)
@[simp] theorem zero_96 : zeroV Tryd.prog 96 = some (.d (.other .nilFunc)) := nr (by kernel_rfl)
@[simp] theorem sz_97 : sizeT Tryd.prog 97 = some 1 := nr (by kernel_rfl)
@[simp] theorem ag_97 : aggT Tryd.prog 97 = some false := nr (by kernel_rfl)
@[simp] theorem zero_97 : zeroV Tryd.prog 97 = some (.d (.other .nilFunc)) := nr (by kernel_rfl)
@[simp] theorem und_98 : Tryd.prog.underlying 98 = some (.slice 2) := nr (by kernel_rfl)
@[simp] theorem sz_98 : sizeT Tryd.prog 98 = some 1 := nr (by kernel_rfl)
@[simp] theorem ag_98 : aggT Tryd.prog 98 = some false := nr (by kernel_rfl)
@[simp] theorem zero_98 : zeroV Tryd.prog 98 = some (.nil) := nr (by kernel_rfl)
@[simp] theorem app_98 : appT Tryd.prog 98 = some (2, 1) := nr (by kernel_rfl)
@[simp] theorem sz_99 : sizeT Tryd.prog 99 = some 1 := nr (by kernel_rfl)
@[simp] theorem ag_99 : aggT Tryd.prog 99 = some false := nr (by kernel_rfl)
@[simp] theorem zero_99 : zeroV Tryd.prog 99 = some (.d (.other .nilFunc)) := nr (by kernel_rfl)
@[simp] theorem sz_100 : sizeT Tryd.prog 100 = some 2 := nr (by kernel_rfl)
@[simp] theorem ag_100 : aggT Tryd.prog 100 = some true := nr (by kernel_rfl)
@[simp] theorem zero_100 : zeroV Tryd.prog 100 = some (.agg [.d (.int .i64 0), .d (.int .i64 0)]) := nr (by kernel_rfl)
@[simp] theorem fld_100_0 : fieldOf Tryd.prog 100 0 = some (0, 2) := nr (by kernel_rfl)
@[simp] theorem fld_100_1 : fieldOf Tryd.prog 100 1 = some (1, 2) := nr (by kernel_rfl)
@[simp] theorem pl_100 : placesT Tryd.prog 100 = some (.struct [(0, 1), (1, 1)]) := nr (by kernel_rfl)
@[simp] theorem sz_101 : sizeT Tryd.prog 101 = some 1 := nr (by kernel_rfl)
@[simp] theorem ag_101 : aggT Tryd.prog 101 = some false := nr (by kernel_rfl)
@[simp] theorem zero_101 : zeroV Tryd.prog 101 = some (.d (.other .nilFunc)) := nr (by kernel_rfl)
@[simp] theorem sz_102 : sizeT Tryd.prog 102 = some 1 := nr (by kernel_rfl)
@[simp] theorem ag_102 : aggT Tryd.prog 102 = some false := nr (by kernel_rfl)
@[simp] theorem zero_102 : zeroV Tryd.prog 102 = some (.d (.other .nilFunc)) := nr (by kernel_rfl)
@[simp] theorem sz_103 : sizeT Tryd.prog 103 = some 1 := nr (by kernel_rfl)
@[simp] theorem ag_103 : aggT Tryd.prog 103 = some false := nr (by kernel_rfl)
@[simp] theorem zero_103 : zeroV Tryd.prog 103 = some (.d (.other .nilFunc)) := nr (by kernel_rfl)
@[simp] theorem sz_104 : sizeT Tryd.prog 104 = some 1 := nr (by kernel_rfl)
@[simp] theorem ag_104 : aggT Tryd.prog 104 = some false := nr (by kernel_rfl)
@[simp] theorem zero_104 : zeroV Tryd.prog 104 = some (.d (.other .nilFunc)) := nr (by kernel_rfl)
@[simp] theorem sz_105 : sizeT Tryd.prog 105 = some 1 := nr (by kernel_rfl)
@[simp] theorem ag_105 : aggT Tryd.prog 105 = some false := nr (by kernel_rfl)
@[simp] theorem zero_105 : zeroV Tryd.prog 105 = some (.d (.other .nilFunc)) := nr (by kernel_rfl)
@[simp] theorem sz_106 : sizeT Tryd.prog 106 = some 1 := nr (by kernel_rfl)
@[simp] theorem ag_106 : aggT Tryd.prog 106 = some false := nr (by kernel_rfl)
@[simp] theorem zero_106 : zeroV Tryd.prog 106 = some (.d (.other .nilFunc)) := nr (by kernel_rfl)
@[simp] theorem und_107 : Tryd.prog.underlying 107 = some (.slice 111) := nr (by kernel_rfl)
@[simp] theorem sz_107 : sizeT Tryd.prog 107 = some 1 := nr (by kernel_rfl)
@[simp] theorem ag_107 : aggT Tryd.prog 107 = some false := nr (by kernel_rfl)
@[simp] theorem zero_107 : zeroV Tryd.prog 107 = some (.nil) := nr (by kernel_rfl)
@[simp] theorem app_107 : appT Tryd.prog 107 = some (111, 4) := nr (by kernel_rfl)
@[simp] theorem sz_109 : sizeT Tryd.prog 109 = some 1 := nr (by kernel_rfl)
@[simp] theorem ag_109 : aggT Tryd.prog 109 = some false := nr (by kernel_rfl)
@[simp] theorem zero_109 : zeroV Tryd.prog 109 = some (.d (.other .nilFunc)) := nr (by kernel_rfl)
@[simp] theorem sz_110 : sizeT Tryd.prog 110 = some 4 := nr (by kernel_rfl)
@[simp] theorem ag_110 : aggT Tryd.prog 110 = some true := nr (by kernel_rfl)
@[simp] theorem zero_110 : zeroV Tryd.prog 110 = some (.agg [.d (.int .i64 0), .d (.int .i64 0), .d (.int .i64 0), .d (.int .i64 0)]) := nr (by kernel_rfl)
@[simp] theorem fld_110_0 : fieldOf Tryd.prog 110 0 = some (0, 24) := nr (by kernel_rfl)
@[simp] theorem fld_110_1 : fieldOf Tryd.prog 110 1 = some (3, 2) := nr (by kernel_rfl)
@[simp] theorem pl_110 : placesT Tryd.prog 110 = some (.struct [(0, 3), (3, 1)]) := nr (by kernel_rfl)
@[simp] theorem sz_111 : sizeT Tryd.prog 111 = some 4 := nr (by kernel_rfl)
@[simp] theorem ag_111 : aggT Tryd.prog 111 = some true := nr (by kernel_rfl)
@[simp] theorem zero_111 : zeroV Tryd.prog 111 = some (.agg [.d (.int .i64 0), .d (.int .i64 0), .d (.int .i64 0), .d (.int .i64 0)]) := nr (by kernel_rfl)
@[simp] theorem fld_111_0 : fieldOf Tryd.prog 111 0 = some (0, 24) := nr (by kernel_rfl)
@[simp] theorem fld_111_1 : fieldOf Tryd.prog 111 1 = some (3, 2) := nr (by kernel_rfl)
@[simp] theorem pl_111 : placesT Tryd.prog 111 = some (.struct [(0, 3), (3, 1)]) := nr (by kernel_rfl)
@[simp] theorem sz_113 : sizeT Tryd.prog 113 = some 1 := nr (by kernel_rfl)
@[simp] theorem ag_113 : aggT Tryd.prog 113 = some false := nr (by kernel_rfl)
@[simp] theorem zero_113 : zeroV Tryd.prog 113 = some (.d (.other .nilFunc)) := nr (by kernel_rfl)
@[simp] theorem sz_115 : sizeT Tryd.prog 115 = some 1 := nr (by kernel_rfl)
@[simp] theorem ag_115 : aggT Tryd.prog 115 = some false := nr (by kernel_rfl)
@[simp] theorem zero_115 : zeroV Tryd.prog 115 = some (.d (.other .nilFunc)) := nr (by kernel_rfl)
@[simp] theorem sz_116 : sizeT Tryd.prog 116 = some 1 := nr (by kernel_rfl)
@[simp] theorem ag_116 : aggT Tryd.prog 116 = some false := nr (by kernel_rfl)
@[simp] theorem zero_116 : zeroV Tryd.prog 116 = some (.d (.other .nilFunc)) := nr (by kernel_rfl)
@[simp] theorem sz_117 : sizeT Tryd.prog 117 = some 1 := nr (by kernel_rfl)
@[simp] theorem ag_117 : aggT Tryd.prog 117 = some false := nr (by kernel_rfl)
@[simp] theorem zero_117 : zeroV Tryd.prog 117 = some (.d (.other .nilFunc)) := nr (by kernel_rfl)
@[simp] theorem sz_118 : sizeT Tryd.prog 118 = some 1 := nr (by kernel_rfl)
@[simp] theorem ag_118 : aggT Tryd.prog 118 = some false := nr (by kernel_rfl)
@[simp] theorem zero_118 : zeroV Tryd.prog 118 = some (.d (.other .nilFunc)) := nr (by kernel_rfl)
@[simp] theorem sz_119 : sizeT Tryd.prog 119 = some 1 := nr (by kernel_rfl)
@[simp] theorem ag_119 : aggT Tryd.prog 119 = some false := nr (by kernel_rfl)
@[simp] theorem zero_119 : zeroV Tryd.prog 119 = some (.d (.other .nilFunc)) := nr (by kernel_rfl)
@[simp] theorem sz_120 : sizeT Tryd.prog 120 = some 1 := nr (by kernel_rfl)
@[simp] theorem ag_120 : aggT Tryd.prog 120 = some false := nr (by kernel_rfl)
@[simp] theorem zero_120 : zeroV Tryd.prog 120 = some (.d (.other .nilFunc)) := nr (by kernel_rfl)
@[simp] theorem sz_121 : sizeT Tryd.prog 121 = some 1 := nr (by kernel_rfl)
@[simp] theorem ag_121 : aggT Tryd.prog 121 = some false := nr (by kernel_rfl)
@[simp] theorem zero_121 : zeroV Tryd.prog 121 = some (.d (.other .nilFunc)) := nr (by kernel_rfl)
@[simp] theorem und_122 : Tryd.prog.underlying 122 = some (.slice 5) := nr (by kernel_rfl)
@[simp] theorem sz_122 : sizeT Tryd.prog 122 = some 1 := nr (by kernel_rfl)
@[simp] theorem ag_122 : aggT Tryd.prog 122 = some false := nr (by kernel_rfl)
@[simp] theorem zero_122 : zeroV Tryd.prog 122 = some (.nil) := nr (by kernel_rfl)
@[simp] theorem app_122 : appT Tryd.prog 122 = some (5, 1) := nr (by kernel_rfl)
@[simp] theorem sz_123 : sizeT Tryd.prog 123 = some 1 := nr (by kernel_rfl)
@[simp] theorem ag_123 : aggT Tryd.prog 123 = some false := nr (by kernel_rfl)
@[simp] theorem zero_123 : zeroV Tryd.prog 123 = some (.d (.other .nilFunc)) := nr (by kernel_rfl)
@[simp] theorem und_124 : Tryd.prog.underlying 124 = some (.map 5 4) := nr (by kernel_rfl)
@[simp] theorem sz_124 : sizeT Tryd.prog 124 = some 1 := nr (by kernel_rfl)
@[simp] theorem ag_124 : aggT Tryd.prog 124 = some false := nr (by kernel_rfl)
@[simp] theorem zero_124 : zeroV Tryd.prog 124 = some (.d (.other (.map none))) := nr (by kernel_rfl)
@[simp] theorem und_125 : Tryd.prog.underlying 125 = some (.map 3 4) := nr (by kernel_rfl)
@[simp] theorem sz_125 : sizeT Tryd.prog 125 = some 1 := nr (by kernel_rfl)
@[simp] theorem ag_125 : aggT Tryd.prog 125 = some false := nr (by kernel_rfl)
@[simp] theorem zero_125 : zeroV Tryd.prog 125 = some (.d (.other (.map none))) := nr (by kernel_rfl)
@[simp] theorem sz_126 : sizeT Tryd.prog 126 = some 1 := nr (by kernel_rfl)
@[simp] theorem ag_126 : aggT Tryd.prog 126 = some false := nr (by kernel_rfl)
@[simp] theorem zero_126 : zeroV Tryd.prog 126 = some (.d (.other .nilFunc)) := nr (by kernel_rfl)
@[simp] theorem sz_127 : sizeT Tryd.prog 127 = some 1 := nr (by kernel_rfl)
@[simp] theorem ag_127 : aggT Tryd.prog 127 = some false := nr (by kernel_rfl)
@[simp] theorem zero_127 : zeroV Tryd.prog 127 = some (.d (.other .nilFunc)) := nr (by kernel_rfl)
@[simp] theorem sz_128 : sizeT Tryd.prog 128 = some 1 := nr (by kernel_rfl)
@[simp] theorem ag_128 : aggT Tryd.prog 128 = some false := nr (by kernel_rfl)
@[simp] theorem zero_128 : zeroV Tryd.prog 128 = some (.d (.other .nilFunc)) := nr (by kernel_rfl)
@[simp] theorem sz_129 : sizeT Tryd.prog 129 = some 1 := nr (by kernel_rfl)
@[simp] theorem ag_129 : aggT Tryd.prog 129 = some false := nr (by kernel_rfl)
@[simp] theorem zero_129 : zeroV Tryd.prog 129 = some (.d (.other .nilFunc)) := nr (by kernel_rfl)
@[simp] theorem sz_130 : sizeT Tryd.prog 130 = some 1 := nr (by kernel_rfl)
@[simp] theorem ag_130 : aggT Tryd.prog 130 = some false := nr (by kernel_rfl)
@[simp] theorem zero_130 : zeroV Tryd.prog 130 = some (.d (.other .nilFunc)) := nr (by kernel_rfl)
@[simp] theorem sz_131 : sizeT Tryd.prog 131 = some 1 := nr (by kernel_rfl)
@[simp] theorem ag_131 : aggT Tryd.prog 131 = some false := nr (by kernel_rfl)
@[simp] theorem zero_131 : zeroV Tryd.prog 131 = some (.d (.other .nilFunc)) := nr (by kernel_rfl)
@[simp] theorem sz_133 : sizeT Tryd.prog 133 = some 1 := nr (by kernel_rfl)
@[simp] theorem ag_133 : aggT Tryd.prog 133 = some false := nr (by kernel_rfl)
@[simp] theorem zero_133 : zeroV Tryd.prog 133 = some (.d (.other .nilFunc)) := nr (by kernel_rfl)
@[simp] theorem sz_134 : sizeT Tryd.prog 134 = some 1 := nr (by kernel_rfl)
@[simp] theorem ag_134 : aggT Tryd.prog 134 = some false := nr (by kernel_rfl)
@[simp] theorem zero_134 : zeroV Tryd.prog 134 = some (.d (.other .nilFunc)) := nr (by kernel_rfl)
@[simp] theorem sz_135 : sizeT Tryd.prog 135 = some 1 := nr (by kernel_rfl)
@[simp] theorem ag_135 : aggT Tryd.prog 135 = some false := nr (by kernel_rfl)
@[simp] theorem zero_135 : zeroV Tryd.prog 135 = some (.d (.other .nilFunc)) := nr (by kernel_rfl)
@[simp] theorem und_136 : Tryd.prog.underlying 136 = some (.slice 24) := nr (by kernel_rfl)
@[simp] theorem sz_136 : sizeT Tryd.prog 136 = some 1 := nr (by kernel_rfl)
@[simp] theorem ag_136 : aggT Tryd.prog 136 = some false := nr (by kernel_rfl)
@[simp] theorem zero_136 : zeroV Tryd.prog 136 = some (.nil) := nr (by kernel_rfl)
@[simp] theorem app_136 : appT Tryd.prog 136 = some (24, 3) := nr (by kernel_rfl)
@[simp] theorem sz_137 : sizeT Tryd.prog 137 = some 1 := nr (by kernel_rfl)
@[simp] theorem ag_137 : aggT Tryd.prog 137 = some false := nr (by kernel_rfl)
@[simp] theorem zero_137 : zeroV Tryd.prog 137 = some (.d (.other .nilFunc)) := nr (by kernel_rfl)
@[simp] theorem sz_138 : sizeT Tryd.prog 138 = some 1 := nr (by kernel_rfl)
@[simp] theorem ag_138 : aggT Tryd.prog 138 = some false := nr (by kernel_rfl)
@[simp] theorem zero_138 : zeroV Tryd.prog 138 = some (.d (.other .nilFunc)) := nr (by kernel_rfl)
@[simp] theorem und_139 : Tryd.prog.underlying 139 = some (.pointer 2) := nr (by kernel_rfl)
@[simp] theorem sz_139 : sizeT Tryd.prog 139 = some 1 := nr (by kernel_rfl)
@[simp] theorem ag_139 : aggT Tryd.prog 139 = some false := nr (by kernel_rfl)
@[simp] theorem zero_139 : zeroV Tryd.prog 139 = some (.d (.other (.pointer none))) := nr (by kernel_rfl)
@[simp] theorem und_140 : Tryd.prog.underlying 140 = some (.slice 139) := nr (by kernel_rfl)
@[simp] theorem sz_140 : sizeT Tryd.prog 140 = some 1 := nr (by kernel_rfl)
@[simp] theorem ag_140 : aggT Tryd.prog 140 = some false := nr (by kernel_rfl)
@[simp] theorem zero_140 : zeroV Tryd.prog 140 = some (.nil) := nr (by kernel_rfl)
@[simp] theorem app_140 : appT Tryd.prog 140 = some (139, 1) := nr (by kernel_rfl)
@[simp] theorem sz_142 : sizeT Tryd.prog 142 = some 1 := nr (by kernel_rfl)
@[simp] theorem ag_142 : aggT Tryd.prog 142 = some false := nr (by kernel_rfl)
@[simp] theorem zero_142 : zeroV Tryd.prog 142 = some (.d (.other .nilFunc)) := nr (by kernel_rfl)
@[simp] theorem sz_144 : sizeT Tryd.prog 144 = some 1 := nr (by kernel_rfl)
@[simp] theorem ag_144 : aggT Tryd.prog 144 = some false := nr (by kernel_rfl)
@[simp] theorem zero_144 : zeroV Tryd.prog 144 = some (.d (.other .nilFunc)) := nr (by kernel_rfl)
@[simp] theorem sz_145 : sizeT Tryd.prog 145 = some 2 := nr (by kernel_rfl)
@[simp] theorem ag_145 : aggT Tryd.prog 145 = some true := nr (by kernel_rfl)
@[simp] theorem zero_145 : zeroV Tryd.prog 145 = some (.agg [.d (.int .u8 0), .d (.other (.pointer none))]) := nr (by kernel_rfl)
@[simp] theorem fld_145_0 : fieldOf Tryd.prog 145 0 = some (0, 5) := nr (by kernel_rfl)
@[simp] theorem fld_145_1 : fieldOf Tryd.prog 145 1 = some (1, 139) := nr (by kernel_rfl)
@[simp] theorem pl_145 : placesT Tryd.prog 145 = some (.struct [(0, 1), (1, 1)]) := nr (by kernel_rfl)
@[simp] theorem und_146 : Tryd.prog.underlying 146 = some (.slice 145) := nr (by kernel_rfl)
@[simp] theorem sz_146 : sizeT Tryd.prog 146 = some 1 := nr (by kernel_rfl)
@[simp] theorem ag_146 : aggT Tryd.prog 146 = some false := nr (by kernel_rfl)
@[simp] theorem zero_146 : zeroV Tryd.prog 146 = some (.nil) := nr (by kernel_rfl)
@[simp] theorem app_146 : appT Tryd.prog 146 = some (145, 2) := nr (by kernel_rfl)
@[simp] theorem sz_148 : sizeT Tryd.prog 148 = some 1 := nr (by kernel_rfl)
@[simp] theorem ag_148 : aggT Tryd.prog 148 = some false := nr (by kernel_rfl)
@[simp] theorem zero_148 : zeroV Tryd.prog 148 = some (.d (.other .nilFunc)) := nr (by kernel_rfl)
@[simp] theorem und_149 : Tryd.prog.underlying 149 = some (.slice 156) := nr (by kernel_rfl)
@[simp] theorem sz_149 : sizeT Tryd.prog 149 = some 1 := nr (by kernel_rfl)
@[simp] theorem ag_149 : aggT Tryd.prog 149 = some false := nr (by kernel_rfl)
@[simp] theorem zero_149 : zeroV Tryd.prog 149 = some (.nil) := nr (by kernel_rfl)
@[simp] theorem app_149 : appT Tryd.prog 149 = some (156, 7) := nr (by kernel_rfl)
@[simp] theorem sz_151 : sizeT Tryd.prog 151 = some 1 := nr (by kernel_rfl)
@[simp] theorem ag_151 : aggT Tryd.prog 151 = some false := nr (by kernel_rfl)
@[simp] theorem zero_151 : zeroV Tryd.prog 151 = some (.d (.other .nilFunc)) := nr (by kernel_rfl)
@[simp] theorem sz_152 : sizeT Tryd.prog 152 = some 2 := nr (by kernel_rfl)
@[simp] theorem ag_152 : aggT Tryd.prog 152 = some true := nr (by kernel_rfl)
@[simp] theorem zero_152 : zeroV Tryd.prog 152 = some (.agg [.d (.int .i64 0), .d (.int .i64 0)]) := nr (by kernel_rfl)
@[simp] theorem fld_152_0 : fieldOf Tryd.prog 152 0 = some (0, 2) := nr (by kernel_rfl)
@[simp] theorem fld_152_1 : fieldOf Tryd.prog 152 1 = some (1, 2) := nr (by kernel_rfl)
@[simp] theorem pl_152 : placesT Tryd.prog 152 = some (.struct [(0, 1), (1, 1)]) := nr (by kernel_rfl)
@[simp] theorem sz_153 : sizeT Tryd.prog 153 = some 2 := nr (by kernel_rfl)
@[simp] theorem ag_153 : aggT Tryd.prog 153 = some true := nr (by kernel_rfl)
@[simp] theorem zero_153 : zeroV Tryd.prog 153 = some (.agg [.d (.int .i64 0), .d (.int .i64 0)]) := nr (by kernel_rfl)
@[simp] theorem fld_153_0 : fieldOf Tryd.prog 153 0 = some (0, 2) := nr (by kernel_rfl)
@[simp] theorem fld_153_1 : fieldOf Tryd.prog 153 1 = some (1, 2) := nr (by kernel_rfl)
@[simp] theorem pl_153 : placesT Tryd.prog 153 = some (.struct [(0, 1), (1, 1)]) := nr (by kernel_rfl)
@[simp] theorem und_154 : Tryd.prog.underlying 154 = some (.slice 153) := nr (by kernel_rfl)
@[simp] theorem sz_154 : sizeT Tryd.prog 154 = some 1 := nr (by kernel_rfl)
@[simp] theorem ag_154 : aggT Tryd.prog 154 = some false := nr (by kernel_rfl)
@[simp] theorem zero_154 : zeroV Tryd.prog 154 = some (.nil) := nr (by kernel_rfl)
@[simp] theorem app_154 : appT Tryd.prog 154 = some (153, 2) := nr (by kernel_rfl)
@[simp] theorem sz_155 : sizeT Tryd.prog 155 = some 7 := nr (by kernel_rfl)
@[simp] theorem ag_155 : aggT Tryd.prog 155 = some true := nr (by kernel_rfl)
@[simp] theorem zero_155 : zeroV Tryd.prog 155 = some (.agg [.d (.int .i64 0), .d (.int .i64 0), .d (.int .i64 0), .d (.int .i64 0), .d (.int .i64 0), .d (.int .i64 0), .d (.int .i64 0)]) := nr (by kernel_rfl)
@[simp] theorem fld_155_0 : fieldOf Tryd.prog 155 0 = some (0, 3) := nr (by kernel_rfl)
@[simp] theorem fld_155_1 : fieldOf Tryd.prog 155 1 = some (1, 24) := nr (by kernel_rfl)
@[simp] theorem fld_155_2 : fieldOf Tryd.prog 155 2 = some (4, 153) := nr (by kernel_rfl)
@[simp] theorem fld_155_3 : fieldOf Tryd.prog 155 3 = some (6, 2) := nr (by kernel_rfl)
@[simp] theorem pl_155 : placesT Tryd.prog 155 = some (.struct [(0, 1), (1, 3), (4, 2), (6, 1)]) := nr (by kernel_rfl)
@[simp] theorem sz_156 : sizeT Tryd.prog 156 = some 7 := nr (by kernel_rfl)
@[simp] theorem ag_156 : aggT Tryd.prog 156 = some true := nr (by kernel_rfl)
@[simp] theorem zero_156 : zeroV Tryd.prog 156 = some (.agg [.d (.int .i64 0), .d (.int .i64 0), .d (.int .i64 0), .d (.int .i64 0), .d (.int .i64 0), .d (.int .i64 0), .d (.int .i64 0)]) := nr (by kernel_rfl)
@[simp] theorem fld_156_0 : fieldOf Tryd.prog 156 0 = some (0, 3) := nr (by kernel_rfl)
@[simp] theorem fld_156_1 : fieldOf Tryd.prog 156 1 = some (1, 24) := nr (by kernel_rfl)
@[simp] theorem fld_156_2 : fieldOf Tryd.prog 156 2 = some (4, 153) := nr (by kernel_rfl)
@[simp] theorem fld_156_3 : fieldOf Tryd.prog 156 3 = some (6, 2) := nr (by kernel_rfl)
@[simp] theorem pl_156 : placesT Tryd.prog 156 = some (.struct [(0, 1), (1, 3), (4, 2), (6, 1)]) := nr (by kernel_rfl)
@[simp] theorem sz_157 : sizeT Tryd.prog 157 = some 1 := nr (by kernel_rfl)
@[simp] theorem ag_157 : aggT Tryd.prog 157 = some false := nr (by kernel_rfl)
@[simp] theorem zero_157 : zeroV Tryd.prog 157 = some (.d (.other .nilFunc)) := nr (by kernel_rfl)
@[simp] theorem sz_159 : sizeT Tryd.prog 159 = some 1 := nr (by kernel_rfl)
@[simp] theorem ag_159 : aggT Tryd.prog 159 = some false := nr (by kernel_rfl)
@[simp] theorem zero_159 : zeroV Tryd.prog 159 = some (.d (.other .nilFunc)) := nr (by kernel_rfl)
@[simp] theorem sz_160 : sizeT Tryd.prog 160 = some 1 := nr (by kernel_rfl)
@[simp] theorem ag_160 : aggT Tryd.prog 160 = some false := nr (by kernel_rfl)
@[simp] theorem zero_160 : zeroV Tryd.prog 160 = some (.d (.other .nilFunc)) := nr (by kernel_rfl)
@[simp] theorem sz_161 : sizeT Tryd.prog 161 = some 1 := nr (by kernel_rfl)
@[simp] theorem ag_161 : aggT Tryd.prog 161 = some false := nr (by kernel_rfl)
@[simp] theorem zero_161 : zeroV Tryd.prog 161 = some (.d (.other .nilFunc)) := nr (by kernel_rfl)
@[simp] theorem sz_162 : sizeT Tryd.prog 162 = some 1 := nr (by kernel_rfl)
@[simp] theorem ag_162 : aggT Tryd.prog 162 = some false := nr (by kernel_rfl)
@[simp] theorem zero_162 : zeroV Tryd.prog 162 = some (.d (.other .nilFunc)) := nr (by kernel_rfl)
@[simp] theorem sz_163 : sizeT Tryd.prog 163 = some 1 := nr (by kernel_rfl)
@[simp] theorem ag_163 : aggT Tryd.prog 163 = some false := nr (by kernel_rfl)
@[simp] theorem zero_163 : zeroV Tryd.prog 163 = some (.d (.other .nilFunc)) := nr (by kernel_rfl)
@[simp] theorem sz_165 : sizeT Tryd.prog 165 = some 1 := nr (by kernel_rfl)
@[simp] theorem ag_165 : aggT Tryd.prog 165 = some false := nr (by kernel_rfl)
@[simp] theorem zero_165 : zeroV Tryd.prog 165 = some (.d (.other .nilFunc)) := nr (by kernel_rfl)
@[simp] theorem sz_166 : sizeT Tryd.prog 166 = some 1 := nr (by kernel_rfl)
@[simp] theorem ag_166 : aggT Tryd.prog 166 = some false := nr (by kernel_rfl)
@[simp] theorem zero_166 : zeroV Tryd.prog 166 = some (.d (.other .nilFunc)) := nr (by kernel_rfl)
@[simp] theorem sz_167 : sizeT Tryd.prog 167 = some 1 := nr (by kernel_rfl)
@[simp] theorem ag_167 : aggT Tryd.prog 167 = some false := nr (by kernel_rfl)
@[simp] theorem zero_167 : zeroV Tryd.prog 167 = some (.d (.other .nilFunc)) := nr (by kernel_rfl)
@[simp] theorem sz_169 : sizeT Tryd.prog 169 = some 1 := nr (by kernel_rfl)
@[simp] theorem ag_169 : aggT Tryd.prog 169 = some false := nr (by kernel_rfl)
@[simp] theorem zero_169 : zeroV Tryd.prog 169 = some (.d (.other .nilFunc)) := nr (by kernel_rfl)
@[simp] theorem sz_170 : sizeT Tryd.prog 170 = some 1 := nr (by kernel_rfl)
@[simp] theorem ag_170 : aggT Tryd.prog 170 = some false := nr (by kernel_rfl)
@[simp] theorem zero_170 : zeroV Tryd.prog 170 = some (.d (.other .nilFunc)) := nr (by kernel_rfl)
@[simp] theorem sz_171 : sizeT Tryd.prog 171 = some 1 := nr (by kernel_rfl)
@[simp] theorem ag_171 : aggT Tryd.prog 171 = some false := nr (by kernel_rfl)
@[simp] theorem zero_171 : zeroV Tryd.prog 171 = some (.d (.other .nilFunc)) := nr (by kernel_rfl)
@[simp] theorem und_172 : Tryd.prog.underlying 172 = some (.int .u64) := nr (by kernel_rfl)
@[simp] theorem sz_172 : sizeT Tryd.prog 172 = some 1 := nr (by kernel_rfl)
@[simp] theorem ag_172 : aggT Tryd.prog 172 = some false := nr (by kernel_rfl)
@[simp] theorem zero_172 : zeroV Tryd.prog 172 = some (.d (.int .u64 0)) := nr (by kernel_rfl)
@[simp] theorem sz_174 : sizeT Tryd.prog 174 = some 1 := nr (by kernel_rfl)
@[simp] theorem ag_174 : aggT Tryd.prog 174 = some false := nr (by kernel_rfl)
@[simp] theorem zero_174 : zeroV Tryd.prog 174 = some (.d (.other .nilFunc)) := nr (by kernel_rfl)
@[simp] theorem sz_176 : sizeT Tryd.prog 176 = some 1 := nr (by kernel_rfl)
@[simp] theorem ag_176 : aggT Tryd.prog 176 = some false := nr (by kernel_rfl)
@[simp] theorem zero_176 : zeroV Tryd.prog 176 = some (.d (.other .nilFunc)) := nr (by kernel_rfl)
@[simp] theorem sz_177 : sizeT Tryd.prog 177 = some 1 := nr (by kernel_rfl)
@[simp] theorem ag_177 : aggT Tryd.prog 177 = some false := nr (by kernel_rfl)
@[simp] theorem zero_177 : zeroV Tryd.prog 177 = some (.d (.other .nilFunc)) := nr (by kernel_rfl)
@[simp] theorem sz_178 : sizeT Tryd.prog 178 = some 1 := nr (by kernel_rfl)
@[simp] theorem ag_178 : aggT Tryd.prog 178 = some false := nr (by kernel_rfl)
@[simp] theorem zero_178 : zeroV Tryd.prog 178 = some (.d (.other .nilFunc)) := nr (by kernel_rfl)
@[simp] theorem sz_179 : sizeT Tryd.prog 179 = some 1 := nr (by kernel_rfl)
@[simp] theorem ag_179 : aggT Tryd.prog 179 = some false := nr (by kernel_rfl)
@[simp] theorem zero_179 : zeroV Tryd.prog 179 = some (.d (.other .nilFunc)) := nr (by kernel_rfl)
@[simp] theorem sz_180 : sizeT Tryd.prog 180 = some 1 := nr (by kernel_rfl)
@[simp] theorem ag_180 : aggT Tryd.prog 180 = some false := nr (by kernel_rfl)
@[simp] theorem zero_180 : zeroV Tryd.prog 180 = some (.d (.other .nilFunc)) := nr (by kernel_rfl)
@[simp] theorem sz_181 : sizeT Tryd.prog 181 = some 1 := nr (by kernel_rfl)
@[simp] theorem ag_181 : aggT Tryd.prog 181 = some false := nr (by kernel_rfl)
@[simp] theorem zero_181 : zeroV Tryd.prog 181 = some (.d (.other .nilFunc)) := nr (by kernel_rfl)
@[simp] theorem sz_182 : sizeT Tryd.prog 182 = some 1 := nr (by kernel_rfl)
@[simp] theorem ag_182 : aggT Tryd.prog 182 = some false := nr (by kernel_rfl)
@[simp] theorem zero_182 : zeroV Tryd.prog 182 = some (.d (.other .nilFunc)) := nr (by kernel_rfl)
@[simp] theorem sz_183 : sizeT Tryd.prog 183 = some 1 := nr (by kernel_rfl)
@[simp] theorem ag_183 : aggT Tryd.prog 183 = some false := nr (by kernel_rfl)
@[simp] theorem zero_183 : zeroV Tryd.prog 183 = some (.d (.other .nilFunc)) := nr (by kernel_rfl)
@[simp] theorem sz_184 : sizeT Tryd.prog 184 = some 1 := nr (by kernel_rfl)
@[simp] theorem ag_184 : aggT Tryd.prog 184 = some false := nr (by kernel_rfl)
@[simp] theorem zero_184 : zeroV Tryd.prog 184 = some (.d (.other .nilFunc)) := nr (by kernel_rfl)
@[simp] theorem sz_185 : sizeT Tryd.prog 185 = some 1 := nr (by kernel_rfl)
@[simp] theorem ag_185 : aggT Tryd.prog 185 = some false := nr (by kernel_rfl)
@[simp] theorem zero_185 : zeroV Tryd.prog 185 = some (.d (.other .nilFunc)) := nr (by kernel_rfl)
@[simp] theorem sz_186 : sizeT Tryd.prog 186 = some 1 := nr (by kernel_rfl)
@[simp] theorem ag_186 : aggT Tryd.prog 186 = some false := nr (by kernel_rfl)
@[simp] theorem zero_186 : zeroV Tryd.prog 186 = some (.d (.other .nilFunc)) := nr (by kernel_rfl)
@[simp] theorem und_187 : Tryd.prog.underlying 187 = some (.int .u64) := nr (by kernel_rfl)
@[simp] theorem sz_187 : sizeT Tryd.prog 187 = some 1 := nr (by kernel_rfl)
@[simp] theorem ag_187 : aggT Tryd.prog 187 = some false := nr (by kernel_rfl)
@[simp] theorem zero_187 : zeroV Tryd.prog 187 = some (.d (.int .u64 0)) := nr (by kernel_rfl)
@[simp] theorem sz_188 : sizeT Tryd.prog 188 = some 1 := nr (by kernel_rfl)
@[simp] theorem ag_188 : aggT Tryd.prog 188 = some false := nr (by kernel_rfl)
@[simp] theorem zero_188 : zeroV Tryd.prog 188 = some (.d (.other .nilFunc)) := nr (by kernel_rfl)
@[simp] theorem sz_189 : sizeT Tryd.prog 189 = some 1 := nr (by kernel_rfl)
@[simp] theorem ag_189 : aggT Tryd.prog 189 = some false := nr (by kernel_rfl)
@[simp] theorem zero_189 : zeroV Tryd.prog 189 = some (.d (.other .nilFunc)) := nr (by kernel_rfl)
@[simp] theorem sz_195 : sizeT Tryd.prog 195 = some 1 := nr (by kernel_rfl)
@[simp] theorem ag_195 : aggT Tryd.prog 195 = some false := nr (by kernel_rfl)
@[simp] theorem zero_195 : zeroV Tryd.prog 195 = some (.d (.other .nilFunc)) := nr (by kernel_rfl)
@[simp] theorem und_196 : Tryd.prog.underlying 196 = some (.int .u32) := nr (by kernel_rfl)
@[simp] theorem sz_196 : sizeT Tryd.prog 196 = some 1 := nr (by kernel_rfl)
@[simp] theorem ag_196 : aggT Tryd.prog 196 = some false := nr (by kernel_rfl)
@[simp] theorem zero_196 : zeroV Tryd.prog 196 = some (.d (.int .u32 0)) := nr (by kernel_rfl)
@[simp] theorem und_200 : Tryd.prog.underlying 200 = some (.pointer 5) := nr (by kernel_rfl)
@[simp] theorem sz_200 : sizeT Tryd.prog 200 = some 1 := nr (by kernel_rfl)
@[simp] theorem ag_200 : aggT Tryd.prog 200 = some false := nr (by kernel_rfl)
@[simp] theorem zero_200 : zeroV Tryd.prog 200 = some (.d (.other (.pointer none))) := nr (by kernel_rfl)
theorem eq_24 : EqOk Tryd.prog 24 [.int .i64, .int .i64, .int .i64] := by
  refine ⟨by kernel_rfl, fun xs ys hx hy w => ?_⟩
  obtain ⟨xa0, ra0, ea0, ka0, hx0⟩ := kinds_cons hx
  obtain ⟨a0, rfl⟩ := kind_int ka0
  obtain ⟨xa1, ra1, ea1, ka1, hx1⟩ := kinds_cons hx0
  obtain ⟨a1, rfl⟩ := kind_int ka1
  obtain ⟨xa2, ra2, ea2, ka2, hx2⟩ := kinds_cons hx1
  obtain ⟨a2, rfl⟩ := kind_int ka2
  have za := kinds_nil hx2
  subst za
  subst ea2
  subst ea1
  subst ea0
  obtain ⟨xb0, rb0, eb0, kb0, hy0⟩ := kinds_cons hy
  obtain ⟨b0, rfl⟩ := kind_int kb0
  obtain ⟨xb1, rb1, eb1, kb1, hy1⟩ := kinds_cons hy0
  obtain ⟨b1, rfl⟩ := kind_int kb1
  obtain ⟨xb2, rb2, eb2, kb2, hy2⟩ := kinds_cons hy1
  obtain ⟨b2, rfl⟩ := kind_int kb2
  have zb := kinds_nil hy2
  subst zb
  subst eb2
  subst eb1
  subst eb0
  have hS : Tryd.prog.underlying 24 = some (.struct (Tryd.prog.fieldsOf 24)) := by kernel_rfl
  simp only [Op.equal, Op.maxDepth]
  rw [show (10000 : Nat) = 9999 + 1 from rfl, run_equalIn_agg w 9999 24 _ _ hS (by kernel_rfl)]
  simp only [Program.fieldsOf, Tryd.underlying24, List.map_cons, List.map_nil, D.val]
  go_simp
  simp only [eqAll, eqD]
  refine Decidable.byCases (p := a0 = b0) (fun h0 => ?_) (fun h0 => by simp [h0])
  refine Decidable.byCases (p := a1 = b1) (fun h1 => ?_) (fun h1 => by simp [h0, h1])
  refine Decidable.byCases (p := a2 = b2) (fun h2 => ?_) (fun h2 => by simp [h0, h1, h2])
  simp [h0, h1, h2]
theorem eq_38 : EqOk Tryd.prog 38 [.int .u8, .int .i64] := by
  refine ⟨by kernel_rfl, fun xs ys hx hy w => ?_⟩
  obtain ⟨xa0, ra0, ea0, ka0, hx0⟩ := kinds_cons hx
  obtain ⟨a0, rfl⟩ := kind_int ka0
  obtain ⟨xa1, ra1, ea1, ka1, hx1⟩ := kinds_cons hx0
  obtain ⟨a1, rfl⟩ := kind_int ka1
  have za := kinds_nil hx1
  subst za
  subst ea1
  subst ea0
  obtain ⟨xb0, rb0, eb0, kb0, hy0⟩ := kinds_cons hy
  obtain ⟨b0, rfl⟩ := kind_int kb0
  obtain ⟨xb1, rb1, eb1, kb1, hy1⟩ := kinds_cons hy0
  obtain ⟨b1, rfl⟩ := kind_int kb1
  have zb := kinds_nil hy1
  subst zb
  subst eb1
  subst eb0
  have hS : Tryd.prog.underlying 38 = some (.struct (Tryd.prog.fieldsOf 38)) := by kernel_rfl
  simp only [Op.equal, Op.maxDepth]
  rw [show (10000 : Nat) = 9999 + 1 from rfl, run_equalIn_agg w 9999 38 _ _ hS (by kernel_rfl)]
  simp only [Program.fieldsOf, Tryd.underlying38, List.map_cons, List.map_nil, D.val]
  go_simp
  simp only [eqAll, eqD]
  refine Decidable.byCases (p := a0 = b0) (fun h0 => ?_) (fun h0 => by simp [h0])
  refine Decidable.byCases (p := a1 = b1) (fun h1 => ?_) (fun h1 => by simp [h0, h1])
  simp [h0, h1]
theorem eq_49 : EqOk Tryd.prog 49 [.int .i64, .int .i64] := by
  refine ⟨by kernel_rfl, fun xs ys hx hy w => ?_⟩
  obtain ⟨xa0, ra0, ea0, ka0, hx0⟩ := kinds_cons hx
  obtain ⟨a0, rfl⟩ := kind_int ka0
  obtain ⟨xa1, ra1, ea1, ka1, hx1⟩ := kinds_cons hx0
  obtain ⟨a1, rfl⟩ := kind_int ka1
  have za := kinds_nil hx1
  subst za
  subst ea1
  subst ea0
  obtain ⟨xb0, rb0, eb0, kb0, hy0⟩ := kinds_cons hy
  obtain ⟨b0, rfl⟩ := kind_int kb0
  obtain ⟨xb1, rb1, eb1, kb1, hy1⟩ := kinds_cons hy0
  obtain ⟨b1, rfl⟩ := kind_int kb1
  have zb := kinds_nil hy1
  subst zb
  subst eb1
  subst eb0
  have hS : Tryd.prog.underlying 49 = some (.struct (Tryd.prog.fieldsOf 49)) := by kernel_rfl
  simp only [Op.equal, Op.maxDepth]
  rw [show (10000 : Nat) = 9999 + 1 from rfl, run_equalIn_agg w 9999 49 _ _ hS (by kernel_rfl)]
  simp only [Program.fieldsOf, Tryd.underlying49, List.map_cons, List.map_nil, D.val]
  go_simp
  simp only [eqAll, eqD]
  refine Decidable.byCases (p := a0 = b0) (fun h0 => ?_) (fun h0 => by simp [h0])
  refine Decidable.byCases (p := a1 = b1) (fun h1 => ?_) (fun h1 => by simp [h0, h1])
  simp [h0, h1]
theorem eq_62 : EqOk Tryd.prog 62 [.int .i64, .int .i64, .int .i64, .int .i64, .int .i64, .int .i64, .int .i64, .int .i64, .int .i64] := by
  refine ⟨by kernel_rfl, fun xs ys hx hy w => ?_⟩
  obtain ⟨xa0, ra0, ea0, ka0, hx0⟩ := kinds_cons hx
  obtain ⟨a0, rfl⟩ := kind_int ka0
  obtain ⟨xa1, ra1, ea1, ka1, hx1⟩ := kinds_cons hx0
  obtain ⟨a1, rfl⟩ := kind_int ka1
  obtain ⟨xa2, ra2, ea2, ka2, hx2⟩ := kinds_cons hx1
  obtain ⟨a2, rfl⟩ := kind_int ka2
  obtain ⟨xa3, ra3, ea3, ka3, hx3⟩ := kinds_cons hx2
  obtain ⟨a3, rfl⟩ := kind_int ka3
  obtain ⟨xa4, ra4, ea4, ka4, hx4⟩ := kinds_cons hx3
  obtain ⟨a4, rfl⟩ := kind_int ka4
  obtain ⟨xa5, ra5, ea5, ka5, hx5⟩ := kinds_cons hx4
  obtain ⟨a5, rfl⟩ := kind_int ka5
  obtain ⟨xa6, ra6, ea6, ka6, hx6⟩ := kinds_cons hx5
  obtain ⟨a6, rfl⟩ := kind_int ka6
  obtain ⟨xa7, ra7, ea7, ka7, hx7⟩ := kinds_cons hx6
  obtain ⟨a7, rfl⟩ := kind_int ka7
  obtain ⟨xa8, ra8, ea8, ka8, hx8⟩ := kinds_cons hx7
  obtain ⟨a8, rfl⟩ := kind_int ka8
  have za := kinds_nil hx8
  subst za
  subst ea8
  subst ea7
  subst ea6
  subst ea5
  subst ea4
  subst ea3
  subst ea2
  subst ea1
  subst ea0
  obtain ⟨xb0, rb0, eb0, kb0, hy0⟩ := kinds_cons hy
  obtain ⟨b0, rfl⟩ := kind_int kb0
  obtain ⟨xb1, rb1, eb1, kb1, hy1⟩ := kinds_cons hy0
  obtain ⟨b1, rfl⟩ := kind_int kb1
  obtain ⟨xb2, rb2, eb2, kb2, hy2⟩ := kinds_cons hy1
  obtain ⟨b2, rfl⟩ := kind_int kb2
  obtain ⟨xb3, rb3, eb3, kb3, hy3⟩ := kinds_cons hy2
  obtain ⟨b3, rfl⟩ := kind_int kb3
  obtain ⟨xb4, rb4, eb4, kb4, hy4⟩ := kinds_cons hy3
  obtain ⟨b4, rfl⟩ := kind_int kb4
  obtain ⟨xb5, rb5, eb5, kb5, hy5⟩ := kinds_cons hy4
  obtain ⟨b5, rfl⟩ := kind_int kb5
  obtain ⟨xb6, rb6, eb6, kb6, hy6⟩ := kinds_cons hy5
  obtain ⟨b6, rfl⟩ := kind_int kb6
  obtain ⟨xb7, rb7, eb7, kb7, hy7⟩ := kinds_cons hy6
  obtain ⟨b7, rfl⟩ := kind_int kb7
  obtain ⟨xb8, rb8, eb8, kb8, hy8⟩ := kinds_cons hy7
  obtain ⟨b8, rfl⟩ := kind_int kb8
  have zb := kinds_nil hy8
  subst zb
  subst eb8
  subst eb7
  subst eb6
  subst eb5
  subst eb4
  subst eb3
  subst eb2
  subst eb1
  subst eb0
  have hS : Tryd.prog.underlying 62 = some (.struct (Tryd.prog.fieldsOf 62)) := by kernel_rfl
  simp only [Op.equal, Op.maxDepth]
  rw [show (10000 : Nat) = 9999 + 1 from rfl, run_equalIn_agg w 9999 62 _ _ hS (by kernel_rfl)]
  simp only [Program.fieldsOf, Tryd.underlying62, List.map_cons, List.map_nil, D.val]
  go_simp
  simp only [eqAll, eqD]
  refine Decidable.byCases (p := a0 = b0) (fun h0 => ?_) (fun h0 => by simp [h0])
  refine Decidable.byCases (p := a1 = b1) (fun h1 => ?_) (fun h1 => by simp [h0, h1])
  refine Decidable.byCases (p := a2 = b2) (fun h2 => ?_) (fun h2 => by simp [h0, h1, h2])
  refine Decidable.byCases (p := a3 = b3) (fun h3 => ?_) (fun h3 => by simp [h0, h1, h2, h3])
  refine Decidable.byCases (p := a4 = b4) (fun h4 => ?_) (fun h4 => by simp [h0, h1, h2, h3, h4])
  refine Decidable.byCases (p := a5 = b5) (fun h5 => ?_) (fun h5 => by simp [h0, h1, h2, h3, h4, h5])
  refine Decidable.byCases (p := a6 = b6) (fun h6 => ?_) (fun h6 => by simp [h0, h1, h2, h3, h4, h5, h6])
  refine Decidable.byCases (p := a7 = b7) (fun h7 => ?_) (fun h7 => by simp [h0, h1, h2, h3, h4, h5, h6, h7])
  refine Decidable.byCases (p := a8 = b8) (fun h8 => ?_) (fun h8 => by simp [h0, h1, h2, h3, h4, h5, h6, h7, h8])
  simp [h0, h1, h2, h3, h4, h5, h6, h7, h8]
theorem eq_65 : EqOk Tryd.prog 65 [.int .i64, .int .i64, .int .i64, .int .i64, .int .i64, .int .i64, .int .i64, .int .i64] := by
  refine ⟨by kernel_rfl, fun xs ys hx hy w => ?_⟩
  obtain ⟨xa0, ra0, ea0, ka0, hx0⟩ := kinds_cons hx
  obtain ⟨a0, rfl⟩ := kind_int ka0
  obtain ⟨xa1, ra1, ea1, ka1, hx1⟩ := kinds_cons hx0
  obtain ⟨a1, rfl⟩ := kind_int ka1
  obtain ⟨xa2, ra2, ea2, ka2, hx2⟩ := kinds_cons hx1
  obtain ⟨a2, rfl⟩ := kind_int ka2
  obtain ⟨xa3, ra3, ea3, ka3, hx3⟩ := kinds_cons hx2
  obtain ⟨a3, rfl⟩ := kind_int ka3
  obtain ⟨xa4, ra4, ea4, ka4, hx4⟩ := kinds_cons hx3
  obtain ⟨a4, rfl⟩ := kind_int ka4
  obtain ⟨xa5, ra5, ea5, ka5, hx5⟩ := kinds_cons hx4
  obtain ⟨a5, rfl⟩ := kind_int ka5
  obtain ⟨xa6, ra6, ea6, ka6, hx6⟩ := kinds_cons hx5
  obtain ⟨a6, rfl⟩ := kind_int ka6
  obtain ⟨xa7, ra7, ea7, ka7, hx7⟩ := kinds_cons hx6
  obtain ⟨a7, rfl⟩ := kind_int ka7
  have za := kinds_nil hx7
  subst za
  subst ea7
  subst ea6
  subst ea5
  subst ea4
  subst ea3
  subst ea2
  subst ea1
  subst ea0
  obtain ⟨xb0, rb0, eb0, kb0, hy0⟩ := kinds_cons hy
  obtain ⟨b0, rfl⟩ := kind_int kb0
  obtain ⟨xb1, rb1, eb1, kb1, hy1⟩ := kinds_cons hy0
  obtain ⟨b1, rfl⟩ := kind_int kb1
  obtain ⟨xb2, rb2, eb2, kb2, hy2⟩ := kinds_cons hy1
  obtain ⟨b2, rfl⟩ := kind_int kb2
  obtain ⟨xb3, rb3, eb3, kb3, hy3⟩ := kinds_cons hy2
  obtain ⟨b3, rfl⟩ := kind_int kb3
  obtain ⟨xb4, rb4, eb4, kb4, hy4⟩ := kinds_cons hy3
  obtain ⟨b4, rfl⟩ := kind_int kb4
  obtain ⟨xb5, rb5, eb5, kb5, hy5⟩ := kinds_cons hy4
  obtain ⟨b5, rfl⟩ := kind_int kb5
  obtain ⟨xb6, rb6, eb6, kb6, hy6⟩ := kinds_cons hy5
  obtain ⟨b6, rfl⟩ := kind_int kb6
  obtain ⟨xb7, rb7, eb7, kb7, hy7⟩ := kinds_cons hy6
  obtain ⟨b7, rfl⟩ := kind_int kb7
  have zb := kinds_nil hy7
  subst zb
  subst eb7
  subst eb6
  subst eb5
  subst eb4
  subst eb3
  subst eb2
  subst eb1
  subst eb0
  have hS : Tryd.prog.underlying 65 = some (.struct (Tryd.prog.fieldsOf 65)) := by kernel_rfl
  simp only [Op.equal, Op.maxDepth]
  rw [show (10000 : Nat) = 9999 + 1 from rfl, run_equalIn_agg w 9999 65 _ _ hS (by kernel_rfl)]
  simp only [Program.fieldsOf, Tryd.underlying65, List.map_cons, List.map_nil, D.val]
  go_simp
  simp only [eqAll, eqD]
  refine Decidable.byCases (p := a0 = b0) (fun h0 => ?_) (fun h0 => by simp [h0])
  refine Decidable.byCases (p := a1 = b1) (fun h1 => ?_) (fun h1 => by simp [h0, h1])
  refine Decidable.byCases (p := a2 = b2) (fun h2 => ?_) (fun h2 => by simp [h0, h1, h2])
  refine Decidable.byCases (p := a3 = b3) (fun h3 => ?_) (fun h3 => by simp [h0, h1, h2, h3])
  refine Decidable.byCases (p := a4 = b4) (fun h4 => ?_) (fun h4 => by simp [h0, h1, h2, h3, h4])
  refine Decidable.byCases (p := a5 = b5) (fun h5 => ?_) (fun h5 => by simp [h0, h1, h2, h3, h4, h5])
  refine Decidable.byCases (p := a6 = b6) (fun h6 => ?_) (fun h6 => by simp [h0, h1, h2, h3, h4, h5, h6])
  refine Decidable.byCases (p := a7 = b7) (fun h7 => ?_) (fun h7 => by simp [h0, h1, h2, h3, h4, h5, h6, h7])
  simp [h0, h1, h2, h3, h4, h5, h6, h7]
theorem eq_68 : EqOk Tryd.prog 68 [.int .i64, .int .i64, .int .i64, .int .i64, .int .i64, .int .i64, .bool] := by
  refine ⟨by kernel_rfl, fun xs ys hx hy w => ?_⟩
  obtain ⟨xa0, ra0, ea0, ka0, hx0⟩ := kinds_cons hx
  obtain ⟨a0, rfl⟩ := kind_int ka0
  obtain ⟨xa1, ra1, ea1, ka1, hx1⟩ := kinds_cons hx0
  obtain ⟨a1, rfl⟩ := kind_int ka1
  obtain ⟨xa2, ra2, ea2, ka2, hx2⟩ := kinds_cons hx1
  obtain ⟨a2, rfl⟩ := kind_int ka2
  obtain ⟨xa3, ra3, ea3, ka3, hx3⟩ := kinds_cons hx2
  obtain ⟨a3, rfl⟩ := kind_int ka3
  obtain ⟨xa4, ra4, ea4, ka4, hx4⟩ := kinds_cons hx3
  obtain ⟨a4, rfl⟩ := kind_int ka4
  obtain ⟨xa5, ra5, ea5, ka5, hx5⟩ := kinds_cons hx4
  obtain ⟨a5, rfl⟩ := kind_int ka5
  obtain ⟨xa6, ra6, ea6, ka6, hx6⟩ := kinds_cons hx5
  obtain ⟨a6, rfl⟩ := kind_bool ka6
  have za := kinds_nil hx6
  subst za
  subst ea6
  subst ea5
  subst ea4
  subst ea3
  subst ea2
  subst ea1
  subst ea0
  obtain ⟨xb0, rb0, eb0, kb0, hy0⟩ := kinds_cons hy
  obtain ⟨b0, rfl⟩ := kind_int kb0
  obtain ⟨xb1, rb1, eb1, kb1, hy1⟩ := kinds_cons hy0
  obtain ⟨b1, rfl⟩ := kind_int kb1
  obtain ⟨xb2, rb2, eb2, kb2, hy2⟩ := kinds_cons hy1
  obtain ⟨b2, rfl⟩ := kind_int kb2
  obtain ⟨xb3, rb3, eb3, kb3, hy3⟩ := kinds_cons hy2
  obtain ⟨b3, rfl⟩ := kind_int kb3
  obtain ⟨xb4, rb4, eb4, kb4, hy4⟩ := kinds_cons hy3
  obtain ⟨b4, rfl⟩ := kind_int kb4
  obtain ⟨xb5, rb5, eb5, kb5, hy5⟩ := kinds_cons hy4
  obtain ⟨b5, rfl⟩ := kind_int kb5
  obtain ⟨xb6, rb6, eb6, kb6, hy6⟩ := kinds_cons hy5
  obtain ⟨b6, rfl⟩ := kind_bool kb6
  have zb := kinds_nil hy6
  subst zb
  subst eb6
  subst eb5
  subst eb4
  subst eb3
  subst eb2
  subst eb1
  subst eb0
  have hS : Tryd.prog.underlying 68 = some (.struct (Tryd.prog.fieldsOf 68)) := by kernel_rfl
  simp only [Op.equal, Op.maxDepth]
  rw [show (10000 : Nat) = 9999 + 1 from rfl, run_equalIn_agg w 9999 68 _ _ hS (by kernel_rfl)]
  simp only [Program.fieldsOf, Tryd.underlying68, List.map_cons, List.map_nil, D.val]
  go_simp
  simp only [eqAll, eqD]
  refine Decidable.byCases (p := a0 = b0) (fun h0 => ?_) (fun h0 => by simp [h0])
  refine Decidable.byCases (p := a1 = b1) (fun h1 => ?_) (fun h1 => by simp [h0, h1])
  refine Decidable.byCases (p := a2 = b2) (fun h2 => ?_) (fun h2 => by simp [h0, h1, h2])
  refine Decidable.byCases (p := a3 = b3) (fun h3 => ?_) (fun h3 => by simp [h0, h1, h2, h3])
  refine Decidable.byCases (p := a4 = b4) (fun h4 => ?_) (fun h4 => by simp [h0, h1, h2, h3, h4])
  refine Decidable.byCases (p := a5 = b5) (fun h5 => ?_) (fun h5 => by simp [h0, h1, h2, h3, h4, h5])
  refine Decidable.byCases (p := a6 = b6) (fun h6 => ?_) (fun h6 => by simp [h0, h1, h2, h3, h4, h5, h6])
  simp [h0, h1, h2, h3, h4, h5, h6]
theorem eq_78 : EqOk Tryd.prog 78 [.int .i64, .int .i64, .int .i64, .int .i64, .int .i64, .int .i64, .int .i64, .int .i64] := by
  refine ⟨by kernel_rfl, fun xs ys hx hy w => ?_⟩
  obtain ⟨xa0, ra0, ea0, ka0, hx0⟩ := kinds_cons hx
  obtain ⟨a0, rfl⟩ := kind_int ka0
  obtain ⟨xa1, ra1, ea1, ka1, hx1⟩ := kinds_cons hx0
  obtain ⟨a1, rfl⟩ := kind_int ka1
  obtain ⟨xa2, ra2, ea2, ka2, hx2⟩ := kinds_cons hx1
  obtain ⟨a2, rfl⟩ := kind_int ka2
  obtain ⟨xa3, ra3, ea3, ka3, hx3⟩ := kinds_cons hx2
  obtain ⟨a3, rfl⟩ := kind_int ka3
  obtain ⟨xa4, ra4, ea4, ka4, hx4⟩ := kinds_cons hx3
  obtain ⟨a4, rfl⟩ := kind_int ka4
  obtain ⟨xa5, ra5, ea5, ka5, hx5⟩ := kinds_cons hx4
  obtain ⟨a5, rfl⟩ := kind_int ka5
  obtain ⟨xa6, ra6, ea6, ka6, hx6⟩ := kinds_cons hx5
  obtain ⟨a6, rfl⟩ := kind_int ka6
  obtain ⟨xa7, ra7, ea7, ka7, hx7⟩ := kinds_cons hx6
  obtain ⟨a7, rfl⟩ := kind_int ka7
  have za := kinds_nil hx7
  subst za
  subst ea7
  subst ea6
  subst ea5
  subst ea4
  subst ea3
  subst ea2
  subst ea1
  subst ea0
  obtain ⟨xb0, rb0, eb0, kb0, hy0⟩ := kinds_cons hy
  obtain ⟨b0, rfl⟩ := kind_int kb0
  obtain ⟨xb1, rb1, eb1, kb1, hy1⟩ := kinds_cons hy0
  obtain ⟨b1, rfl⟩ := kind_int kb1
  obtain ⟨xb2, rb2, eb2, kb2, hy2⟩ := kinds_cons hy1
  obtain ⟨b2, rfl⟩ := kind_int kb2
  obtain ⟨xb3, rb3, eb3, kb3, hy3⟩ := kinds_cons hy2
  obtain ⟨b3, rfl⟩ := kind_int kb3
  obtain ⟨xb4, rb4, eb4, kb4, hy4⟩ := kinds_cons hy3
  obtain ⟨b4, rfl⟩ := kind_int kb4
  obtain ⟨xb5, rb5, eb5, kb5, hy5⟩ := kinds_cons hy4
  obtain ⟨b5, rfl⟩ := kind_int kb5
  obtain ⟨xb6, rb6, eb6, kb6, hy6⟩ := kinds_cons hy5
  obtain ⟨b6, rfl⟩ := kind_int kb6
  obtain ⟨xb7, rb7, eb7, kb7, hy7⟩ := kinds_cons hy6
  obtain ⟨b7, rfl⟩ := kind_int kb7
  have zb := kinds_nil hy7
  subst zb
  subst eb7
  subst eb6
  subst eb5
  subst eb4
  subst eb3
  subst eb2
  subst eb1
  subst eb0
  have hS : Tryd.prog.underlying 78 = some (.struct (Tryd.prog.fieldsOf 78)) := by kernel_rfl
  simp only [Op.equal, Op.maxDepth]
  rw [show (10000 : Nat) = 9999 + 1 from rfl, run_equalIn_agg w 9999 78 _ _ hS (by kernel_rfl)]
  simp only [Program.fieldsOf, Tryd.underlying78, List.map_cons, List.map_nil, D.val]
  go_simp
  simp only [eqAll, eqD]
  refine Decidable.byCases (p := a0 = b0) (fun h0 => ?_) (fun h0 => by simp [h0])
  refine Decidable.byCases (p := a1 = b1) (fun h1 => ?_) (fun h1 => by simp [h0, h1])
  refine Decidable.byCases (p := a2 = b2) (fun h2 => ?_) (fun h2 => by simp [h0, h1, h2])
  refine Decidable.byCases (p := a3 = b3) (fun h3 => ?_) (fun h3 => by simp [h0, h1, h2, h3])
  refine Decidable.byCases (p := a4 = b4) (fun h4 => ?_) (fun h4 => by simp [h0, h1, h2, h3, h4])
  refine Decidable.byCases (p := a5 = b5) (fun h5 => ?_) (fun h5 => by simp [h0, h1, h2, h3, h4, h5])
  refine Decidable.byCases (p := a6 = b6) (fun h6 => ?_) (fun h6 => by simp [h0, h1, h2, h3, h4, h5, h6])
  refine Decidable.byCases (p := a7 = b7) (fun h7 => ?_) (fun h7 => by simp [h0, h1, h2, h3, h4, h5, h6, h7])
  simp [h0, h1, h2, h3, h4, h5, h6, h7]
theorem eq_153 : EqOk Tryd.prog 153 [.int .i64, .int .i64] := by
  refine ⟨by kernel_rfl, fun xs ys hx hy w => ?_⟩
  obtain ⟨xa0, ra0, ea0, ka0, hx0⟩ := kinds_cons hx
  obtain ⟨a0, rfl⟩ := kind_int ka0
  obtain ⟨xa1, ra1, ea1, ka1, hx1⟩ := kinds_cons hx0
  obtain ⟨a1, rfl⟩ := kind_int ka1
  have za := kinds_nil hx1
  subst za
  subst ea1
  subst ea0
  obtain ⟨xb0, rb0, eb0, kb0, hy0⟩ := kinds_cons hy
  obtain ⟨b0, rfl⟩ := kind_int kb0
  obtain ⟨xb1, rb1, eb1, kb1, hy1⟩ := kinds_cons hy0
  obtain ⟨b1, rfl⟩ := kind_int kb1
  have zb := kinds_nil hy1
  subst zb
  subst eb1
  subst eb0
  have hS : Tryd.prog.underlying 153 = some (.struct (Tryd.prog.fieldsOf 153)) := by kernel_rfl
  simp only [Op.equal, Op.maxDepth]
  rw [show (10000 : Nat) = 9999 + 1 from rfl, run_equalIn_agg w 9999 153 _ _ hS (by kernel_rfl)]
  simp only [Program.fieldsOf, Tryd.underlying153, List.map_cons, List.map_nil, D.val]
  go_simp
  simp only [eqAll, eqD]
  refine Decidable.byCases (p := a0 = b0) (fun h0 => ?_) (fun h0 => by simp [h0])
  refine Decidable.byCases (p := a1 = b1) (fun h1 => ?_) (fun h1 => by simp [h0, h1])
  simp [h0, h1]
def eqTab : TypeId → Option (List SK)
  | 24 => some [.int .i64, .int .i64, .int .i64]
  | 38 => some [.int .u8, .int .i64]
  | 49 => some [.int .i64, .int .i64]
  | 62 => some [.int .i64, .int .i64, .int .i64, .int .i64, .int .i64, .int .i64, .int .i64, .int .i64, .int .i64]
  | 65 => some [.int .i64, .int .i64, .int .i64, .int .i64, .int .i64, .int .i64, .int .i64, .int .i64]
  | 68 => some [.int .i64, .int .i64, .int .i64, .int .i64, .int .i64, .int .i64, .bool]
  | 78 => some [.int .i64, .int .i64, .int .i64, .int .i64, .int .i64, .int .i64, .int .i64, .int .i64]
  | 153 => some [.int .i64, .int .i64]
  | _ => none
theorem eqTab_ok : ∀ t ks, eqTab t = some ks → EqOk Tryd.prog t ks := by
  intro t ks h
  unfold eqTab at h
  split at h
  · injection h with h; subst h; exact eq_24
  · injection h with h; subst h; exact eq_38
  · injection h with h; subst h; exact eq_49
  · injection h with h; subst h; exact eq_62
  · injection h with h; subst h; exact eq_65
  · injection h with h; subst h; exact eq_68
  · injection h with h; subst h; exact eq_78
  · injection h with h; subst h; exact eq_153
  · cases h
def gP : Pg Tryd.prog := ⟨by kernel_rfl, eqTab, eqTab_ok⟩
@[simp] theorem gE_24 : gP.E 24 = some [.int .i64, .int .i64, .int .i64] := nr rfl
@[simp] theorem gE_38 : gP.E 38 = some [.int .u8, .int .i64] := nr rfl
@[simp] theorem gE_49 : gP.E 49 = some [.int .i64, .int .i64] := nr rfl
@[simp] theorem gE_62 : gP.E 62 = some [.int .i64, .int .i64, .int .i64, .int .i64, .int .i64, .int .i64, .int .i64, .int .i64, .int .i64] := nr rfl
@[simp] theorem gE_65 : gP.E 65 = some [.int .i64, .int .i64, .int .i64, .int .i64, .int .i64, .int .i64, .int .i64, .int .i64] := nr rfl
@[simp] theorem gE_68 : gP.E 68 = some [.int .i64, .int .i64, .int .i64, .int .i64, .int .i64, .int .i64, .bool] := nr rfl
@[simp] theorem gE_78 : gP.E 78 = some [.int .i64, .int .i64, .int .i64, .int .i64, .int .i64, .int .i64, .int .i64, .int .i64] := nr rfl
@[simp] theorem gE_153 : gP.E 153 = some [.int .i64, .int .i64] := nr rfl
theorem ent_3 : enterable Tryd.prog 3 = true := by kernel_rfl
theorem ent_4 : enterable Tryd.prog 4 = true := by kernel_rfl
theorem ent_5 : enterable Tryd.prog 5 = true := by kernel_rfl
theorem ent_6 : enterable Tryd.prog 6 = true := by kernel_rfl
theorem ent_7 : enterable Tryd.prog 7 = true := by kernel_rfl
theorem ent_8 : enterable Tryd.prog 8 = true := by kernel_rfl
theorem ent_9 : enterable Tryd.prog 9 = true := by kernel_rfl
theorem ent_10 : enterable Tryd.prog 10 = true := by kernel_rfl
theorem ent_11 : enterable Tryd.prog 11 = true := by kernel_rfl
theorem ent_12 : enterable Tryd.prog 12 = true := by kernel_rfl
theorem ent_13 : enterable Tryd.prog 13 = true := by kernel_rfl
theorem ent_14 : enterable Tryd.prog 14 = true := by kernel_rfl
theorem ent_15 : enterable Tryd.prog 15 = true := by kernel_rfl
theorem ent_16 : enterable Tryd.prog 16 = true := by kernel_rfl
theorem ent_17 : enterable Tryd.prog 17 = true := by kernel_rfl
theorem ent_18 : enterable Tryd.prog 18 = true := by kernel_rfl
theorem ent_19 : enterable Tryd.prog 19 = true := by kernel_rfl
theorem ent_20 : enterable Tryd.prog 20 = true := by kernel_rfl
theorem ent_21 : enterable Tryd.prog 21 = true := by kernel_rfl
theorem ent_22 : enterable Tryd.prog 22 = true := by kernel_rfl
theorem ent_23 : enterable Tryd.prog 23 = true := by kernel_rfl
theorem ent_24 : enterable Tryd.prog 24 = true := by kernel_rfl
theorem ent_25 : enterable Tryd.prog 25 = true := by kernel_rfl
theorem ent_26 : enterable Tryd.prog 26 = true := by kernel_rfl
theorem ent_27 : enterable Tryd.prog 27 = true := by kernel_rfl
theorem ent_28 : enterable Tryd.prog 28 = true := by kernel_rfl
theorem ent_29 : enterable Tryd.prog 29 = true := by kernel_rfl
theorem ent_30 : enterable Tryd.prog 30 = true := by kernel_rfl
theorem ent_31 : enterable Tryd.prog 31 = true := by kernel_rfl
theorem ent_32 : enterable Tryd.prog 32 = true := by kernel_rfl
theorem ent_33 : enterable Tryd.prog 33 = true := by kernel_rfl
theorem ent_34 : enterable Tryd.prog 34 = true := by kernel_rfl
theorem ent_35 : enterable Tryd.prog 35 = true := by kernel_rfl
theorem ent_36 : enterable Tryd.prog 36 = true := by kernel_rfl
theorem ent_37 : enterable Tryd.prog 37 = true := by kernel_rfl
theorem ent_38 : enterable Tryd.prog 38 = true := by kernel_rfl
theorem ent_39 : enterable Tryd.prog 39 = true := by kernel_rfl
theorem ent_40 : enterable Tryd.prog 40 = true := by kernel_rfl
theorem ent_41 : enterable Tryd.prog 41 = true := by kernel_rfl
theorem ent_42 : enterable Tryd.prog 42 = true := by kernel_rfl
theorem ent_43 : enterable Tryd.prog 43 = true := by kernel_rfl
theorem ent_44 : enterable Tryd.prog 44 = true := by kernel_rfl
theorem ent_45 : enterable Tryd.prog 45 = true := by kernel_rfl
theorem ent_46 : enterable Tryd.prog 46 = true := by kernel_rfl
theorem ent_47 : enterable Tryd.prog 47 = true := by kernel_rfl
theorem ent_48 : enterable Tryd.prog 48 = true := by kernel_rfl
theorem ent_49 : enterable Tryd.prog 49 = true := by kernel_rfl
theorem ent_50 : enterable Tryd.prog 50 = true := by kernel_rfl
theorem ent_51 : enterable Tryd.prog 51 = true := by kernel_rfl
theorem ent_52 : enterable Tryd.prog 52 = true := by kernel_rfl
theorem ent_53 : enterable Tryd.prog 53 = true := by kernel_rfl
theorem ent_54 : enterable Tryd.prog 54 = true := by kernel_rfl
theorem ent_55 : enterable Tryd.prog 55 = true := by kernel_rfl
theorem ent_56 : enterable Tryd.prog 56 = true := by kernel_rfl
theorem ent_57 : enterable Tryd.prog 57 = true := by kernel_rfl
theorem ent_58 : enterable Tryd.prog 58 = true := by kernel_rfl
theorem ent_59 : enterable Tryd.prog 59 = true := by kernel_rfl
theorem ent_61 : enterable Tryd.prog 61 = true := by kernel_rfl
theorem ent_62 : enterable Tryd.prog 62 = true := by kernel_rfl
theorem ent_63 : enterable Tryd.prog 63 = true := by kernel_rfl
theorem ent_64 : enterable Tryd.prog 64 = true := by kernel_rfl
theorem ent_65 : enterable Tryd.prog 65 = true := by kernel_rfl
theorem ent_66 : enterable Tryd.prog 66 = true := by kernel_rfl
theorem ent_67 : enterable Tryd.prog 67 = true := by kernel_rfl
theorem ent_68 : enterable Tryd.prog 68 = true := by kernel_rfl
theorem ent_69 : enterable Tryd.prog 69 = true := by kernel_rfl
theorem ent_70 : enterable Tryd.prog 70 = true := by kernel_rfl
theorem ent_71 : enterable Tryd.prog 71 = true := by kernel_rfl
theorem ent_72 : enterable Tryd.prog 72 = true := by kernel_rfl
theorem ent_73 : enterable Tryd.prog 73 = true := by kernel_rfl
theorem ent_74 : enterable Tryd.prog 74 = true := by kernel_rfl
theorem ent_75 : enterable Tryd.prog 75 = true := by kernel_rfl
theorem ent_76 : enterable Tryd.prog 76 = true := by kernel_rfl
theorem ent_77 : enterable Tryd.prog 77 = true := by kernel_rfl
theorem ent_78 : enterable Tryd.prog 78 = true := by kernel_rfl
theorem ent_79 : enterable Tryd.prog 79 = true := by kernel_rfl
theorem ent_80 : enterable Tryd.prog 80 = true := by kernel_rfl
theorem ent_81 : enterable Tryd.prog 81 = true := by kernel_rfl
theorem ent_82 : enterable Tryd.prog 82 = true := by kernel_rfl
theorem ent_83 : enterable Tryd.prog 83 = true := by kernel_rfl
theorem ent_84 : enterable Tryd.prog 84 = true := by kernel_rfl
theorem ent_85 : enterable Tryd.prog 85 = true := by kernel_rfl
theorem ent_86 : enterable Tryd.prog 86 = true := by kernel_rfl
theorem ent_87 : enterable Tryd.prog 87 = true := by kernel_rfl
theorem ent_88 : enterable Tryd.prog 88 = true := by kernel_rfl
theorem ent_89 : enterable Tryd.prog 89 = true := by kernel_rfl
theorem ent_90 : enterable Tryd.prog 90 = true := by kernel_rfl
theorem ent_91 : enterable Tryd.prog 91 = true := by kernel_rfl
theorem ent_92 : enterable Tryd.prog 92 = true := by kernel_rfl
theorem ent_93 : enterable Tryd.prog 93 = true := by kernel_rfl
theorem ent_94 : enterable Tryd.prog 94 = true := by kernel_rfl
theorem ent_95 : enterable Tryd.prog 95 = true := by kernel_rfl
theorem ent_96 : enterable Tryd.prog 96 = true := by kernel_rfl
theorem ent_97 : enterable Tryd.prog 97 = true := by kernel_rfl
theorem ent_98 : enterable Tryd.prog 98 = true := by kernel_rfl
theorem ent_99 : enterable Tryd.prog 99 = true := by kernel_rfl
theorem ent_100 : enterable Tryd.prog 100 = true := by kernel_rfl
theorem ent_101 : enterable Tryd.prog 101 = true := by kernel_rfl
theorem ent_102 : enterable Tryd.prog 102 = true := by kernel_rfl
theorem ent_103 : enterable Tryd.prog 103 = true := by kernel_rfl
theorem ent_104 : enterable Tryd.prog 104 = true := by kernel_rfl
theorem ent_105 : enterable Tryd.prog 105 = true := by kernel_rfl
theorem ent_106 : enterable Tryd.prog 106 = true := by kernel_rfl
theorem ent_107 : enterable Tryd.prog 107 = true := by kernel_rfl
theorem ent_108 : enterable Tryd.prog 108 = true := by kernel_rfl
theorem ent_109 : enterable Tryd.prog 109 = true := by kernel_rfl
theorem ent_110 : enterable Tryd.prog 110 = true := by kernel_rfl
theorem ent_111 : enterable Tryd.prog 111 = true := by kernel_rfl
theorem ent_112 : enterable Tryd.prog 112 = true := by kernel_rfl
theorem ent_113 : enterable Tryd.prog 113 = true := by kernel_rfl
theorem ent_114 : enterable Tryd.prog 114 = true := by kernel_rfl
theorem ent_115 : enterable Tryd.prog 115 = true := by kernel_rfl
theorem ent_116 : enterable Tryd.prog 116 = true := by kernel_rfl
theorem ent_117 : enterable Tryd.prog 117 = true := by kernel_rfl

end Go.Proofs.YtlcfgpjgjdjpoaaDoor
