/-
  Facts on types and functions of this seat, for the shadow (written by wip/types.py).
-/
import Derived.Test.YtjdjcjhdaedakaaSp
import Derived.Laws.StructEq
namespace Go.Proofs.Ytjdjcjhdaedakaa
open Go.RowKit

@[simp] theorem sz_1 : sizeT Try.prog 1 = some 1 := nr (by kernel_rfl)
@[simp] theorem ag_1 : aggT Try.prog 1 = some false := nr (by kernel_rfl)
@[simp] theorem zero_1 : zeroV Try.prog 1 = some (.d (.other .nilFunc)) := nr (by kernel_rfl)
@[simp] theorem und_2 : Try.prog.underlying 2 = some (.int .i64) := nr (by kernel_rfl)
@[simp] theorem sz_2 : sizeT Try.prog 2 = some 1 := nr (by kernel_rfl)
@[simp] theorem ag_2 : aggT Try.prog 2 = some false := nr (by kernel_rfl)
@[simp] theorem zero_2 : zeroV Try.prog 2 = some (.d (.int .i64 0)) := nr (by kernel_rfl)
@[simp] theorem und_3 : Try.prog.underlying 3 = some (.int .i64) := nr (by kernel_rfl)
@[simp] theorem sz_3 : sizeT Try.prog 3 = some 1 := nr (by kernel_rfl)
@[simp] theorem ag_3 : aggT Try.prog 3 = some false := nr (by kernel_rfl)
@[simp] theorem zero_3 : zeroV Try.prog 3 = some (.d (.int .i64 0)) := nr (by kernel_rfl)
@[simp] theorem und_4 : Try.prog.underlying 4 = some (.bool) := nr (by kernel_rfl)
@[simp] theorem sz_4 : sizeT Try.prog 4 = some 1 := nr (by kernel_rfl)
@[simp] theorem ag_4 : aggT Try.prog 4 = some false := nr (by kernel_rfl)
@[simp] theorem zero_4 : zeroV Try.prog 4 = some (.d (.bool false)) := nr (by kernel_rfl)
@[simp] theorem und_5 : Try.prog.underlying 5 = some (.int .u8) := nr (by kernel_rfl)
@[simp] theorem sz_5 : sizeT Try.prog 5 = some 1 := nr (by kernel_rfl)
@[simp] theorem ag_5 : aggT Try.prog 5 = some false := nr (by kernel_rfl)
@[simp] theorem zero_5 : zeroV Try.prog 5 = some (.d (.int .u8 0)) := nr (by kernel_rfl)
@[simp] theorem und_9 : Try.prog.underlying 9 = some (.string) := nr (by kernel_rfl)
@[simp] theorem sz_9 : sizeT Try.prog 9 = some 1 := nr (by kernel_rfl)
@[simp] theorem ag_9 : aggT Try.prog 9 = some false := nr (by kernel_rfl)
@[simp] theorem zero_9 : zeroV Try.prog 9 = some (.d (.str [])) := nr (by kernel_rfl)
@[simp] theorem und_12 : Try.prog.underlying 12 = some (.int .u64) := nr (by kernel_rfl)
@[simp] theorem sz_12 : sizeT Try.prog 12 = some 1 := nr (by kernel_rfl)
@[simp] theorem ag_12 : aggT Try.prog 12 = some false := nr (by kernel_rfl)
@[simp] theorem zero_12 : zeroV Try.prog 12 = some (.d (.int .u64 0)) := nr (by kernel_rfl)
@[simp] theorem sz_13 : sizeT Try.prog 13 = some 2 := nr (by kernel_rfl)
@[simp] theorem ag_13 : aggT Try.prog 13 = some true := nr (by kernel_rfl)
@[simp] theorem zero_13 : zeroV Try.prog 13 = some (.agg [.d (.str []), .d (.int .u64 0)]) := nr (by kernel_rfl)
@[simp] theorem fld_13_0 : fieldOf Try.prog 13 0 = some (0, 9) := nr (by kernel_rfl)
@[simp] theorem fld_13_1 : fieldOf Try.prog 13 1 = some (1, 12) := nr (by kernel_rfl)
@[simp] theorem pl_13 : placesT Try.prog 13 = some (.struct [(0, 1), (1, 1)]) := nr (by kernel_rfl)
@[simp] theorem sz_19 : sizeT Try.prog 19 = some 1 := nr (by kernel_rfl)
@[simp] theorem ag_19 : aggT Try.prog 19 = some true := nr (by kernel_rfl)
@[simp] theorem zero_19 : zeroV Try.prog 19 = some (.agg [.d (.other (.pointer none))]) := nr (by kernel_rfl)
@[simp] theorem fld_19_0 : fieldOf Try.prog 19 0 = some (0, 17) := nr (by kernel_rfl)
@[simp] theorem pl_19 : placesT Try.prog 19 = some (.struct [(0, 1)]) := nr (by kernel_rfl)
@[simp] theorem sz_20 : sizeT Try.prog 20 = some 1 := nr (by kernel_rfl)
@[simp] theorem ag_20 : aggT Try.prog 20 = some false := nr (by kernel_rfl)
@[simp] theorem zero_20 : zeroV Try.prog 20 = some (.d (.other .nilIface)) := nr (by kernel_rfl)
@[simp] theorem und_21 : Try.prog.underlying 21 = some (.int .i32) := nr (by kernel_rfl)
@[simp] theorem sz_21 : sizeT Try.prog 21 = some 1 := nr (by kernel_rfl)
@[simp] theorem ag_21 : aggT Try.prog 21 = some false := nr (by kernel_rfl)
@[simp] theorem zero_21 : zeroV Try.prog 21 = some (.d (.int .i32 0)) := nr (by kernel_rfl)
@[simp] theorem sz_22 : sizeT Try.prog 22 = some 3 := nr (by kernel_rfl)
@[simp] theorem ag_22 : aggT Try.prog 22 = some true := nr (by kernel_rfl)
@[simp] theorem zero_22 : zeroV Try.prog 22 = some (.agg [.d (.int .i64 0), .d (.int .i64 0), .d (.int .i64 0)]) := nr (by kernel_rfl)
@[simp] theorem fld_22_0 : fieldOf Try.prog 22 0 = some (0, 2) := nr (by kernel_rfl)
@[simp] theorem fld_22_1 : fieldOf Try.prog 22 1 = some (1, 2) := nr (by kernel_rfl)
@[simp] theorem fld_22_2 : fieldOf Try.prog 22 2 = some (2, 2) := nr (by kernel_rfl)
@[simp] theorem pl_22 : placesT Try.prog 22 = some (.struct [(0, 1), (1, 1), (2, 1)]) := nr (by kernel_rfl)
@[simp] theorem sz_23 : sizeT Try.prog 23 = some 3 := nr (by kernel_rfl)
@[simp] theorem ag_23 : aggT Try.prog 23 = some true := nr (by kernel_rfl)
@[simp] theorem zero_23 : zeroV Try.prog 23 = some (.agg [.d (.int .i64 0), .d (.int .i64 0), .d (.int .i64 0)]) := nr (by kernel_rfl)
@[simp] theorem fld_23_0 : fieldOf Try.prog 23 0 = some (0, 2) := nr (by kernel_rfl)
@[simp] theorem fld_23_1 : fieldOf Try.prog 23 1 = some (1, 2) := nr (by kernel_rfl)
@[simp] theorem fld_23_2 : fieldOf Try.prog 23 2 = some (2, 2) := nr (by kernel_rfl)
@[simp] theorem pl_23 : placesT Try.prog 23 = some (.struct [(0, 1), (1, 1), (2, 1)]) := nr (by kernel_rfl)
@[simp] theorem sz_24 : sizeT Try.prog 24 = some 2 := nr (by kernel_rfl)
@[simp] theorem ag_24 : aggT Try.prog 24 = some true := nr (by kernel_rfl)
@[simp] theorem zero_24 : zeroV Try.prog 24 = some (.agg [.d (.int .i64 0), .d (.int .i64 0)]) := nr (by kernel_rfl)
@[simp] theorem fld_24_0 : fieldOf Try.prog 24 0 = some (0, 2) := nr (by kernel_rfl)
@[simp] theorem fld_24_1 : fieldOf Try.prog 24 1 = some (1, 2) := nr (by kernel_rfl)
@[simp] theorem pl_24 : placesT Try.prog 24 = some (.struct [(0, 1), (1, 1)]) := nr (by kernel_rfl)
@[simp] theorem sz_25 : sizeT Try.prog 25 = some 2 := nr (by kernel_rfl)
@[simp] theorem ag_25 : aggT Try.prog 25 = some true := nr (by kernel_rfl)
@[simp] theorem zero_25 : zeroV Try.prog 25 = some (.agg [.d (.int .i64 0), .d (.int .i64 0)]) := nr (by kernel_rfl)
@[simp] theorem fld_25_0 : fieldOf Try.prog 25 0 = some (0, 2) := nr (by kernel_rfl)
@[simp] theorem fld_25_1 : fieldOf Try.prog 25 1 = some (1, 2) := nr (by kernel_rfl)
@[simp] theorem pl_25 : placesT Try.prog 25 = some (.struct [(0, 1), (1, 1)]) := nr (by kernel_rfl)
@[simp] theorem sz_26 : sizeT Try.prog 26 = some 7 := nr (by kernel_rfl)
@[simp] theorem ag_26 : aggT Try.prog 26 = some true := nr (by kernel_rfl)
@[simp] theorem zero_26 : zeroV Try.prog 26 = some (.agg [.d (.int .i64 0), .d (.int .i64 0), .d (.int .i64 0), .d (.int .i64 0), .d (.int .i64 0), .d (.int .i64 0), .d (.int .i64 0)]) := nr (by kernel_rfl)
@[simp] theorem fld_26_0 : fieldOf Try.prog 26 0 = some (0, 3) := nr (by kernel_rfl)
@[simp] theorem fld_26_1 : fieldOf Try.prog 26 1 = some (1, 23) := nr (by kernel_rfl)
@[simp] theorem fld_26_2 : fieldOf Try.prog 26 2 = some (4, 25) := nr (by kernel_rfl)
@[simp] theorem fld_26_3 : fieldOf Try.prog 26 3 = some (6, 2) := nr (by kernel_rfl)
@[simp] theorem pl_26 : placesT Try.prog 26 = some (.struct [(0, 1), (1, 3), (4, 2), (6, 1)]) := nr (by kernel_rfl)
@[simp] theorem sz_27 : sizeT Try.prog 27 = some 7 := nr (by kernel_rfl)
@[simp] theorem ag_27 : aggT Try.prog 27 = some true := nr (by kernel_rfl)
@[simp] theorem zero_27 : zeroV Try.prog 27 = some (.agg [.d (.int .i64 0), .d (.int .i64 0), .d (.int .i64 0), .d (.int .i64 0), .d (.int .i64 0), .d (.int .i64 0), .d (.int .i64 0)]) := nr (by kernel_rfl)
@[simp] theorem fld_27_0 : fieldOf Try.prog 27 0 = some (0, 3) := nr (by kernel_rfl)
@[simp] theorem fld_27_1 : fieldOf Try.prog 27 1 = some (1, 23) := nr (by kernel_rfl)
@[simp] theorem fld_27_2 : fieldOf Try.prog 27 2 = some (4, 25) := nr (by kernel_rfl)
@[simp] theorem fld_27_3 : fieldOf Try.prog 27 3 = some (6, 2) := nr (by kernel_rfl)
@[simp] theorem pl_27 : placesT Try.prog 27 = some (.struct [(0, 1), (1, 3), (4, 2), (6, 1)]) := nr (by kernel_rfl)
@[simp] theorem sz_28 : sizeT Try.prog 28 = some 1 := nr (by kernel_rfl)
@[simp] theorem ag_28 : aggT Try.prog 28 = some false := nr (by kernel_rfl)
@[simp] theorem zero_28 : zeroV Try.prog 28 = some (.d (.other .nilFunc)) := nr (by kernel_rfl)
@[simp] theorem und_29 : Try.prog.underlying 29 = some (.int .i64) := nr (by kernel_rfl)
@[simp] theorem sz_29 : sizeT Try.prog 29 = some 1 := nr (by kernel_rfl)
@[simp] theorem ag_29 : aggT Try.prog 29 = some false := nr (by kernel_rfl)
@[simp] theorem zero_29 : zeroV Try.prog 29 = some (.d (.int .i64 0)) := nr (by kernel_rfl)
@[simp] theorem sz_31 : sizeT Try.prog 31 = some 1 := nr (by kernel_rfl)
@[simp] theorem ag_31 : aggT Try.prog 31 = some false := nr (by kernel_rfl)
@[simp] theorem zero_31 : zeroV Try.prog 31 = some (.d (.other .nilFunc)) := nr (by kernel_rfl)
@[simp] theorem sz_32 : sizeT Try.prog 32 = some 1 := nr (by kernel_rfl)
@[simp] theorem ag_32 : aggT Try.prog 32 = some false := nr (by kernel_rfl)
@[simp] theorem zero_32 : zeroV Try.prog 32 = some (.d (.other .nilFunc)) := nr (by kernel_rfl)
@[simp] theorem sz_33 : sizeT Try.prog 33 = some 1 := nr (by kernel_rfl)
@[simp] theorem ag_33 : aggT Try.prog 33 = some false := nr (by kernel_rfl)
@[simp] theorem zero_33 : zeroV Try.prog 33 = some (.d (.other .nilFunc)) := nr (by kernel_rfl)
@[simp] theorem sz_34 : sizeT Try.prog 34 = some 1 := nr (by kernel_rfl)
@[simp] theorem ag_34 : aggT Try.prog 34 = some false := nr (by kernel_rfl)
@[simp] theorem zero_34 : zeroV Try.prog 34 = some (.d (.other .nilFunc)) := nr (by kernel_rfl)
@[simp] theorem sz_35 : sizeT Try.prog 35 = some 1 := nr (by kernel_rfl)
@[simp] theorem ag_35 : aggT Try.prog 35 = some false := nr (by kernel_rfl)
@[simp] theorem zero_35 : zeroV Try.prog 35 = some (.d (.other .nilFunc)) := nr (by kernel_rfl)
@[simp] theorem sz_36 : sizeT Try.prog 36 = some 1 := nr (by kernel_rfl)
@[simp] theorem ag_36 : aggT Try.prog 36 = some false := nr (by kernel_rfl)
@[simp] theorem zero_36 : zeroV Try.prog 36 = some (.d (.other .nilFunc)) := nr (by kernel_rfl)
@[simp] theorem und_37 : Try.prog.underlying 37 = some (.slice 27) := nr (by kernel_rfl)
@[simp] theorem sz_37 : sizeT Try.prog 37 = some 1 := nr (by kernel_rfl)
@[simp] theorem ag_37 : aggT Try.prog 37 = some false := nr (by kernel_rfl)
@[simp] theorem zero_37 : zeroV Try.prog 37 = some (.nil) := nr (by kernel_rfl)
@[simp] theorem app_37 : appT Try.prog 37 = some (27, 7) := nr (by kernel_rfl)
@[simp] theorem und_38 : Try.prog.underlying 38 = some (.slice 23) := nr (by kernel_rfl)
@[simp] theorem sz_38 : sizeT Try.prog 38 = some 1 := nr (by kernel_rfl)
@[simp] theorem ag_38 : aggT Try.prog 38 = some false := nr (by kernel_rfl)
@[simp] theorem zero_38 : zeroV Try.prog 38 = some (.nil) := nr (by kernel_rfl)
@[simp] theorem app_38 : appT Try.prog 38 = some (23, 3) := nr (by kernel_rfl)
@[simp] theorem sz_40 : sizeT Try.prog 40 = some 1 := nr (by kernel_rfl)
@[simp] theorem ag_40 : aggT Try.prog 40 = some false := nr (by kernel_rfl)
@[simp] theorem zero_40 : zeroV Try.prog 40 = some (.d (.other .nilFunc)) := nr (by kernel_rfl)
@[simp] theorem sz_41 : sizeT Try.prog 41 = some 1 := nr (by kernel_rfl)
@[simp] theorem ag_41 : aggT Try.prog 41 = some false := nr (by kernel_rfl)
@[simp] theorem zero_41 : zeroV Try.prog 41 = some (.d (.other .nilFunc)) := nr (by kernel_rfl)
@[simp] theorem sz_42 : sizeT Try.prog 42 = some 1 := nr (by kernel_rfl)
@[simp] theorem ag_42 : aggT Try.prog 42 = some false := nr (by kernel_rfl)
@[simp] theorem zero_42 : zeroV Try.prog 42 = some (.d (.other .nilFunc)) := nr (by kernel_rfl)
@[simp] theorem sz_43 : sizeT Try.prog 43 = some 1 := nr (by kernel_rfl)
@[simp] theorem ag_43 : aggT Try.prog 43 = some false := nr (by kernel_rfl)
@[simp] theorem zero_43 : zeroV Try.prog 43 = some (.d (.other .nilFunc)) := nr (by kernel_rfl)
@[simp] theorem sz_44 : sizeT Try.prog 44 = some 1 := nr (by kernel_rfl)
@[simp] theorem ag_44 : aggT Try.prog 44 = some false := nr (by kernel_rfl)
@[simp] theorem zero_44 : zeroV Try.prog 44 = some (.d (.other .nilFunc)) := nr (by kernel_rfl)
@[simp] theorem sz_45 : sizeT Try.prog 45 = some 1 := nr (by kernel_rfl)
@[simp] theorem ag_45 : aggT Try.prog 45 = some false := nr (by kernel_rfl)
@[simp] theorem zero_45 : zeroV Try.prog 45 = some (.d (.other .nilFunc)) := nr (by kernel_rfl)
@[simp] theorem sz_46 : sizeT Try.prog 46 = some 1 := nr (by kernel_rfl)
@[simp] theorem ag_46 : aggT Try.prog 46 = some false := nr (by kernel_rfl)
@[simp] theorem zero_46 : zeroV Try.prog 46 = some (.d (.other .nilFunc)) := nr (by kernel_rfl)
@[simp] theorem und_47 : Try.prog.underlying 47 = some (.slice 51) := nr (by kernel_rfl)
@[simp] theorem sz_47 : sizeT Try.prog 47 = some 1 := nr (by kernel_rfl)
@[simp] theorem ag_47 : aggT Try.prog 47 = some false := nr (by kernel_rfl)
@[simp] theorem zero_47 : zeroV Try.prog 47 = some (.nil) := nr (by kernel_rfl)
@[simp] theorem app_47 : appT Try.prog 47 = some (51, 9) := nr (by kernel_rfl)
@[simp] theorem sz_49 : sizeT Try.prog 49 = some 1 := nr (by kernel_rfl)
@[simp] theorem ag_49 : aggT Try.prog 49 = some false := nr (by kernel_rfl)
@[simp] theorem zero_49 : zeroV Try.prog 49 = some (.d (.other .nilFunc)) := nr (by kernel_rfl)
@[simp] theorem sz_50 : sizeT Try.prog 50 = some 9 := nr (by kernel_rfl)
@[simp] theorem ag_50 : aggT Try.prog 50 = some true := nr (by kernel_rfl)
@[simp] theorem zero_50 : zeroV Try.prog 50 = some (.agg [.d (.int .i64 0), .d (.int .i64 0), .d (.int .i64 0), .d (.int .i64 0), .d (.int .i64 0), .d (.int .i64 0), .d (.int .i64 0), .d (.int .i64 0), .d (.int .i64 0)]) := nr (by kernel_rfl)
@[simp] theorem fld_50_0 : fieldOf Try.prog 50 0 = some (0, 23) := nr (by kernel_rfl)
@[simp] theorem fld_50_1 : fieldOf Try.prog 50 1 = some (3, 23) := nr (by kernel_rfl)
@[simp] theorem fld_50_2 : fieldOf Try.prog 50 2 = some (6, 2) := nr (by kernel_rfl)
@[simp] theorem fld_50_3 : fieldOf Try.prog 50 3 = some (7, 3) := nr (by kernel_rfl)
@[simp] theorem fld_50_4 : fieldOf Try.prog 50 4 = some (8, 3) := nr (by kernel_rfl)
@[simp] theorem pl_50 : placesT Try.prog 50 = some (.struct [(0, 3), (3, 3), (6, 1), (7, 1), (8, 1)]) := nr (by kernel_rfl)
@[simp] theorem sz_51 : sizeT Try.prog 51 = some 9 := nr (by kernel_rfl)
@[simp] theorem ag_51 : aggT Try.prog 51 = some true := nr (by kernel_rfl)
@[simp] theorem zero_51 : zeroV Try.prog 51 = some (.agg [.d (.int .i64 0), .d (.int .i64 0), .d (.int .i64 0), .d (.int .i64 0), .d (.int .i64 0), .d (.int .i64 0), .d (.int .i64 0), .d (.int .i64 0), .d (.int .i64 0)]) := nr (by kernel_rfl)
@[simp] theorem fld_51_0 : fieldOf Try.prog 51 0 = some (0, 23) := nr (by kernel_rfl)
@[simp] theorem fld_51_1 : fieldOf Try.prog 51 1 = some (3, 23) := nr (by kernel_rfl)
@[simp] theorem fld_51_2 : fieldOf Try.prog 51 2 = some (6, 2) := nr (by kernel_rfl)
@[simp] theorem fld_51_3 : fieldOf Try.prog 51 3 = some (7, 3) := nr (by kernel_rfl)
@[simp] theorem fld_51_4 : fieldOf Try.prog 51 4 = some (8, 3) := nr (by kernel_rfl)
@[simp] theorem pl_51 : placesT Try.prog 51 = some (.struct [(0, 3), (3, 3), (6, 1), (7, 1), (8, 1)]) := nr (by kernel_rfl)
@[simp] theorem sz_52 : sizeT Try.prog 52 = some 1 := nr (by kernel_rfl)
@[simp] theorem ag_52 : aggT Try.prog 52 = some false := nr (by kernel_rfl)
@[simp] theorem zero_52 : zeroV Try.prog 52 = some (.d (.other .nilFunc)) := nr (by kernel_rfl)
@[simp] theorem und_53 : Try.prog.underlying 53 = some (.int .u64) := nr (by kernel_rfl)
@[simp] theorem sz_53 : sizeT Try.prog 53 = some 1 := nr (by kernel_rfl)
@[simp] theorem ag_53 : aggT Try.prog 53 = some false := nr (by kernel_rfl)
@[simp] theorem zero_53 : zeroV Try.prog 53 = some (.d (.int .u64 0)) := nr (by kernel_rfl)
@[simp] theorem sz_55 : sizeT Try.prog 55 = some 1 := nr (by kernel_rfl)
@[simp] theorem ag_55 : aggT Try.prog 55 = some false := nr (by kernel_rfl)
@[simp] theorem zero_55 : zeroV Try.prog 55 = some (.d (.other .nilFunc)) := nr (by kernel_rfl)
@[simp] theorem sz_57 : sizeT Try.prog 57 = some 1 := nr (by kernel_rfl)
@[simp] theorem ag_57 : aggT Try.prog 57 = some false := nr (by kernel_rfl)
@[simp] theorem zero_57 : zeroV Try.prog 57 = some (.d (.other .nilFunc)) := nr (by kernel_rfl)
@[simp] theorem und_58 : Try.prog.underlying 58 = some (.slice 2) := nr (by kernel_rfl)
@[simp] theorem sz_58 : sizeT Try.prog 58 = some 1 := nr (by kernel_rfl)
@[simp] theorem ag_58 : aggT Try.prog 58 = some false := nr (by kernel_rfl)
@[simp] theorem zero_58 : zeroV Try.prog 58 = some (.nil) := nr (by kernel_rfl)
@[simp] theorem app_58 : appT Try.prog 58 = some (2, 1) := nr (by kernel_rfl)
@[simp] theorem sz_59 : sizeT Try.prog 59 = some 1 := nr (by kernel_rfl)
@[simp] theorem ag_59 : aggT Try.prog 59 = some false := nr (by kernel_rfl)
@[simp] theorem zero_59 : zeroV Try.prog 59 = some (.d (.other .nilFunc)) := nr (by kernel_rfl)
@[simp] theorem sz_61 : sizeT Try.prog 61 = some 1 := nr (by kernel_rfl)
@[simp] theorem ag_61 : aggT Try.prog 61 = some false := nr (by kernel_rfl)
@[simp] theorem zero_61 : zeroV Try.prog 61 = some (.d (.other .nilFunc)) := nr (by kernel_rfl)
@[simp] theorem sz_62 : sizeT Try.prog 62 = some 1 := nr (by kernel_rfl)
@[simp] theorem ag_62 : aggT Try.prog 62 = some false := nr (by kernel_rfl)
@[simp] theorem zero_62 : zeroV Try.prog 62 = some (.d (.other .nilFunc)) := nr (by kernel_rfl)
@[simp] theorem sz_63 : sizeT Try.prog 63 = some 1 := nr (by kernel_rfl)
@[simp] theorem ag_63 : aggT Try.prog 63 = some false := nr (by kernel_rfl)
@[simp] theorem zero_63 : zeroV Try.prog 63 = some (.d (.other .nilFunc)) := nr (by kernel_rfl)
@[simp] theorem sz_64 : sizeT Try.prog 64 = some 1 := nr (by kernel_rfl)
@[simp] theorem ag_64 : aggT Try.prog 64 = some false := nr (by kernel_rfl)
@[simp] theorem zero_64 : zeroV Try.prog 64 = some (.d (.other .nilFunc)) := nr (by kernel_rfl)
@[simp] theorem sz_65 : sizeT Try.prog 65 = some 1 := nr (by kernel_rfl)
@[simp] theorem ag_65 : aggT Try.prog 65 = some false := nr (by kernel_rfl)
@[simp] theorem zero_65 : zeroV Try.prog 65 = some (.d (.other .nilFunc)) := nr (by kernel_rfl)
@[simp] theorem sz_66 : sizeT Try.prog 66 = some 1 := nr (by kernel_rfl)
@[simp] theorem ag_66 : aggT Try.prog 66 = some false := nr (by kernel_rfl)
@[simp] theorem zero_66 : zeroV Try.prog 66 = some (.d (.other .nilFunc)) := nr (by kernel_rfl)
@[simp] theorem sz_72 : sizeT Try.prog 72 = some 1 := nr (by kernel_rfl)
@[simp] theorem ag_72 : aggT Try.prog 72 = some false := nr (by kernel_rfl)
@[simp] theorem zero_72 : zeroV Try.prog 72 = some (.d (.other .nilFunc)) := nr (by kernel_rfl)
@[simp] theorem und_73 : Try.prog.underlying 73 = some (.int .u32) := nr (by kernel_rfl)
@[simp] theorem sz_73 : sizeT Try.prog 73 = some 1 := nr (by kernel_rfl)
@[simp] theorem ag_73 : aggT Try.prog 73 = some false := nr (by kernel_rfl)
@[simp] theorem zero_73 : zeroV Try.prog 73 = some (.d (.int .u32 0)) := nr (by kernel_rfl)
@[simp] theorem und_77 : Try.prog.underlying 77 = some (.pointer 5) := nr (by kernel_rfl)
@[simp] theorem sz_77 : sizeT Try.prog 77 = some 1 := nr (by kernel_rfl)
@[simp] theorem ag_77 : aggT Try.prog 77 = some false := nr (by kernel_rfl)
@[simp] theorem zero_77 : zeroV Try.prog 77 = some (.d (.other (.pointer none))) := nr (by kernel_rfl)
theorem eq_23 : EqOk Try.prog 23 [.int .i64, .int .i64, .int .i64] := by
  refine ⟨by kernel_rfl, fun xs ys hx hy w => ?_⟩
  obtain ⟨xa0, ra0, ea0, ka0, hx0⟩ := kinds_cons hx
  obtain ⟨a0, rfl⟩ := kind_int ka0
  obtain ⟨xa1, ra1, ea1, ka1, hx1⟩ := kinds_cons hx0
  obtain ⟨a1, rfl⟩ := kind_int ka1
  obtain ⟨xa2, ra2, ea2, ka2, hx2⟩ := kinds_cons hx1
  obtain ⟨a2, rfl⟩ := kind_int ka2
  have za := kinds_nil hx2
  subst za
  subst ea2
  subst ea1
  subst ea0
  obtain ⟨xb0, rb0, eb0, kb0, hy0⟩ := kinds_cons hy
  obtain ⟨b0, rfl⟩ := kind_int kb0
  obtain ⟨xb1, rb1, eb1, kb1, hy1⟩ := kinds_cons hy0
  obtain ⟨b1, rfl⟩ := kind_int kb1
  obtain ⟨xb2, rb2, eb2, kb2, hy2⟩ := kinds_cons hy1
  obtain ⟨b2, rfl⟩ := kind_int kb2
  have zb := kinds_nil hy2
  subst zb
  subst eb2
  subst eb1
  subst eb0
  have hS : Try.prog.underlying 23 = some (.struct (Try.prog.fieldsOf 23)) := by kernel_rfl
  simp only [Op.equal, Op.maxDepth]
  rw [show (10000 : Nat) = 9999 + 1 from rfl, run_equalIn_agg w 9999 23 _ _ hS (by kernel_rfl)]
  simp only [Program.fieldsOf, Try.underlying23, List.map_cons, List.map_nil, D.val]
  go_simp
  simp only [eqAll, eqD]
  refine Decidable.byCases (p := a0 = b0) (fun h0 => ?_) (fun h0 => by simp [h0])
  refine Decidable.byCases (p := a1 = b1) (fun h1 => ?_) (fun h1 => by simp [h0, h1])
  refine Decidable.byCases (p := a2 = b2) (fun h2 => ?_) (fun h2 => by simp [h0, h1, h2])
  simp [h0, h1, h2]
theorem eq_25 : EqOk Try.prog 25 [.int .i64, .int .i64] := by
  refine ⟨by kernel_rfl, fun xs ys hx hy w => ?_⟩
  obtain ⟨xa0, ra0, ea0, ka0, hx0⟩ := kinds_cons hx
  obtain ⟨a0, rfl⟩ := kind_int ka0
  obtain ⟨xa1, ra1, ea1, ka1, hx1⟩ := kinds_cons hx0
  obtain ⟨a1, rfl⟩ := kind_int ka1
  have za := kinds_nil hx1
  subst za
  subst ea1
  subst ea0
  obtain ⟨xb0, rb0, eb0, kb0, hy0⟩ := kinds_cons hy
  obtain ⟨b0, rfl⟩ := kind_int kb0
  obtain ⟨xb1, rb1, eb1, kb1, hy1⟩ := kinds_cons hy0
  obtain ⟨b1, rfl⟩ := kind_int kb1
  have zb := kinds_nil hy1
  subst zb
  subst eb1
  subst eb0
  have hS : Try.prog.underlying 25 = some (.struct (Try.prog.fieldsOf 25)) := by kernel_rfl
  simp only [Op.equal, Op.maxDepth]
  rw [show (10000 : Nat) = 9999 + 1 from rfl, run_equalIn_agg w 9999 25 _ _ hS (by kernel_rfl)]
  simp only [Program.fieldsOf, Try.underlying25, List.map_cons, List.map_nil, D.val]
  go_simp
  simp only [eqAll, eqD]
  refine Decidable.byCases (p := a0 = b0) (fun h0 => ?_) (fun h0 => by simp [h0])
  refine Decidable.byCases (p := a1 = b1) (fun h1 => ?_) (fun h1 => by simp [h0, h1])
  simp [h0, h1]
theorem eq_51 : EqOk Try.prog 51 [.int .i64, .int .i64, .int .i64, .int .i64, .int .i64, .int .i64, .int .i64, .int .i64, .int .i64] := by
  refine ⟨by kernel_rfl, fun xs ys hx hy w => ?_⟩
  obtain ⟨xa0, ra0, ea0, ka0, hx0⟩ := kinds_cons hx
  obtain ⟨a0, rfl⟩ := kind_int ka0
  obtain ⟨xa1, ra1, ea1, ka1, hx1⟩ := kinds_cons hx0
  obtain ⟨a1, rfl⟩ := kind_int ka1
  obtain ⟨xa2, ra2, ea2, ka2, hx2⟩ := kinds_cons hx1
  obtain ⟨a2, rfl⟩ := kind_int ka2
  obtain ⟨xa3, ra3, ea3, ka3, hx3⟩ := kinds_cons hx2
  obtain ⟨a3, rfl⟩ := kind_int ka3
  obtain ⟨xa4, ra4, ea4, ka4, hx4⟩ := kinds_cons hx3
  obtain ⟨a4, rfl⟩ := kind_int ka4
  obtain ⟨xa5, ra5, ea5, ka5, hx5⟩ := kinds_cons hx4
  obtain ⟨a5, rfl⟩ := kind_int ka5
  obtain ⟨xa6, ra6, ea6, ka6, hx6⟩ := kinds_cons hx5
  obtain ⟨a6, rfl⟩ := kind_int ka6
  obtain ⟨xa7, ra7, ea7, ka7, hx7⟩ := kinds_cons hx6
  obtain ⟨a7, rfl⟩ := kind_int ka7
  obtain ⟨xa8, ra8, ea8, ka8, hx8⟩ := kinds_cons hx7
  obtain ⟨a8, rfl⟩ := kind_int ka8
  have za := kinds_nil hx8
  subst za
  subst ea8
  subst ea7
  subst ea6
  subst ea5
  subst ea4
  subst ea3
  subst ea2
  subst ea1
  subst ea0
  obtain ⟨xb0, rb0, eb0, kb0, hy0⟩ := kinds_cons hy
  obtain ⟨b0, rfl⟩ := kind_int kb0
  obtain ⟨xb1, rb1, eb1, kb1, hy1⟩ := kinds_cons hy0
  obtain ⟨b1, rfl⟩ := kind_int kb1
  obtain ⟨xb2, rb2, eb2, kb2, hy2⟩ := kinds_cons hy1
  obtain ⟨b2, rfl⟩ := kind_int kb2
  obtain ⟨xb3, rb3, eb3, kb3, hy3⟩ := kinds_cons hy2
  obtain ⟨b3, rfl⟩ := kind_int kb3
  obtain ⟨xb4, rb4, eb4, kb4, hy4⟩ := kinds_cons hy3
  obtain ⟨b4, rfl⟩ := kind_int kb4
  obtain ⟨xb5, rb5, eb5, kb5, hy5⟩ := kinds_cons hy4
  obtain ⟨b5, rfl⟩ := kind_int kb5
  obtain ⟨xb6, rb6, eb6, kb6, hy6⟩ := kinds_cons hy5
  obtain ⟨b6, rfl⟩ := kind_int kb6
  obtain ⟨xb7, rb7, eb7, kb7, hy7⟩ := kinds_cons hy6
  obtain ⟨b7, rfl⟩ := kind_int kb7
  obtain ⟨xb8, rb8, eb8, kb8, hy8⟩ := kinds_cons hy7
  obtain ⟨b8, rfl⟩ := kind_int kb8
  have zb := kinds_nil hy8
  subst zb
  subst eb8
  subst eb7
  subst eb6
  subst eb5
  subst eb4
  subst eb3
  subst eb2
  subst eb1
  subst eb0
  have hS : Try.prog.underlying 51 = some (.struct (Try.prog.fieldsOf 51)) := by kernel_rfl
  simp only [Op.equal, Op.maxDepth]
  rw [show (10000 : Nat) = 9999 + 1 from rfl, run_equalIn_agg w 9999 51 _ _ hS (by kernel_rfl)]
  simp only [Program.fieldsOf, Try.underlying51, List.map_cons, List.map_nil, D.val]
  go_simp
  simp only [eqAll, eqD]
  refine Decidable.byCases (p := a0 = b0) (fun h0 => ?_) (fun h0 => by simp [h0])
  refine Decidable.byCases (p := a1 = b1) (fun h1 => ?_) (fun h1 => by simp [h0, h1])
  refine Decidable.byCases (p := a2 = b2) (fun h2 => ?_) (fun h2 => by simp [h0, h1, h2])
  refine Decidable.byCases (p := a3 = b3) (fun h3 => ?_) (fun h3 => by simp [h0, h1, h2, h3])
  refine Decidable.byCases (p := a4 = b4) (fun h4 => ?_) (fun h4 => by simp [h0, h1, h2, h3, h4])
  refine Decidable.byCases (p := a5 = b5) (fun h5 => ?_) (fun h5 => by simp [h0, h1, h2, h3, h4, h5])
  refine Decidable.byCases (p := a6 = b6) (fun h6 => ?_) (fun h6 => by simp [h0, h1, h2, h3, h4, h5, h6])
  refine Decidable.byCases (p := a7 = b7) (fun h7 => ?_) (fun h7 => by simp [h0, h1, h2, h3, h4, h5, h6, h7])
  refine Decidable.byCases (p := a8 = b8) (fun h8 => ?_) (fun h8 => by simp [h0, h1, h2, h3, h4, h5, h6, h7, h8])
  simp [h0, h1, h2, h3, h4, h5, h6, h7, h8]
def eqTab : TypeId → Option (List SK)
  | 23 => some [.int .i64, .int .i64, .int .i64]
  | 25 => some [.int .i64, .int .i64]
  | 51 => some [.int .i64, .int .i64, .int .i64, .int .i64, .int .i64, .int .i64, .int .i64, .int .i64, .int .i64]
  | _ => none
theorem eqTab_ok : ∀ t ks, eqTab t = some ks → EqOk Try.prog t ks := by
  intro t ks h
  unfold eqTab at h
  split at h
  · injection h with h; subst h; exact eq_23
  · injection h with h; subst h; exact eq_25
  · injection h with h; subst h; exact eq_51
  · cases h
def gP : Pg Try.prog := ⟨by kernel_rfl, eqTab, eqTab_ok⟩
@[simp] theorem gE_23 : gP.E 23 = some [.int .i64, .int .i64, .int .i64] := nr rfl
@[simp] theorem gE_25 : gP.E 25 = some [.int .i64, .int .i64] := nr rfl
@[simp] theorem gE_51 : gP.E 51 = some [.int .i64, .int .i64, .int .i64, .int .i64, .int .i64, .int .i64, .int .i64, .int .i64, .int .i64] := nr rfl
theorem ent_3 : enterable Try.prog 3 = true := by kernel_rfl
theorem ent_4 : enterable Try.prog 4 = true := by kernel_rfl
theorem ent_5 : enterable Try.prog 5 = true := by kernel_rfl
theorem ent_6 : enterable Try.prog 6 = true := by kernel_rfl
theorem ent_7 : enterable Try.prog 7 = true := by kernel_rfl
theorem ent_8 : enterable Try.prog 8 = true := by kernel_rfl
theorem ent_9 : enterable Try.prog 9 = true := by kernel_rfl
theorem ent_10 : enterable Try.prog 10 = true := by kernel_rfl
theorem ent_11 : enterable Try.prog 11 = true := by kernel_rfl
theorem ent_12 : enterable Try.prog 12 = true := by kernel_rfl
theorem ent_13 : enterable Try.prog 13 = true := by kernel_rfl
theorem ent_14 : enterable Try.prog 14 = true := by kernel_rfl
theorem ent_15 : enterable Try.prog 15 = true := by kernel_rfl
theorem ent_16 : enterable Try.prog 16 = true := by kernel_rfl
theorem ent_17 : enterable Try.prog 17 = true := by kernel_rfl
theorem ent_18 : enterable Try.prog 18 = true := by kernel_rfl
theorem ent_19 : enterable Try.prog 19 = true := by kernel_rfl
theorem ent_20 : enterable Try.prog 20 = true := by kernel_rfl
theorem ent_21 : enterable Try.prog 21 = true := by kernel_rfl
theorem ent_22 : enterable Try.prog 22 = true := by kernel_rfl
theorem ent_23 : enterable Try.prog 23 = true := by kernel_rfl
theorem ent_24 : enterable Try.prog 24 = true := by kernel_rfl
theorem ent_25 : enterable Try.prog 25 = true := by kernel_rfl
theorem ent_26 : enterable Try.prog 26 = true := by kernel_rfl
theorem ent_27 : enterable Try.prog 27 = true := by kernel_rfl
theorem ent_28 : enterable Try.prog 28 = true := by kernel_rfl
theorem ent_29 : enterable Try.prog 29 = true := by kernel_rfl
theorem ent_30 : enterable Try.prog 30 = true := by kernel_rfl
theorem ent_31 : enterable Try.prog 31 = true := by kernel_rfl
theorem ent_32 : enterable Try.prog 32 = true := by kernel_rfl
theorem ent_33 : enterable Try.prog 33 = true := by kernel_rfl
theorem ent_34 : enterable Try.prog 34 = true := by kernel_rfl
theorem ent_35 : enterable Try.prog 35 = true := by kernel_rfl
theorem ent_36 : enterable Try.prog 36 = true := by kernel_rfl
theorem ent_37 : enterable Try.prog 37 = true := by kernel_rfl
theorem ent_38 : enterable Try.prog 38 = true := by kernel_rfl
theorem ent_39 : enterable Try.prog 39 = true := by kernel_rfl
theorem ent_40 : enterable Try.prog 40 = true := by kernel_rfl
theorem ent_41 : enterable Try.prog 41 = true := by kernel_rfl
theorem ent_42 : enterable Try.prog 42 = true := by kernel_rfl
theorem ent_43 : enterable Try.prog 43 = true := by kernel_rfl
theorem ent_44 : enterable Try.prog 44 = true := by kernel_rfl
theorem ent_45 : enterable Try.prog 45 = true := by kernel_rfl
theorem ent_46 : enterable Try.prog 46 = true := by kernel_rfl

end Go.Proofs.Ytjdjcjhdaedakaa
