import Derived.Test.YtipefnighcdgnaaGreatDoorSy2
import Derived.Laws.StructEq
import Derived.ChangeKeysEq
namespace Go.Proofs.YtipefnighcdgnaaGreatDoor
open Go.RowKit
set_option linter.unusedSimpArgs false
@[simp] theorem und_2 : Tryz.prog.underlying 2 = some (.int .i64) := nr (by kernel_rfl)
@[simp] theorem und_3 : Tryz.prog.underlying 3 = some (.int .i64) := nr (by kernel_rfl)
@[simp] theorem und_4 : Tryz.prog.underlying 4 = some (.bool) := nr (by kernel_rfl)
@[simp] theorem sz_4 : sizeT Tryz.prog 4 = some 1 := nr (by kernel_rfl)
@[simp] theorem ag_4 : aggT Tryz.prog 4 = some false := nr (by kernel_rfl)
@[simp] theorem sz_5 : sizeT Tryz.prog 5 = some 1 := nr (by kernel_rfl)
@[simp] theorem zero_5 : zeroV Tryz.prog 5 = some (.d (.int .u8 0)) := nr (by kernel_rfl)
@[simp] theorem und_9 : Tryz.prog.underlying 9 = some (.string) := nr (by kernel_rfl)
@[simp] theorem und_21 : Tryz.prog.underlying 21 = some (.int .i32) := nr (by kernel_rfl)
@[simp] theorem und_27 : Tryz.prog.underlying 27 = some (.slice 73) := nr (by kernel_rfl)
@[simp] theorem sz_27 : sizeT Tryz.prog 27 = some 1 := nr (by kernel_rfl)
@[simp] theorem ag_27 : aggT Tryz.prog 27 = some false := nr (by kernel_rfl)
@[simp] theorem app_27 : appT Tryz.prog 27 = some (73, 1) := nr (by kernel_rfl)
@[simp] theorem sz_29 : sizeT Tryz.prog 29 = some 2 := nr (by kernel_rfl)
@[simp] theorem ag_29 : aggT Tryz.prog 29 = some true := nr (by kernel_rfl)
@[simp] theorem zero_29 : zeroV Tryz.prog 29 = some (.agg [.d (.bool false), .nil]) := nr (by kernel_rfl)
@[simp] theorem fld_29_0 : fieldOf Tryz.prog 29 0 = some (0, 4) := nr (by kernel_rfl)
@[simp] theorem fld_29_1 : fieldOf Tryz.prog 29 1 = some (1, 27) := nr (by kernel_rfl)
@[simp] theorem pl_29 : placesT Tryz.prog 29 = some (.struct [(0, 1), (1, 1)]) := nr (by kernel_rfl)
@[simp] theorem sz_31 : sizeT Tryz.prog 31 = some 4 := nr (by kernel_rfl)
@[simp] theorem ag_31 : aggT Tryz.prog 31 = some true := nr (by kernel_rfl)
@[simp] theorem zero_31 : zeroV Tryz.prog 31 = some (.agg [.d (.bool false), .nil, .d (.bool false), .nil]) := nr (by kernel_rfl)
@[simp] theorem fld_31_0 : fieldOf Tryz.prog 31 0 = some (0, 29) := nr (by kernel_rfl)
@[simp] theorem fld_31_1 : fieldOf Tryz.prog 31 1 = some (2, 29) := nr (by kernel_rfl)
@[simp] theorem pl_31 : placesT Tryz.prog 31 = some (.struct [(0, 2), (2, 2)]) := nr (by kernel_rfl)
@[simp] theorem sz_33 : sizeT Tryz.prog 33 = some 12 := nr (by kernel_rfl)
@[simp] theorem ag_33 : aggT Tryz.prog 33 = some true := nr (by kernel_rfl)
@[simp] theorem zero_33 : zeroV Tryz.prog 33 = some (.agg [.d (.bool false), .nil, .d (.bool false), .nil, .d (.bool false), .nil, .d (.bool false), .nil, .d (.bool false), .nil, .d (.bool false), .nil]) := nr (by kernel_rfl)
@[simp] theorem fld_33_0 : fieldOf Tryz.prog 33 0 = some (0, 31) := nr (by kernel_rfl)
@[simp] theorem fld_33_1 : fieldOf Tryz.prog 33 1 = some (4, 31) := nr (by kernel_rfl)
@[simp] theorem fld_33_2 : fieldOf Tryz.prog 33 2 = some (8, 31) := nr (by kernel_rfl)
@[simp] theorem pl_33 : placesT Tryz.prog 33 = some (.struct [(0, 4), (4, 4), (8, 4)]) := nr (by kernel_rfl)
@[simp] theorem und_73 : Tryz.prog.underlying 73 = some (.int .u32) := nr (by kernel_rfl)
@[simp] theorem sz_73 : sizeT Tryz.prog 73 = some 1 := nr (by kernel_rfl)
@[simp] theorem ag_73 : aggT Tryz.prog 73 = some false := nr (by kernel_rfl)
@[simp] theorem zero_73 : zeroV Tryz.prog 73 = some (.d (.int .u32 0)) := nr (by kernel_rfl)
@[simp] theorem und_79 : Tryz.prog.underlying 79 = some (.int .u64) := nr (by kernel_rfl)
@[simp] theorem und_115 : Tryz.prog.underlying 115 = some (.slice 5) := nr (by kernel_rfl)
@[simp] theorem sz_115 : sizeT Tryz.prog 115 = some 1 := nr (by kernel_rfl)
@[simp] theorem ag_115 : aggT Tryz.prog 115 = some false := nr (by kernel_rfl)
@[simp] theorem app_115 : appT Tryz.prog 115 = some (5, 1) := nr (by kernel_rfl)
@[simp] theorem und_128 : Tryz.prog.underlying 128 = some (.int .u64) := nr (by kernel_rfl)
@[simp] theorem fld_134_1 : fieldOf Tryz.prog 134 1 = some (1, 115) := nr (by kernel_rfl)
def eqTab : TypeId → Option (List SK)
 | _ => none
theorem eqTab_ok : ∀ t ks, eqTab t = some ks → EqOk Tryz.prog t ks := by
 intro t ks h
 unfold eqTab at h
 cases h
def gP : Pg Tryz.prog := ⟨by kernel_rfl, eqTab, eqTab_ok⟩
end Go.Proofs.YtipefnighcdgnaaGreatDoor
