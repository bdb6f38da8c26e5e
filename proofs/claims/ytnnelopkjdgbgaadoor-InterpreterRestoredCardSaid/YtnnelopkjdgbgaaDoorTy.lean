import Derived.Test.YtnnelopkjdgbgaaDoorSy2
import Derived.Laws.StructEq
import Derived.ChangeKeysEq
namespace Go.Proofs.YtnnelopkjdgbgaaDoor
open Go.RowKit
set_option linter.unusedSimpArgs false
@[simp] theorem und_2 : Tryd.prog.underlying 2 = some (.int .i64) := nr (by kernel_rfl)
@[simp] theorem sz_2 : sizeT Tryd.prog 2 = some 1 := nr (by kernel_rfl)
@[simp] theorem ag_2 : aggT Tryd.prog 2 = some false := nr (by kernel_rfl)
@[simp] theorem zero_2 : zeroV Tryd.prog 2 = some (.d (.int .i64 0)) := nr (by kernel_rfl)
@[simp] theorem und_3 : Tryd.prog.underlying 3 = some (.int .i64) := nr (by kernel_rfl)
@[simp] theorem sz_3 : sizeT Tryd.prog 3 = some 1 := nr (by kernel_rfl)
@[simp] theorem ag_3 : aggT Tryd.prog 3 = some false := nr (by kernel_rfl)
@[simp] theorem sz_4 : sizeT Tryd.prog 4 = some 1 := nr (by kernel_rfl)
@[simp] theorem ag_4 : aggT Tryd.prog 4 = some false := nr (by kernel_rfl)
@[simp] theorem zero_4 : zeroV Tryd.prog 4 = some (.d (.bool false)) := nr (by kernel_rfl)
@[simp] theorem und_5 : Tryd.prog.underlying 5 = some (.int .u8) := nr (by kernel_rfl)
@[simp] theorem sz_5 : sizeT Tryd.prog 5 = some 1 := nr (by kernel_rfl)
@[simp] theorem ag_5 : aggT Tryd.prog 5 = some false := nr (by kernel_rfl)
@[simp] theorem und_9 : Tryd.prog.underlying 9 = some (.string) := nr (by kernel_rfl)
@[simp] theorem sz_9 : sizeT Tryd.prog 9 = some 1 := nr (by kernel_rfl)
@[simp] theorem ag_9 : aggT Tryd.prog 9 = some false := nr (by kernel_rfl)
@[simp] theorem und_22 : Tryd.prog.underlying 22 = some (.slice 41) := nr (by kernel_rfl)
@[simp] theorem app_22 : appT Tryd.prog 22 = some (41,3) := nr (by kernel_rfl)
@[simp] theorem sz_24 : sizeT Tryd.prog 24 = some 3 := nr (by kernel_rfl)
@[simp] theorem ag_24 : aggT Tryd.prog 24 = some true := nr (by kernel_rfl)
@[simp] theorem zero_24 : zeroV Tryd.prog 24 = some (.agg [.d (.int .i64 0),.d (.int .i64 0),.d (.int .i64 0)]) := nr (by kernel_rfl)
@[simp] theorem fld_24_0 : fieldOf Tryd.prog 24 0 = some (0,2) := nr (by kernel_rfl)
@[simp] theorem fld_24_1 : fieldOf Tryd.prog 24 1 = some (1,2) := nr (by kernel_rfl)
@[simp] theorem fld_24_2 : fieldOf Tryd.prog 24 2 = some (2,2) := nr (by kernel_rfl)
@[simp] theorem pl_24 : placesT Tryd.prog 24 = some (.struct [(0,1),(1,1),(2,1)]) := nr (by kernel_rfl)
@[simp] theorem und_25 : Tryd.prog.underlying 25 = some (.array 6 24) := nr (by kernel_rfl)
@[simp] theorem sz_25 : sizeT Tryd.prog 25 = some 18 := nr (by kernel_rfl)
@[simp] theorem ag_25 : aggT Tryd.prog 25 = some true := nr (by kernel_rfl)
@[simp] theorem und_26 : Tryd.prog.underlying 26 = some (.slice 72) := nr (by kernel_rfl)
@[simp] theorem sz_26 : sizeT Tryd.prog 26 = some 1 := nr (by kernel_rfl)
@[simp] theorem ag_26 : aggT Tryd.prog 26 = some false := nr (by kernel_rfl)
@[simp] theorem sz_28 : sizeT Tryd.prog 28 = some 19 := nr (by kernel_rfl)
@[simp] theorem ag_28 : aggT Tryd.prog 28 = some true := nr (by kernel_rfl)
@[simp] theorem zero_28 : zeroV Tryd.prog 28 = some (.agg [.d (.int .i64 0),.d (.int .i64 0),.d (.int .i64 0),.d (.int .i64 0),.d (.int .i64 0),.d (.int .i64 0),.d (.int .i64 0),.d (.int .i64 0),.d (.int .i64 0),.d (.int .i64 0),.d (.int .i64 0),.d (.int .i64 0),.d (.int .i64 0),.d (.int .i64 0),.d (.int .i64 0),.d (.int .i64 0),.d (.int .i64 0),.d (.int .i64 0),.nil]) := nr (by kernel_rfl)
@[simp] theorem fld_28_0 : fieldOf Tryd.prog 28 0 = some (0,25) := nr (by kernel_rfl)
@[simp] theorem fld_28_1 : fieldOf Tryd.prog 28 1 = some (18,26) := nr (by kernel_rfl)
@[simp] theorem pl_28 : placesT Tryd.prog 28 = some (.struct [(0,18),(18,1)]) := nr (by kernel_rfl)
@[simp] theorem sz_30 : sizeT Tryd.prog 30 = some 22 := nr (by kernel_rfl)
@[simp] theorem ag_30 : aggT Tryd.prog 30 = some true := nr (by kernel_rfl)
@[simp] theorem fld_30_0 : fieldOf Tryd.prog 30 0 = some (0,28) := nr (by kernel_rfl)
@[simp] theorem fld_30_1 : fieldOf Tryd.prog 30 1 = some (19,24) := nr (by kernel_rfl)
@[simp] theorem sz_34 : sizeT Tryd.prog 34 = some 8 := nr (by kernel_rfl)
@[simp] theorem ag_34 : aggT Tryd.prog 34 = some true := nr (by kernel_rfl)
@[simp] theorem zero_34 : zeroV Tryd.prog 34 = some (.agg [.d (.int .i64 0),.d (.int .i64 0),.d (.int .i64 0),.d (.int .i64 0),.d (.int .i64 0),.d (.int .i64 0),.d (.int .i64 0),.d (.int .i64 0)]) := nr (by kernel_rfl)
@[simp] theorem fld_34_0 : fieldOf Tryd.prog 34 0 = some (0,2) := nr (by kernel_rfl)
@[simp] theorem fld_34_1 : fieldOf Tryd.prog 34 1 = some (1,2) := nr (by kernel_rfl)
@[simp] theorem fld_34_2 : fieldOf Tryd.prog 34 2 = some (2,2) := nr (by kernel_rfl)
@[simp] theorem fld_34_3 : fieldOf Tryd.prog 34 3 = some (3,2) := nr (by kernel_rfl)
@[simp] theorem fld_34_4 : fieldOf Tryd.prog 34 4 = some (4,2) := nr (by kernel_rfl)
@[simp] theorem fld_34_5 : fieldOf Tryd.prog 34 5 = some (5,2) := nr (by kernel_rfl)
@[simp] theorem fld_34_6 : fieldOf Tryd.prog 34 6 = some (6,2) := nr (by kernel_rfl)
@[simp] theorem fld_34_7 : fieldOf Tryd.prog 34 7 = some (7,2) := nr (by kernel_rfl)
@[simp] theorem pl_34 : placesT Tryd.prog 34 = some (.struct [(0,1),(1,1),(2,1),(3,1),(4,1),(5,1),(6,1),(7,1)]) := nr (by kernel_rfl)
@[simp] theorem sz_35 : sizeT Tryd.prog 35 = some 1 := nr (by kernel_rfl)
@[simp] theorem ag_35 : aggT Tryd.prog 35 = some false := nr (by kernel_rfl)
@[simp] theorem und_39 : Tryd.prog.underlying 39 = some (.slice 77) := nr (by kernel_rfl)
@[simp] theorem sz_39 : sizeT Tryd.prog 39 = some 1 := nr (by kernel_rfl)
@[simp] theorem ag_39 : aggT Tryd.prog 39 = some false := nr (by kernel_rfl)
@[simp] theorem app_39 : appT Tryd.prog 39 = some (77,2) := nr (by kernel_rfl)
@[simp] theorem sz_41 : sizeT Tryd.prog 41 = some 3 := nr (by kernel_rfl)
@[simp] theorem ag_41 : aggT Tryd.prog 41 = some true := nr (by kernel_rfl)
@[simp] theorem zero_41 : zeroV Tryd.prog 41 = some (.agg [.d (.bool false),.nil,.d (.str [])]) := nr (by kernel_rfl)
@[simp] theorem fld_41_1 : fieldOf Tryd.prog 41 1 = some (1,39) := nr (by kernel_rfl)
@[simp] theorem fld_41_2 : fieldOf Tryd.prog 41 2 = some (2,9) := nr (by kernel_rfl)
@[simp] theorem pl_41 : placesT Tryd.prog 41 = some (.struct [(0,1),(1,1),(2,1)]) := nr (by kernel_rfl)
@[simp] theorem und_42 : Tryd.prog.underlying 42 = some (.slice 54) := nr (by kernel_rfl)
@[simp] theorem app_42 : appT Tryd.prog 42 = some (54,9) := nr (by kernel_rfl)
@[simp] theorem sz_44 : sizeT Tryd.prog 44 = some 2 := nr (by kernel_rfl)
@[simp] theorem ag_44 : aggT Tryd.prog 44 = some true := nr (by kernel_rfl)
@[simp] theorem zero_44 : zeroV Tryd.prog 44 = some (.agg [.d (.int .i64 0),.d (.int .i64 0)]) := nr (by kernel_rfl)
@[simp] theorem fld_44_0 : fieldOf Tryd.prog 44 0 = some (0,3) := nr (by kernel_rfl)
@[simp] theorem fld_44_1 : fieldOf Tryd.prog 44 1 = some (1,35) := nr (by kernel_rfl)
@[simp] theorem pl_44 : placesT Tryd.prog 44 = some (.struct [(0,1),(1,1)]) := nr (by kernel_rfl)
@[simp] theorem und_47 : Tryd.prog.underlying 47 = some (.slice 73) := nr (by kernel_rfl)
@[simp] theorem sz_47 : sizeT Tryd.prog 47 = some 1 := nr (by kernel_rfl)
@[simp] theorem ag_47 : aggT Tryd.prog 47 = some false := nr (by kernel_rfl)
@[simp] theorem app_47 : appT Tryd.prog 47 = some (73,2) := nr (by kernel_rfl)
@[simp] theorem sz_49 : sizeT Tryd.prog 49 = some 19 := nr (by kernel_rfl)
@[simp] theorem ag_49 : aggT Tryd.prog 49 = some true := nr (by kernel_rfl)
@[simp] theorem zero_49 : zeroV Tryd.prog 49 = some (.agg [.d (.int .i64 0),.d (.int .i64 0),.d (.int .i64 0),.d (.int .i64 0),.d (.int .i64 0),.d (.int .i64 0),.d (.int .i64 0),.d (.int .i64 0),.d (.int .i64 0),.d (.int .i64 0),.d (.int .i64 0),.d (.int .i64 0),.d (.int .i64 0),.d (.int .i64 0),.d (.int .i64 0),.d (.int .i64 0),.d (.int .i64 0),.d (.int .i64 0),.nil]) := nr (by kernel_rfl)
@[simp] theorem fld_49_0 : fieldOf Tryd.prog 49 0 = some (0,25) := nr (by kernel_rfl)
@[simp] theorem fld_49_1 : fieldOf Tryd.prog 49 1 = some (18,47) := nr (by kernel_rfl)
@[simp] theorem pl_49 : placesT Tryd.prog 49 = some (.struct [(0,18),(18,1)]) := nr (by kernel_rfl)
@[simp] theorem sz_54 : sizeT Tryd.prog 54 = some 9 := nr (by kernel_rfl)
@[simp] theorem ag_54 : aggT Tryd.prog 54 = some true := nr (by kernel_rfl)
@[simp] theorem zero_54 : zeroV Tryd.prog 54 = some (.agg [.d (.int .i64 0),.d (.int .i64 0),.d (.int .i64 0),.d (.int .i64 0),.d (.int .i64 0),.d (.int .i64 0),.d (.int .i64 0),.d (.int .i64 0),.d (.int .i64 0)]) := nr (by kernel_rfl)
@[simp] theorem fld_54_1 : fieldOf Tryd.prog 54 1 = some (3,24) := nr (by kernel_rfl)
@[simp] theorem fld_54_4 : fieldOf Tryd.prog 54 4 = some (8,3) := nr (by kernel_rfl)
@[simp] theorem pl_54 : placesT Tryd.prog 54 = some (.struct [(0,3),(3,3),(6,1),(7,1),(8,1)]) := nr (by kernel_rfl)
@[simp] theorem sz_64 : sizeT Tryd.prog 64 = some 7 := nr (by kernel_rfl)
@[simp] theorem ag_64 : aggT Tryd.prog 64 = some true := nr (by kernel_rfl)
@[simp] theorem zero_64 : zeroV Tryd.prog 64 = some (.agg [.d (.int .i64 0),.d (.int .i64 0),.d (.int .i64 0),.d (.int .i64 0),.d (.int .i64 0),.d (.int .i64 0),.d (.bool false)]) := nr (by kernel_rfl)
@[simp] theorem fld_64_0 : fieldOf Tryd.prog 64 0 = some (0,2) := nr (by kernel_rfl)
@[simp] theorem fld_64_1 : fieldOf Tryd.prog 64 1 = some (1,2) := nr (by kernel_rfl)
@[simp] theorem fld_64_2 : fieldOf Tryd.prog 64 2 = some (2,2) := nr (by kernel_rfl)
@[simp] theorem fld_64_3 : fieldOf Tryd.prog 64 3 = some (3,2) := nr (by kernel_rfl)
@[simp] theorem fld_64_4 : fieldOf Tryd.prog 64 4 = some (4,2) := nr (by kernel_rfl)
@[simp] theorem fld_64_5 : fieldOf Tryd.prog 64 5 = some (5,2) := nr (by kernel_rfl)
@[simp] theorem fld_64_6 : fieldOf Tryd.prog 64 6 = some (6,4) := nr (by kernel_rfl)
@[simp] theorem pl_64 : placesT Tryd.prog 64 = some (.struct [(0,1),(1,1),(2,1),(3,1),(4,1),(5,1),(6,1)]) := nr (by kernel_rfl)
@[simp] theorem und_69 : Tryd.prog.underlying 69 = some (.slice 2) := nr (by kernel_rfl)
@[simp] theorem sz_69 : sizeT Tryd.prog 69 = some 1 := nr (by kernel_rfl)
@[simp] theorem ag_69 : aggT Tryd.prog 69 = some false := nr (by kernel_rfl)
@[simp] theorem app_69 : appT Tryd.prog 69 = some (2,1) := nr (by kernel_rfl)
@[simp] theorem sz_72 : sizeT Tryd.prog 72 = some 2 := nr (by kernel_rfl)
@[simp] theorem ag_72 : aggT Tryd.prog 72 = some true := nr (by kernel_rfl)
@[simp] theorem zero_72 : zeroV Tryd.prog 72 = some (.agg [.d (.int .i64 0),.d (.int .i64 0)]) := nr (by kernel_rfl)
@[simp] theorem fld_72_0 : fieldOf Tryd.prog 72 0 = some (0,2) := nr (by kernel_rfl)
@[simp] theorem fld_72_1 : fieldOf Tryd.prog 72 1 = some (1,2) := nr (by kernel_rfl)
@[simp] theorem pl_72 : placesT Tryd.prog 72 = some (.struct [(0,1),(1,1)]) := nr (by kernel_rfl)
@[simp] theorem sz_73 : sizeT Tryd.prog 73 = some 2 := nr (by kernel_rfl)
@[simp] theorem ag_73 : aggT Tryd.prog 73 = some true := nr (by kernel_rfl)
@[simp] theorem zero_73 : zeroV Tryd.prog 73 = some (.agg [.d (.int .i64 0),.d (.int .i64 0)]) := nr (by kernel_rfl)
@[simp] theorem fld_73_0 : fieldOf Tryd.prog 73 0 = some (0,2) := nr (by kernel_rfl)
@[simp] theorem fld_73_1 : fieldOf Tryd.prog 73 1 = some (1,2) := nr (by kernel_rfl)
@[simp] theorem pl_73 : placesT Tryd.prog 73 = some (.struct [(0,1),(1,1)]) := nr (by kernel_rfl)
@[simp] theorem sz_77 : sizeT Tryd.prog 77 = some 2 := nr (by kernel_rfl)
@[simp] theorem ag_77 : aggT Tryd.prog 77 = some true := nr (by kernel_rfl)
@[simp] theorem zero_77 : zeroV Tryd.prog 77 = some (.agg [.d (.int .u8 0),.d (.int .i64 0)]) := nr (by kernel_rfl)
@[simp] theorem fld_77_0 : fieldOf Tryd.prog 77 0 = some (0,5) := nr (by kernel_rfl)
@[simp] theorem fld_77_1 : fieldOf Tryd.prog 77 1 = some (1,2) := nr (by kernel_rfl)
@[simp] theorem pl_77 : placesT Tryd.prog 77 = some (.struct [(0,1),(1,1)]) := nr (by kernel_rfl)
@[simp] theorem und_89 : Tryd.prog.underlying 89 = some (.slice 93) := nr (by kernel_rfl)
@[simp] theorem app_89 : appT Tryd.prog 89 = some (93,4) := nr (by kernel_rfl)
@[simp] theorem sz_93 : sizeT Tryd.prog 93 = some 4 := nr (by kernel_rfl)
@[simp] theorem ag_93 : aggT Tryd.prog 93 = some true := nr (by kernel_rfl)
@[simp] theorem zero_93 : zeroV Tryd.prog 93 = some (.agg [.d (.int .i64 0),.d (.int .i64 0),.d (.int .i64 0),.d (.int .i64 0)]) := nr (by kernel_rfl)
@[simp] theorem fld_93_0 : fieldOf Tryd.prog 93 0 = some (0,24) := nr (by kernel_rfl)
@[simp] theorem fld_93_1 : fieldOf Tryd.prog 93 1 = some (3,2) := nr (by kernel_rfl)
@[simp] theorem pl_93 : placesT Tryd.prog 93 = some (.struct [(0,3),(3,1)]) := nr (by kernel_rfl)
@[simp] theorem und_97 : Tryd.prog.underlying 97 = some (.slice 24) := nr (by kernel_rfl)
@[simp] theorem app_97 : appT Tryd.prog 97 = some (24,3) := nr (by kernel_rfl)
@[simp] theorem und_100 : Tryd.prog.underlying 100 = some (.slice 5) := nr (by kernel_rfl)
@[simp] theorem und_102 : Tryd.prog.underlying 102 = some (.map 5 4) := nr (by kernel_rfl)
@[simp] theorem und_103 : Tryd.prog.underlying 103 = some (.map 3 4) := nr (by kernel_rfl)
@[simp] theorem sz_114 : sizeT Tryd.prog 114 = some 1 := nr (by kernel_rfl)
@[simp] theorem ag_114 : aggT Tryd.prog 114 = some false := nr (by kernel_rfl)
@[simp] theorem zero_114 : zeroV Tryd.prog 114 = some (.d (.other (.pointer none))) := nr (by kernel_rfl)
@[simp] theorem und_115 : Tryd.prog.underlying 115 = some (.slice 114) := nr (by kernel_rfl)
@[simp] theorem sz_122 : sizeT Tryd.prog 122 = some 2 := nr (by kernel_rfl)
@[simp] theorem ag_122 : aggT Tryd.prog 122 = some true := nr (by kernel_rfl)
@[simp] theorem zero_122 : zeroV Tryd.prog 122 = some (.agg [.d (.int .u8 0),.d (.other (.pointer none))]) := nr (by kernel_rfl)
@[simp] theorem fld_122_0 : fieldOf Tryd.prog 122 0 = some (0,5) := nr (by kernel_rfl)
@[simp] theorem fld_122_1 : fieldOf Tryd.prog 122 1 = some (1,114) := nr (by kernel_rfl)
@[simp] theorem pl_122 : placesT Tryd.prog 122 = some (.struct [(0,1),(1,1)]) := nr (by kernel_rfl)
@[simp] theorem und_123 : Tryd.prog.underlying 123 = some (.slice 122) := nr (by kernel_rfl)
@[simp] theorem und_126 : Tryd.prog.underlying 126 = some (.slice 133) := nr (by kernel_rfl)
@[simp] theorem sz_126 : sizeT Tryd.prog 126 = some 1 := nr (by kernel_rfl)
@[simp] theorem ag_126 : aggT Tryd.prog 126 = some false := nr (by kernel_rfl)
@[simp] theorem zero_126 : zeroV Tryd.prog 126 = some (.nil) := nr (by kernel_rfl)
@[simp] theorem app_126 : appT Tryd.prog 126 = some (133,7) := nr (by kernel_rfl)
@[simp] theorem sz_130 : sizeT Tryd.prog 130 = some 2 := nr (by kernel_rfl)
@[simp] theorem ag_130 : aggT Tryd.prog 130 = some true := nr (by kernel_rfl)
@[simp] theorem zero_130 : zeroV Tryd.prog 130 = some (.agg [.d (.int .i64 0),.d (.int .i64 0)]) := nr (by kernel_rfl)
@[simp] theorem fld_130_0 : fieldOf Tryd.prog 130 0 = some (0,2) := nr (by kernel_rfl)
@[simp] theorem fld_130_1 : fieldOf Tryd.prog 130 1 = some (1,2) := nr (by kernel_rfl)
@[simp] theorem pl_130 : placesT Tryd.prog 130 = some (.struct [(0,1),(1,1)]) := nr (by kernel_rfl)
@[simp] theorem und_131 : Tryd.prog.underlying 131 = some (.slice 130) := nr (by kernel_rfl)
@[simp] theorem sz_133 : sizeT Tryd.prog 133 = some 7 := nr (by kernel_rfl)
@[simp] theorem ag_133 : aggT Tryd.prog 133 = some true := nr (by kernel_rfl)
@[simp] theorem zero_133 : zeroV Tryd.prog 133 = some (.agg [.d (.int .i64 0),.d (.int .i64 0),.d (.int .i64 0),.d (.int .i64 0),.d (.int .i64 0),.d (.int .i64 0),.d (.int .i64 0)]) := nr (by kernel_rfl)
@[simp] theorem fld_133_0 : fieldOf Tryd.prog 133 0 = some (0,3) := nr (by kernel_rfl)
@[simp] theorem fld_133_1 : fieldOf Tryd.prog 133 1 = some (1,24) := nr (by kernel_rfl)
@[simp] theorem fld_133_2 : fieldOf Tryd.prog 133 2 = some (4,130) := nr (by kernel_rfl)
@[simp] theorem fld_133_3 : fieldOf Tryd.prog 133 3 = some (6,2) := nr (by kernel_rfl)
@[simp] theorem pl_133 : placesT Tryd.prog 133 = some (.struct [(0,1),(1,3),(4,2),(6,1)]) := nr (by kernel_rfl)
@[simp] theorem und_145 : Tryd.prog.underlying 145 = some (.int .u64) := nr (by kernel_rfl)
@[simp] theorem und_157 : Tryd.prog.underlying 157 = some (.int .u64) := nr (by kernel_rfl)
theorem eq_24 : EqOk Tryd.prog 24 [.int .i64,.int .i64,.int .i64] := by
 refine ⟨by kernel_rfl,fun xs ys hx hy w=>?_⟩
 obtain ⟨xa0,ra0,ea0,ka0,hx0⟩ := kinds_cons hx
 obtain ⟨a0,rfl⟩ := kind_int ka0
 obtain ⟨xa1,ra1,ea1,ka1,hx1⟩ := kinds_cons hx0
 obtain ⟨a1,rfl⟩ := kind_int ka1
 obtain ⟨xa2,ra2,ea2,ka2,hx2⟩ := kinds_cons hx1
 obtain ⟨a2,rfl⟩ := kind_int ka2
 have za := kinds_nil hx2
 subst za
 subst ea2
 subst ea1
 subst ea0
 obtain ⟨xb0,rb0,eb0,kb0,hy0⟩ := kinds_cons hy
 obtain ⟨b0,rfl⟩ := kind_int kb0
 obtain ⟨xb1,rb1,eb1,kb1,hy1⟩ := kinds_cons hy0
 obtain ⟨b1,rfl⟩ := kind_int kb1
 obtain ⟨xb2,rb2,eb2,kb2,hy2⟩ := kinds_cons hy1
 obtain ⟨b2,rfl⟩ := kind_int kb2
 have zb := kinds_nil hy2
 subst zb
 subst eb2
 subst eb1
 subst eb0
 have hS : Tryd.prog.underlying 24 = some (.struct (Tryd.prog.fieldsOf 24)) := by kernel_rfl
 simp only [Op.equal,Op.maxDepth]
 rw [show (10000 : Nat) = 9999 + 1 from rfl,run_equalIn_agg w 9999 24 _ _ hS (by kernel_rfl)]
 simp only [Program.fieldsOf,Tryd.underlying24,List.map_cons,List.map_nil,D.val]
 go_simp
 simp only [eqAll,eqD]
 refine Decidable.byCases (p := a0 = b0) (fun h0=>?_) (fun h0=>by simp [h0])
 refine Decidable.byCases (p := a1 = b1) (fun h1=>?_) (fun h1=>by simp [h0,h1])
 refine Decidable.byCases (p := a2 = b2) (fun h2=>?_) (fun h2=>by simp [h0,h1,h2])
 simp [h0,h1,h2]
theorem eq_34 : EqOk Tryd.prog 34 [.int .i64,.int .i64,.int .i64,.int .i64,.int .i64,.int .i64,.int .i64,.int .i64] := by
 refine ⟨by kernel_rfl,fun xs ys hx hy w=>?_⟩
 obtain ⟨xa0,ra0,ea0,ka0,hx0⟩ := kinds_cons hx
 obtain ⟨a0,rfl⟩ := kind_int ka0
 obtain ⟨xa1,ra1,ea1,ka1,hx1⟩ := kinds_cons hx0
 obtain ⟨a1,rfl⟩ := kind_int ka1
 obtain ⟨xa2,ra2,ea2,ka2,hx2⟩ := kinds_cons hx1
 obtain ⟨a2,rfl⟩ := kind_int ka2
 obtain ⟨xa3,ra3,ea3,ka3,hx3⟩ := kinds_cons hx2
 obtain ⟨a3,rfl⟩ := kind_int ka3
 obtain ⟨xa4,ra4,ea4,ka4,hx4⟩ := kinds_cons hx3
 obtain ⟨a4,rfl⟩ := kind_int ka4
 obtain ⟨xa5,ra5,ea5,ka5,hx5⟩ := kinds_cons hx4
 obtain ⟨a5,rfl⟩ := kind_int ka5
 obtain ⟨xa6,ra6,ea6,ka6,hx6⟩ := kinds_cons hx5
 obtain ⟨a6,rfl⟩ := kind_int ka6
 obtain ⟨xa7,ra7,ea7,ka7,hx7⟩ := kinds_cons hx6
 obtain ⟨a7,rfl⟩ := kind_int ka7
 have za := kinds_nil hx7
 subst za
 subst ea7
 subst ea6
 subst ea5
 subst ea4
 subst ea3
 subst ea2
 subst ea1
 subst ea0
 obtain ⟨xb0,rb0,eb0,kb0,hy0⟩ := kinds_cons hy
 obtain ⟨b0,rfl⟩ := kind_int kb0
 obtain ⟨xb1,rb1,eb1,kb1,hy1⟩ := kinds_cons hy0
 obtain ⟨b1,rfl⟩ := kind_int kb1
 obtain ⟨xb2,rb2,eb2,kb2,hy2⟩ := kinds_cons hy1
 obtain ⟨b2,rfl⟩ := kind_int kb2
 obtain ⟨xb3,rb3,eb3,kb3,hy3⟩ := kinds_cons hy2
 obtain ⟨b3,rfl⟩ := kind_int kb3
 obtain ⟨xb4,rb4,eb4,kb4,hy4⟩ := kinds_cons hy3
 obtain ⟨b4,rfl⟩ := kind_int kb4
 obtain ⟨xb5,rb5,eb5,kb5,hy5⟩ := kinds_cons hy4
 obtain ⟨b5,rfl⟩ := kind_int kb5
 obtain ⟨xb6,rb6,eb6,kb6,hy6⟩ := kinds_cons hy5
 obtain ⟨b6,rfl⟩ := kind_int kb6
 obtain ⟨xb7,rb7,eb7,kb7,hy7⟩ := kinds_cons hy6
 obtain ⟨b7,rfl⟩ := kind_int kb7
 have zb := kinds_nil hy7
 subst zb
 subst eb7
 subst eb6
 subst eb5
 subst eb4
 subst eb3
 subst eb2
 subst eb1
 subst eb0
 have hS : Tryd.prog.underlying 34 = some (.struct (Tryd.prog.fieldsOf 34)) := by kernel_rfl
 simp only [Op.equal,Op.maxDepth]
 rw [show (10000 : Nat) = 9999 + 1 from rfl,run_equalIn_agg w 9999 34 _ _ hS (by kernel_rfl)]
 simp only [Program.fieldsOf,Tryd.underlying34,List.map_cons,List.map_nil,D.val]
 go_simp
 simp only [eqAll,eqD]
 refine Decidable.byCases (p := a0 = b0) (fun h0=>?_) (fun h0=>by simp [h0])
 refine Decidable.byCases (p := a1 = b1) (fun h1=>?_) (fun h1=>by simp [h0,h1])
 refine Decidable.byCases (p := a2 = b2) (fun h2=>?_) (fun h2=>by simp [h0,h1,h2])
 refine Decidable.byCases (p := a3 = b3) (fun h3=>?_) (fun h3=>by simp [h0,h1,h2,h3])
 refine Decidable.byCases (p := a4 = b4) (fun h4=>?_) (fun h4=>by simp [h0,h1,h2,h3,h4])
 refine Decidable.byCases (p := a5 = b5) (fun h5=>?_) (fun h5=>by simp [h0,h1,h2,h3,h4,h5])
 refine Decidable.byCases (p := a6 = b6) (fun h6=>?_) (fun h6=>by simp [h0,h1,h2,h3,h4,h5,h6])
 refine Decidable.byCases (p := a7 = b7) (fun h7=>?_) (fun h7=>by simp [h0,h1,h2,h3,h4,h5,h6,h7])
 simp [h0,h1,h2,h3,h4,h5,h6,h7]
theorem eq_44 : EqOk Tryd.prog 44 [.int .i64,.int .i64] := by
 refine ⟨by kernel_rfl,fun xs ys hx hy w=>?_⟩
 obtain ⟨xa0,ra0,ea0,ka0,hx0⟩ := kinds_cons hx
 obtain ⟨a0,rfl⟩ := kind_int ka0
 obtain ⟨xa1,ra1,ea1,ka1,hx1⟩ := kinds_cons hx0
 obtain ⟨a1,rfl⟩ := kind_int ka1
 have za := kinds_nil hx1
 subst za
 subst ea1
 subst ea0
 obtain ⟨xb0,rb0,eb0,kb0,hy0⟩ := kinds_cons hy
 obtain ⟨b0,rfl⟩ := kind_int kb0
 obtain ⟨xb1,rb1,eb1,kb1,hy1⟩ := kinds_cons hy0
 obtain ⟨b1,rfl⟩ := kind_int kb1
 have zb := kinds_nil hy1
 subst zb
 subst eb1
 subst eb0
 have hS : Tryd.prog.underlying 44 = some (.struct (Tryd.prog.fieldsOf 44)) := by kernel_rfl
 simp only [Op.equal,Op.maxDepth]
 rw [show (10000 : Nat) = 9999 + 1 from rfl,run_equalIn_agg w 9999 44 _ _ hS (by kernel_rfl)]
 simp only [Program.fieldsOf,Tryd.underlying44,List.map_cons,List.map_nil,D.val]
 go_simp
 simp only [eqAll,eqD]
 refine Decidable.byCases (p := a0 = b0) (fun h0=>?_) (fun h0=>by simp [h0])
 refine Decidable.byCases (p := a1 = b1) (fun h1=>?_) (fun h1=>by simp [h0,h1])
 simp [h0,h1]
theorem eq_54 : EqOk Tryd.prog 54 [.int .i64,.int .i64,.int .i64,.int .i64,.int .i64,.int .i64,.int .i64,.int .i64,.int .i64] := by
 refine ⟨by kernel_rfl,fun xs ys hx hy w=>?_⟩
 obtain ⟨xa0,ra0,ea0,ka0,hx0⟩ := kinds_cons hx
 obtain ⟨a0,rfl⟩ := kind_int ka0
 obtain ⟨xa1,ra1,ea1,ka1,hx1⟩ := kinds_cons hx0
 obtain ⟨a1,rfl⟩ := kind_int ka1
 obtain ⟨xa2,ra2,ea2,ka2,hx2⟩ := kinds_cons hx1
 obtain ⟨a2,rfl⟩ := kind_int ka2
 obtain ⟨xa3,ra3,ea3,ka3,hx3⟩ := kinds_cons hx2
 obtain ⟨a3,rfl⟩ := kind_int ka3
 obtain ⟨xa4,ra4,ea4,ka4,hx4⟩ := kinds_cons hx3
 obtain ⟨a4,rfl⟩ := kind_int ka4
 obtain ⟨xa5,ra5,ea5,ka5,hx5⟩ := kinds_cons hx4
 obtain ⟨a5,rfl⟩ := kind_int ka5
 obtain ⟨xa6,ra6,ea6,ka6,hx6⟩ := kinds_cons hx5
 obtain ⟨a6,rfl⟩ := kind_int ka6
 obtain ⟨xa7,ra7,ea7,ka7,hx7⟩ := kinds_cons hx6
 obtain ⟨a7,rfl⟩ := kind_int ka7
 obtain ⟨xa8,ra8,ea8,ka8,hx8⟩ := kinds_cons hx7
 obtain ⟨a8,rfl⟩ := kind_int ka8
 have za := kinds_nil hx8
 subst za
 subst ea8
 subst ea7
 subst ea6
 subst ea5
 subst ea4
 subst ea3
 subst ea2
 subst ea1
 subst ea0
 obtain ⟨xb0,rb0,eb0,kb0,hy0⟩ := kinds_cons hy
 obtain ⟨b0,rfl⟩ := kind_int kb0
 obtain ⟨xb1,rb1,eb1,kb1,hy1⟩ := kinds_cons hy0
 obtain ⟨b1,rfl⟩ := kind_int kb1
 obtain ⟨xb2,rb2,eb2,kb2,hy2⟩ := kinds_cons hy1
 obtain ⟨b2,rfl⟩ := kind_int kb2
 obtain ⟨xb3,rb3,eb3,kb3,hy3⟩ := kinds_cons hy2
 obtain ⟨b3,rfl⟩ := kind_int kb3
 obtain ⟨xb4,rb4,eb4,kb4,hy4⟩ := kinds_cons hy3
 obtain ⟨b4,rfl⟩ := kind_int kb4
 obtain ⟨xb5,rb5,eb5,kb5,hy5⟩ := kinds_cons hy4
 obtain ⟨b5,rfl⟩ := kind_int kb5
 obtain ⟨xb6,rb6,eb6,kb6,hy6⟩ := kinds_cons hy5
 obtain ⟨b6,rfl⟩ := kind_int kb6
 obtain ⟨xb7,rb7,eb7,kb7,hy7⟩ := kinds_cons hy6
 obtain ⟨b7,rfl⟩ := kind_int kb7
 obtain ⟨xb8,rb8,eb8,kb8,hy8⟩ := kinds_cons hy7
 obtain ⟨b8,rfl⟩ := kind_int kb8
 have zb := kinds_nil hy8
 subst zb
 subst eb8
 subst eb7
 subst eb6
 subst eb5
 subst eb4
 subst eb3
 subst eb2
 subst eb1
 subst eb0
 have hS : Tryd.prog.underlying 54 = some (.struct (Tryd.prog.fieldsOf 54)) := by kernel_rfl
 simp only [Op.equal,Op.maxDepth]
 rw [show (10000 : Nat) = 9999 + 1 from rfl,run_equalIn_agg w 9999 54 _ _ hS (by kernel_rfl)]
 simp only [Program.fieldsOf,Tryd.underlying54,List.map_cons,List.map_nil,D.val]
 go_simp
 simp only [eqAll,eqD]
 refine Decidable.byCases (p := a0 = b0) (fun h0=>?_) (fun h0=>by simp [h0])
 refine Decidable.byCases (p := a1 = b1) (fun h1=>?_) (fun h1=>by simp [h0,h1])
 refine Decidable.byCases (p := a2 = b2) (fun h2=>?_) (fun h2=>by simp [h0,h1,h2])
 refine Decidable.byCases (p := a3 = b3) (fun h3=>?_) (fun h3=>by simp [h0,h1,h2,h3])
 refine Decidable.byCases (p := a4 = b4) (fun h4=>?_) (fun h4=>by simp [h0,h1,h2,h3,h4])
 refine Decidable.byCases (p := a5 = b5) (fun h5=>?_) (fun h5=>by simp [h0,h1,h2,h3,h4,h5])
 refine Decidable.byCases (p := a6 = b6) (fun h6=>?_) (fun h6=>by simp [h0,h1,h2,h3,h4,h5,h6])
 refine Decidable.byCases (p := a7 = b7) (fun h7=>?_) (fun h7=>by simp [h0,h1,h2,h3,h4,h5,h6,h7])
 refine Decidable.byCases (p := a8 = b8) (fun h8=>?_) (fun h8=>by simp [h0,h1,h2,h3,h4,h5,h6,h7,h8])
 simp [h0,h1,h2,h3,h4,h5,h6,h7,h8]
theorem eq_64 : EqOk Tryd.prog 64 [.int .i64,.int .i64,.int .i64,.int .i64,.int .i64,.int .i64,.bool] := by
 refine ⟨by kernel_rfl,fun xs ys hx hy w=>?_⟩
 obtain ⟨xa0,ra0,ea0,ka0,hx0⟩ := kinds_cons hx
 obtain ⟨a0,rfl⟩ := kind_int ka0
 obtain ⟨xa1,ra1,ea1,ka1,hx1⟩ := kinds_cons hx0
 obtain ⟨a1,rfl⟩ := kind_int ka1
 obtain ⟨xa2,ra2,ea2,ka2,hx2⟩ := kinds_cons hx1
 obtain ⟨a2,rfl⟩ := kind_int ka2
 obtain ⟨xa3,ra3,ea3,ka3,hx3⟩ := kinds_cons hx2
 obtain ⟨a3,rfl⟩ := kind_int ka3
 obtain ⟨xa4,ra4,ea4,ka4,hx4⟩ := kinds_cons hx3
 obtain ⟨a4,rfl⟩ := kind_int ka4
 obtain ⟨xa5,ra5,ea5,ka5,hx5⟩ := kinds_cons hx4
 obtain ⟨a5,rfl⟩ := kind_int ka5
 obtain ⟨xa6,ra6,ea6,ka6,hx6⟩ := kinds_cons hx5
 obtain ⟨a6,rfl⟩ := kind_bool ka6
 have za := kinds_nil hx6
 subst za
 subst ea6
 subst ea5
 subst ea4
 subst ea3
 subst ea2
 subst ea1
 subst ea0
 obtain ⟨xb0,rb0,eb0,kb0,hy0⟩ := kinds_cons hy
 obtain ⟨b0,rfl⟩ := kind_int kb0
 obtain ⟨xb1,rb1,eb1,kb1,hy1⟩ := kinds_cons hy0
 obtain ⟨b1,rfl⟩ := kind_int kb1
 obtain ⟨xb2,rb2,eb2,kb2,hy2⟩ := kinds_cons hy1
 obtain ⟨b2,rfl⟩ := kind_int kb2
 obtain ⟨xb3,rb3,eb3,kb3,hy3⟩ := kinds_cons hy2
 obtain ⟨b3,rfl⟩ := kind_int kb3
 obtain ⟨xb4,rb4,eb4,kb4,hy4⟩ := kinds_cons hy3
 obtain ⟨b4,rfl⟩ := kind_int kb4
 obtain ⟨xb5,rb5,eb5,kb5,hy5⟩ := kinds_cons hy4
 obtain ⟨b5,rfl⟩ := kind_int kb5
 obtain ⟨xb6,rb6,eb6,kb6,hy6⟩ := kinds_cons hy5
 obtain ⟨b6,rfl⟩ := kind_bool kb6
 have zb := kinds_nil hy6
 subst zb
 subst eb6
 subst eb5
 subst eb4
 subst eb3
 subst eb2
 subst eb1
 subst eb0
 have hS : Tryd.prog.underlying 64 = some (.struct (Tryd.prog.fieldsOf 64)) := by kernel_rfl
 simp only [Op.equal,Op.maxDepth]
 rw [show (10000 : Nat) = 9999 + 1 from rfl,run_equalIn_agg w 9999 64 _ _ hS (by kernel_rfl)]
 simp only [Program.fieldsOf,Tryd.underlying64,List.map_cons,List.map_nil,D.val]
 go_simp
 simp only [eqAll,eqD]
 refine Decidable.byCases (p := a0 = b0) (fun h0=>?_) (fun h0=>by simp [h0])
 refine Decidable.byCases (p := a1 = b1) (fun h1=>?_) (fun h1=>by simp [h0,h1])
 refine Decidable.byCases (p := a2 = b2) (fun h2=>?_) (fun h2=>by simp [h0,h1,h2])
 refine Decidable.byCases (p := a3 = b3) (fun h3=>?_) (fun h3=>by simp [h0,h1,h2,h3])
 refine Decidable.byCases (p := a4 = b4) (fun h4=>?_) (fun h4=>by simp [h0,h1,h2,h3,h4])
 refine Decidable.byCases (p := a5 = b5) (fun h5=>?_) (fun h5=>by simp [h0,h1,h2,h3,h4,h5])
 refine Decidable.byCases (p := a6 = b6) (fun h6=>?_) (fun h6=>by simp [h0,h1,h2,h3,h4,h5,h6])
 simp [h0,h1,h2,h3,h4,h5,h6]
theorem eq_77 : EqOk Tryd.prog 77 [.int .u8,.int .i64] := by
 refine ⟨by kernel_rfl,fun xs ys hx hy w=>?_⟩
 obtain ⟨xa0,ra0,ea0,ka0,hx0⟩ := kinds_cons hx
 obtain ⟨a0,rfl⟩ := kind_int ka0
 obtain ⟨xa1,ra1,ea1,ka1,hx1⟩ := kinds_cons hx0
 obtain ⟨a1,rfl⟩ := kind_int ka1
 have za := kinds_nil hx1
 subst za
 subst ea1
 subst ea0
 obtain ⟨xb0,rb0,eb0,kb0,hy0⟩ := kinds_cons hy
 obtain ⟨b0,rfl⟩ := kind_int kb0
 obtain ⟨xb1,rb1,eb1,kb1,hy1⟩ := kinds_cons hy0
 obtain ⟨b1,rfl⟩ := kind_int kb1
 have zb := kinds_nil hy1
 subst zb
 subst eb1
 subst eb0
 have hS : Tryd.prog.underlying 77 = some (.struct (Tryd.prog.fieldsOf 77)) := by kernel_rfl
 simp only [Op.equal,Op.maxDepth]
 rw [show (10000 : Nat) = 9999 + 1 from rfl,run_equalIn_agg w 9999 77 _ _ hS (by kernel_rfl)]
 simp only [Program.fieldsOf,Tryd.underlying77,List.map_cons,List.map_nil,D.val]
 go_simp
 simp only [eqAll,eqD]
 refine Decidable.byCases (p := a0 = b0) (fun h0=>?_) (fun h0=>by simp [h0])
 refine Decidable.byCases (p := a1 = b1) (fun h1=>?_) (fun h1=>by simp [h0,h1])
 simp [h0,h1]
theorem eq_130 : EqOk Tryd.prog 130 [.int .i64,.int .i64] := by
 refine ⟨by kernel_rfl,fun xs ys hx hy w=>?_⟩
 obtain ⟨xa0,ra0,ea0,ka0,hx0⟩ := kinds_cons hx
 obtain ⟨a0,rfl⟩ := kind_int ka0
 obtain ⟨xa1,ra1,ea1,ka1,hx1⟩ := kinds_cons hx0
 obtain ⟨a1,rfl⟩ := kind_int ka1
 have za := kinds_nil hx1
 subst za
 subst ea1
 subst ea0
 obtain ⟨xb0,rb0,eb0,kb0,hy0⟩ := kinds_cons hy
 obtain ⟨b0,rfl⟩ := kind_int kb0
 obtain ⟨xb1,rb1,eb1,kb1,hy1⟩ := kinds_cons hy0
 obtain ⟨b1,rfl⟩ := kind_int kb1
 have zb := kinds_nil hy1
 subst zb
 subst eb1
 subst eb0
 have hS : Tryd.prog.underlying 130 = some (.struct (Tryd.prog.fieldsOf 130)) := by kernel_rfl
 simp only [Op.equal,Op.maxDepth]
 rw [show (10000 : Nat) = 9999 + 1 from rfl,run_equalIn_agg w 9999 130 _ _ hS (by kernel_rfl)]
 simp only [Program.fieldsOf,Tryd.underlying130,List.map_cons,List.map_nil,D.val]
 go_simp
 simp only [eqAll,eqD]
 refine Decidable.byCases (p := a0 = b0) (fun h0=>?_) (fun h0=>by simp [h0])
 refine Decidable.byCases (p := a1 = b1) (fun h1=>?_) (fun h1=>by simp [h0,h1])
 simp [h0,h1]
def eqTab : TypeId → Option (List SK)
 | 24=>some [.int .i64,.int .i64,.int .i64]
 | 34=>some [.int .i64,.int .i64,.int .i64,.int .i64,.int .i64,.int .i64,.int .i64,.int .i64]
 | 44=>some [.int .i64,.int .i64]
 | 54=>some [.int .i64,.int .i64,.int .i64,.int .i64,.int .i64,.int .i64,.int .i64,.int .i64,.int .i64]
 | 64=>some [.int .i64,.int .i64,.int .i64,.int .i64,.int .i64,.int .i64,.bool]
 | 77=>some [.int .u8,.int .i64]
 | 130=>some [.int .i64,.int .i64]
 | _=>none
theorem eqTab_ok : ∀ t ks,eqTab t = some ks → EqOk Tryd.prog t ks := by
 intro t ks h
 unfold eqTab at h
 split at h
 ·injection h with h; subst h; exact eq_24
 ·injection h with h; subst h; exact eq_34
 ·injection h with h; subst h; exact eq_44
 ·injection h with h; subst h; exact eq_54
 ·injection h with h; subst h; exact eq_64
 ·injection h with h; subst h; exact eq_77
 ·injection h with h; subst h; exact eq_130
 ·cases h
def gP : Pg Tryd.prog := ⟨by kernel_rfl,eqTab,eqTab_ok⟩
@[simp] theorem gE_24 : gP.E 24 = some [.int .i64,.int .i64,.int .i64] := nr rfl
@[simp] theorem gE_44 : gP.E 44 = some [.int .i64,.int .i64] := nr rfl
@[simp] theorem gE_54 : gP.E 54 = some [.int .i64,.int .i64,.int .i64,.int .i64,.int .i64,.int .i64,.int .i64,.int .i64,.int .i64] := nr rfl
@[simp] theorem gE_64 : gP.E 64 = some [.int .i64,.int .i64,.int .i64,.int .i64,.int .i64,.int .i64,.bool] := nr rfl
end Go.Proofs.YtnnelopkjdgbgaaDoor
