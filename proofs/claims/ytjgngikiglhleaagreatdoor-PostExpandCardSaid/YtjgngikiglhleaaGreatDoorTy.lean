import Derived.Test.YtjgngikiglhleaaGreatDoorSy2
import Derived.Laws.StructEq
import Derived.ChangeKeysEq
namespace Go.Proofs.YtjgngikiglhleaaGreatDoor
open Go.RowKit
set_option linter.unusedSimpArgs false
@[simp] theorem und_2 : Tryz.prog.underlying 2 = some (.int .i64) := nr (by kernel_rfl)
@[simp] theorem sz_2 : sizeT Tryz.prog 2 = some 1 := nr (by kernel_rfl)
@[simp] theorem ag_2 : aggT Tryz.prog 2 = some false := nr (by kernel_rfl)
@[simp] theorem zero_2 : zeroV Tryz.prog 2 = some (.d (.int .i64 0)) := nr (by kernel_rfl)
@[simp] theorem und_3 : Tryz.prog.underlying 3 = some (.int .i64) := nr (by kernel_rfl)
@[simp] theorem sz_3 : sizeT Tryz.prog 3 = some 1 := nr (by kernel_rfl)
@[simp] theorem ag_3 : aggT Tryz.prog 3 = some false := nr (by kernel_rfl)
@[simp] theorem zero_3 : zeroV Tryz.prog 3 = some (.d (.int .i64 0)) := nr (by kernel_rfl)
@[simp] theorem und_4 : Tryz.prog.underlying 4 = some (.bool) := nr (by kernel_rfl)
@[simp] theorem sz_4 : sizeT Tryz.prog 4 = some 1 := nr (by kernel_rfl)
@[simp] theorem ag_4 : aggT Tryz.prog 4 = some false := nr (by kernel_rfl)
@[simp] theorem zero_4 : zeroV Tryz.prog 4 = some (.d (.bool false)) := nr (by kernel_rfl)
@[simp] theorem und_5 : Tryz.prog.underlying 5 = some (.int .u8) := nr (by kernel_rfl)
@[simp] theorem sz_5 : sizeT Tryz.prog 5 = some 1 := nr (by kernel_rfl)
@[simp] theorem ag_5 : aggT Tryz.prog 5 = some false := nr (by kernel_rfl)
@[simp] theorem zero_5 : zeroV Tryz.prog 5 = some (.d (.int .u8 0)) := nr (by kernel_rfl)
@[simp] theorem und_9 : Tryz.prog.underlying 9 = some (.string) := nr (by kernel_rfl)
@[simp] theorem sz_9 : sizeT Tryz.prog 9 = some 1 := nr (by kernel_rfl)
@[simp] theorem ag_9 : aggT Tryz.prog 9 = some false := nr (by kernel_rfl)
@[simp] theorem zero_9 : zeroV Tryz.prog 9 = some (.d (.str [])) := nr (by kernel_rfl)
@[simp] theorem und_21 : Tryz.prog.underlying 21 = some (.int .i32) := nr (by kernel_rfl)
@[simp] theorem und_22 : Tryz.prog.underlying 22 = some (.slice 60) := nr (by kernel_rfl)
@[simp] theorem sz_22 : sizeT Tryz.prog 22 = some 1 := nr (by kernel_rfl)
@[simp] theorem ag_22 : aggT Tryz.prog 22 = some false := nr (by kernel_rfl)
@[simp] theorem sz_24 : sizeT Tryz.prog 24 = some 3 := nr (by kernel_rfl)
@[simp] theorem ag_24 : aggT Tryz.prog 24 = some true := nr (by kernel_rfl)
@[simp] theorem zero_24 : zeroV Tryz.prog 24 = some (.agg [.d (.int .i64 0),.d (.int .i64 0),.d (.int .i64 0)]) := nr (by kernel_rfl)
@[simp] theorem fld_24_0 : fieldOf Tryz.prog 24 0 = some (0,2) := nr (by kernel_rfl)
@[simp] theorem fld_24_1 : fieldOf Tryz.prog 24 1 = some (1,2) := nr (by kernel_rfl)
@[simp] theorem fld_24_2 : fieldOf Tryz.prog 24 2 = some (2,2) := nr (by kernel_rfl)
@[simp] theorem pl_24 : placesT Tryz.prog 24 = some (.struct [(0,1),(1,1),(2,1)]) := nr (by kernel_rfl)
@[simp] theorem fld_26_0 : fieldOf Tryz.prog 26 0 = some (0,22) := nr (by kernel_rfl)
@[simp] theorem fld_26_1 : fieldOf Tryz.prog 26 1 = some (1,24) := nr (by kernel_rfl)
@[simp] theorem sz_28 : sizeT Tryz.prog 28 = some 4 := nr (by kernel_rfl)
@[simp] theorem ag_28 : aggT Tryz.prog 28 = some true := nr (by kernel_rfl)
@[simp] theorem fld_28_0 : fieldOf Tryz.prog 28 0 = some (0,2) := nr (by kernel_rfl)
@[simp] theorem fld_28_1 : fieldOf Tryz.prog 28 1 = some (1,4) := nr (by kernel_rfl)
@[simp] theorem und_31 : Tryz.prog.underlying 31 = some (.slice 48) := nr (by kernel_rfl)
@[simp] theorem sz_31 : sizeT Tryz.prog 31 = some 1 := nr (by kernel_rfl)
@[simp] theorem ag_31 : aggT Tryz.prog 31 = some false := nr (by kernel_rfl)
@[simp] theorem zero_31 : zeroV Tryz.prog 31 = some (.nil) := nr (by kernel_rfl)
@[simp] theorem app_31 : appT Tryz.prog 31 = some (48,3) := nr (by kernel_rfl)
@[simp] theorem sz_35 : sizeT Tryz.prog 35 = some 4 := nr (by kernel_rfl)
@[simp] theorem ag_35 : aggT Tryz.prog 35 = some true := nr (by kernel_rfl)
@[simp] theorem zero_35 : zeroV Tryz.prog 35 = some (.agg [.d (.int .i64 0),.d (.bool false),.d (.int .i64 0),.d (.int .i64 0)]) := nr (by kernel_rfl)
@[simp] theorem fld_35_0 : fieldOf Tryz.prog 35 0 = some (0,2) := nr (by kernel_rfl)
@[simp] theorem fld_35_1 : fieldOf Tryz.prog 35 1 = some (1,4) := nr (by kernel_rfl)
@[simp] theorem fld_35_2 : fieldOf Tryz.prog 35 2 = some (2,2) := nr (by kernel_rfl)
@[simp] theorem fld_35_3 : fieldOf Tryz.prog 35 3 = some (3,3) := nr (by kernel_rfl)
@[simp] theorem pl_35 : placesT Tryz.prog 35 = some (.struct [(0,1),(1,1),(2,1),(3,1)]) := nr (by kernel_rfl)
@[simp] theorem und_36 : Tryz.prog.underlying 36 = some (.slice 75) := nr (by kernel_rfl)
@[simp] theorem sz_36 : sizeT Tryz.prog 36 = some 1 := nr (by kernel_rfl)
@[simp] theorem ag_36 : aggT Tryz.prog 36 = some false := nr (by kernel_rfl)
@[simp] theorem app_36 : appT Tryz.prog 36 = some (75,2) := nr (by kernel_rfl)
@[simp] theorem sz_38 : sizeT Tryz.prog 38 = some 2 := nr (by kernel_rfl)
@[simp] theorem ag_38 : aggT Tryz.prog 38 = some true := nr (by kernel_rfl)
@[simp] theorem zero_38 : zeroV Tryz.prog 38 = some (.agg [.nil,.nil]) := nr (by kernel_rfl)
@[simp] theorem fld_38_0 : fieldOf Tryz.prog 38 0 = some (0,31) := nr (by kernel_rfl)
@[simp] theorem fld_38_1 : fieldOf Tryz.prog 38 1 = some (1,36) := nr (by kernel_rfl)
@[simp] theorem pl_38 : placesT Tryz.prog 38 = some (.struct [(0,1),(1,1)]) := nr (by kernel_rfl)
@[simp] theorem und_46 : Tryz.prog.underlying 46 = some (.slice 83) := nr (by kernel_rfl)
@[simp] theorem sz_46 : sizeT Tryz.prog 46 = some 1 := nr (by kernel_rfl)
@[simp] theorem ag_46 : aggT Tryz.prog 46 = some false := nr (by kernel_rfl)
@[simp] theorem app_46 : appT Tryz.prog 46 = some (83,2) := nr (by kernel_rfl)
@[simp] theorem sz_48 : sizeT Tryz.prog 48 = some 3 := nr (by kernel_rfl)
@[simp] theorem ag_48 : aggT Tryz.prog 48 = some true := nr (by kernel_rfl)
@[simp] theorem zero_48 : zeroV Tryz.prog 48 = some (.agg [.d (.bool false),.nil,.d (.str [])]) := nr (by kernel_rfl)
@[simp] theorem fld_48_0 : fieldOf Tryz.prog 48 0 = some (0,4) := nr (by kernel_rfl)
@[simp] theorem fld_48_1 : fieldOf Tryz.prog 48 1 = some (1,46) := nr (by kernel_rfl)
@[simp] theorem fld_48_2 : fieldOf Tryz.prog 48 2 = some (2,9) := nr (by kernel_rfl)
@[simp] theorem pl_48 : placesT Tryz.prog 48 = some (.struct [(0,1),(1,1),(2,1)]) := nr (by kernel_rfl)
@[simp] theorem sz_52 : sizeT Tryz.prog 52 = some 2 := nr (by kernel_rfl)
@[simp] theorem ag_52 : aggT Tryz.prog 52 = some true := nr (by kernel_rfl)
@[simp] theorem fld_52_0 : fieldOf Tryz.prog 52 0 = some (0,2) := nr (by kernel_rfl)
@[simp] theorem fld_52_1 : fieldOf Tryz.prog 52 1 = some (1,2) := nr (by kernel_rfl)
@[simp] theorem sz_54 : sizeT Tryz.prog 54 = some 7 := nr (by kernel_rfl)
@[simp] theorem ag_54 : aggT Tryz.prog 54 = some true := nr (by kernel_rfl)
@[simp] theorem zero_54 : zeroV Tryz.prog 54 = some (.agg [.d (.int .i64 0),.d (.int .i64 0),.d (.int .i64 0),.d (.int .i64 0),.d (.int .i64 0),.d (.int .i64 0),.d (.int .i64 0)]) := nr (by kernel_rfl)
@[simp] theorem fld_54_0 : fieldOf Tryz.prog 54 0 = some (0,3) := nr (by kernel_rfl)
@[simp] theorem fld_54_1 : fieldOf Tryz.prog 54 1 = some (1,24) := nr (by kernel_rfl)
@[simp] theorem fld_54_2 : fieldOf Tryz.prog 54 2 = some (4,52) := nr (by kernel_rfl)
@[simp] theorem fld_54_3 : fieldOf Tryz.prog 54 3 = some (6,2) := nr (by kernel_rfl)
@[simp] theorem pl_54 : placesT Tryz.prog 54 = some (.struct [(0,1),(1,3),(4,2),(6,1)]) := nr (by kernel_rfl)
@[simp] theorem und_58 : Tryz.prog.underlying 58 = some (.slice 54) := nr (by kernel_rfl)
@[simp] theorem sz_58 : sizeT Tryz.prog 58 = some 1 := nr (by kernel_rfl)
@[simp] theorem ag_58 : aggT Tryz.prog 58 = some false := nr (by kernel_rfl)
@[simp] theorem sz_60 : sizeT Tryz.prog 60 = some 2 := nr (by kernel_rfl)
@[simp] theorem ag_60 : aggT Tryz.prog 60 = some true := nr (by kernel_rfl)
@[simp] theorem zero_60 : zeroV Tryz.prog 60 = some (.agg [.d (.int .i64 0),.nil]) := nr (by kernel_rfl)
@[simp] theorem fld_60_0 : fieldOf Tryz.prog 60 0 = some (0,3) := nr (by kernel_rfl)
@[simp] theorem fld_60_1 : fieldOf Tryz.prog 60 1 = some (1,58) := nr (by kernel_rfl)
@[simp] theorem sz_64 : sizeT Tryz.prog 64 = some 8 := nr (by kernel_rfl)
@[simp] theorem ag_64 : aggT Tryz.prog 64 = some true := nr (by kernel_rfl)
@[simp] theorem zero_64 : zeroV Tryz.prog 64 = some (.agg [.d (.int .i64 0),.d (.int .i64 0),.d (.int .i64 0),.d (.int .i64 0),.d (.int .i64 0),.d (.int .i64 0),.d (.int .i64 0),.d (.int .i64 0)]) := nr (by kernel_rfl)
@[simp] theorem fld_64_0 : fieldOf Tryz.prog 64 0 = some (0,2) := nr (by kernel_rfl)
@[simp] theorem fld_64_1 : fieldOf Tryz.prog 64 1 = some (1,2) := nr (by kernel_rfl)
@[simp] theorem fld_64_2 : fieldOf Tryz.prog 64 2 = some (2,2) := nr (by kernel_rfl)
@[simp] theorem fld_64_3 : fieldOf Tryz.prog 64 3 = some (3,2) := nr (by kernel_rfl)
@[simp] theorem fld_64_4 : fieldOf Tryz.prog 64 4 = some (4,2) := nr (by kernel_rfl)
@[simp] theorem fld_64_5 : fieldOf Tryz.prog 64 5 = some (5,2) := nr (by kernel_rfl)
@[simp] theorem fld_64_6 : fieldOf Tryz.prog 64 6 = some (6,2) := nr (by kernel_rfl)
@[simp] theorem fld_64_7 : fieldOf Tryz.prog 64 7 = some (7,2) := nr (by kernel_rfl)
@[simp] theorem pl_64 : placesT Tryz.prog 64 = some (.struct [(0,1),(1,1),(2,1),(3,1),(4,1),(5,1),(6,1),(7,1)]) := nr (by kernel_rfl)
@[simp] theorem sz_75 : sizeT Tryz.prog 75 = some 2 := nr (by kernel_rfl)
@[simp] theorem ag_75 : aggT Tryz.prog 75 = some true := nr (by kernel_rfl)
@[simp] theorem zero_75 : zeroV Tryz.prog 75 = some (.agg [.d (.int .i64 0),.nil]) := nr (by kernel_rfl)
@[simp] theorem fld_75_0 : fieldOf Tryz.prog 75 0 = some (0,2) := nr (by kernel_rfl)
@[simp] theorem fld_75_1 : fieldOf Tryz.prog 75 1 = some (1,31) := nr (by kernel_rfl)
@[simp] theorem pl_75 : placesT Tryz.prog 75 = some (.struct [(0,1),(1,1)]) := nr (by kernel_rfl)
@[simp] theorem sz_83 : sizeT Tryz.prog 83 = some 2 := nr (by kernel_rfl)
@[simp] theorem ag_83 : aggT Tryz.prog 83 = some true := nr (by kernel_rfl)
@[simp] theorem zero_83 : zeroV Tryz.prog 83 = some (.agg [.d (.int .u8 0),.d (.int .i64 0)]) := nr (by kernel_rfl)
@[simp] theorem fld_83_0 : fieldOf Tryz.prog 83 0 = some (0,5) := nr (by kernel_rfl)
@[simp] theorem fld_83_1 : fieldOf Tryz.prog 83 1 = some (1,2) := nr (by kernel_rfl)
@[simp] theorem pl_83 : placesT Tryz.prog 83 = some (.struct [(0,1),(1,1)]) := nr (by kernel_rfl)
@[simp] theorem und_90 : Tryz.prog.underlying 90 = some (.array 5 2) := nr (by kernel_rfl)
@[simp] theorem und_93 : Tryz.prog.underlying 93 = some (.slice 2) := nr (by kernel_rfl)
@[simp] theorem app_93 : appT Tryz.prog 93 = some (2,1) := nr (by kernel_rfl)
@[simp] theorem und_115 : Tryz.prog.underlying 115 = some (.map 2 31) := nr (by kernel_rfl)
@[simp] theorem sz_115 : sizeT Tryz.prog 115 = some 1 := nr (by kernel_rfl)
@[simp] theorem ag_115 : aggT Tryz.prog 115 = some false := nr (by kernel_rfl)
@[simp] theorem und_116 : Tryz.prog.underlying 116 = some (.map 2 3) := nr (by kernel_rfl)
@[simp] theorem sz_116 : sizeT Tryz.prog 116 = some 1 := nr (by kernel_rfl)
@[simp] theorem ag_116 : aggT Tryz.prog 116 = some false := nr (by kernel_rfl)
@[simp] theorem und_117 : Tryz.prog.underlying 117 = some (.map 2 2) := nr (by kernel_rfl)
@[simp] theorem sz_117 : sizeT Tryz.prog 117 = some 1 := nr (by kernel_rfl)
@[simp] theorem ag_117 : aggT Tryz.prog 117 = some false := nr (by kernel_rfl)
@[simp] theorem zero_119 : zeroV Tryz.prog 119 = some (.agg [.d (.other (.map none)),.d (.other (.map none)),.d (.other (.map none)),.d (.other (.map none)),.d (.other (.map none))]) := nr (by kernel_rfl)
@[simp] theorem fld_119_0 : fieldOf Tryz.prog 119 0 = some (0,115) := nr (by kernel_rfl)
@[simp] theorem fld_119_1 : fieldOf Tryz.prog 119 1 = some (1,116) := nr (by kernel_rfl)
@[simp] theorem fld_119_2 : fieldOf Tryz.prog 119 2 = some (2,116) := nr (by kernel_rfl)
@[simp] theorem fld_119_3 : fieldOf Tryz.prog 119 3 = some (3,117) := nr (by kernel_rfl)
@[simp] theorem fld_119_4 : fieldOf Tryz.prog 119 4 = some (4,115) := nr (by kernel_rfl)
@[simp] theorem pl_119 : placesT Tryz.prog 119 = some (.struct [(0,1),(1,1),(2,1),(3,1),(4,1)]) := nr (by kernel_rfl)
@[simp] theorem und_125 : Tryz.prog.underlying 125 = some (.int .u64) := nr (by kernel_rfl)
@[simp] theorem und_130 : Tryz.prog.underlying 130 = some (.slice 5) := nr (by kernel_rfl)
@[simp] theorem sz_130 : sizeT Tryz.prog 130 = some 1 := nr (by kernel_rfl)
@[simp] theorem ag_130 : aggT Tryz.prog 130 = some false := nr (by kernel_rfl)
@[simp] theorem app_130 : appT Tryz.prog 130 = some (5,1) := nr (by kernel_rfl)
@[simp] theorem fld_132_1 : fieldOf Tryz.prog 132 1 = some (1,130) := nr (by kernel_rfl)
@[simp] theorem und_142 : Tryz.prog.underlying 142 = some (.slice 31) := nr (by kernel_rfl)
@[simp] theorem app_142 : appT Tryz.prog 142 = some (31,1) := nr (by kernel_rfl)
@[simp] theorem und_145 : Tryz.prog.underlying 145 = some (.map 5 3) := nr (by kernel_rfl)
@[simp] theorem und_148 : Tryz.prog.underlying 148 = some (.slice 9) := nr (by kernel_rfl)
@[simp] theorem app_148 : appT Tryz.prog 148 = some (9,1) := nr (by kernel_rfl)
@[simp] theorem und_151 : Tryz.prog.underlying 151 = some (.map 5 4) := nr (by kernel_rfl)
@[simp] theorem und_152 : Tryz.prog.underlying 152 = some (.map 3 4) := nr (by kernel_rfl)
@[simp] theorem sz_153 : sizeT Tryz.prog 153 = some 1 := nr (by kernel_rfl)
@[simp] theorem ag_153 : aggT Tryz.prog 153 = some false := nr (by kernel_rfl)
@[simp] theorem zero_153 : zeroV Tryz.prog 153 = some (.d (.other (.pointer none))) := nr (by kernel_rfl)
@[simp] theorem und_154 : Tryz.prog.underlying 154 = some (.slice 153) := nr (by kernel_rfl)
theorem eq_64 : EqOk Tryz.prog 64 [.int .i64,.int .i64,.int .i64,.int .i64,.int .i64,.int .i64,.int .i64,.int .i64] := by
 refine ⟨by kernel_rfl,fun xs ys hx hy w=>?_⟩
 obtain ⟨xa0,ra0,ea0,ka0,hx0⟩ := kinds_cons hx
 obtain ⟨a0,rfl⟩ := kind_int ka0
 obtain ⟨xa1,ra1,ea1,ka1,hx1⟩ := kinds_cons hx0
 obtain ⟨a1,rfl⟩ := kind_int ka1
 obtain ⟨xa2,ra2,ea2,ka2,hx2⟩ := kinds_cons hx1
 obtain ⟨a2,rfl⟩ := kind_int ka2
 obtain ⟨xa3,ra3,ea3,ka3,hx3⟩ := kinds_cons hx2
 obtain ⟨a3,rfl⟩ := kind_int ka3
 obtain ⟨xa4,ra4,ea4,ka4,hx4⟩ := kinds_cons hx3
 obtain ⟨a4,rfl⟩ := kind_int ka4
 obtain ⟨xa5,ra5,ea5,ka5,hx5⟩ := kinds_cons hx4
 obtain ⟨a5,rfl⟩ := kind_int ka5
 obtain ⟨xa6,ra6,ea6,ka6,hx6⟩ := kinds_cons hx5
 obtain ⟨a6,rfl⟩ := kind_int ka6
 obtain ⟨xa7,ra7,ea7,ka7,hx7⟩ := kinds_cons hx6
 obtain ⟨a7,rfl⟩ := kind_int ka7
 have za := kinds_nil hx7
 subst za
 subst ea7
 subst ea6
 subst ea5
 subst ea4
 subst ea3
 subst ea2
 subst ea1
 subst ea0
 obtain ⟨xb0,rb0,eb0,kb0,hy0⟩ := kinds_cons hy
 obtain ⟨b0,rfl⟩ := kind_int kb0
 obtain ⟨xb1,rb1,eb1,kb1,hy1⟩ := kinds_cons hy0
 obtain ⟨b1,rfl⟩ := kind_int kb1
 obtain ⟨xb2,rb2,eb2,kb2,hy2⟩ := kinds_cons hy1
 obtain ⟨b2,rfl⟩ := kind_int kb2
 obtain ⟨xb3,rb3,eb3,kb3,hy3⟩ := kinds_cons hy2
 obtain ⟨b3,rfl⟩ := kind_int kb3
 obtain ⟨xb4,rb4,eb4,kb4,hy4⟩ := kinds_cons hy3
 obtain ⟨b4,rfl⟩ := kind_int kb4
 obtain ⟨xb5,rb5,eb5,kb5,hy5⟩ := kinds_cons hy4
 obtain ⟨b5,rfl⟩ := kind_int kb5
 obtain ⟨xb6,rb6,eb6,kb6,hy6⟩ := kinds_cons hy5
 obtain ⟨b6,rfl⟩ := kind_int kb6
 obtain ⟨xb7,rb7,eb7,kb7,hy7⟩ := kinds_cons hy6
 obtain ⟨b7,rfl⟩ := kind_int kb7
 have zb := kinds_nil hy7
 subst zb
 subst eb7
 subst eb6
 subst eb5
 subst eb4
 subst eb3
 subst eb2
 subst eb1
 subst eb0
 have hS : Tryz.prog.underlying 64 = some (.struct (Tryz.prog.fieldsOf 64)) := by kernel_rfl
 simp only [Op.equal,Op.maxDepth]
 rw [show (10000 : Nat) = 9999 + 1 from rfl,run_equalIn_agg w 9999 64 _ _ hS (by kernel_rfl)]
 simp only [Program.fieldsOf,Tryz.underlying64,List.map_cons,List.map_nil,D.val]
 go_simp
 simp only [eqAll,eqD]
 refine Decidable.byCases (p := a0 = b0) (fun h0=>?_) (fun h0=>by simp [h0])
 refine Decidable.byCases (p := a1 = b1) (fun h1=>?_) (fun h1=>by simp [h0,h1])
 refine Decidable.byCases (p := a2 = b2) (fun h2=>?_) (fun h2=>by simp [h0,h1,h2])
 refine Decidable.byCases (p := a3 = b3) (fun h3=>?_) (fun h3=>by simp [h0,h1,h2,h3])
 refine Decidable.byCases (p := a4 = b4) (fun h4=>?_) (fun h4=>by simp [h0,h1,h2,h3,h4])
 refine Decidable.byCases (p := a5 = b5) (fun h5=>?_) (fun h5=>by simp [h0,h1,h2,h3,h4,h5])
 refine Decidable.byCases (p := a6 = b6) (fun h6=>?_) (fun h6=>by simp [h0,h1,h2,h3,h4,h5,h6])
 refine Decidable.byCases (p := a7 = b7) (fun h7=>?_) (fun h7=>by simp [h0,h1,h2,h3,h4,h5,h6,h7])
 simp [h0,h1,h2,h3,h4,h5,h6,h7]
theorem eq_83 : EqOk Tryz.prog 83 [.int .u8,.int .i64] := by
 refine ⟨by kernel_rfl,fun xs ys hx hy w=>?_⟩
 obtain ⟨xa0,ra0,ea0,ka0,hx0⟩ := kinds_cons hx
 obtain ⟨a0,rfl⟩ := kind_int ka0
 obtain ⟨xa1,ra1,ea1,ka1,hx1⟩ := kinds_cons hx0
 obtain ⟨a1,rfl⟩ := kind_int ka1
 have za := kinds_nil hx1
 subst za
 subst ea1
 subst ea0
 obtain ⟨xb0,rb0,eb0,kb0,hy0⟩ := kinds_cons hy
 obtain ⟨b0,rfl⟩ := kind_int kb0
 obtain ⟨xb1,rb1,eb1,kb1,hy1⟩ := kinds_cons hy0
 obtain ⟨b1,rfl⟩ := kind_int kb1
 have zb := kinds_nil hy1
 subst zb
 subst eb1
 subst eb0
 have hS : Tryz.prog.underlying 83 = some (.struct (Tryz.prog.fieldsOf 83)) := by kernel_rfl
 simp only [Op.equal,Op.maxDepth]
 rw [show (10000 : Nat) = 9999 + 1 from rfl,run_equalIn_agg w 9999 83 _ _ hS (by kernel_rfl)]
 simp only [Program.fieldsOf,Tryz.underlying83,List.map_cons,List.map_nil,D.val]
 go_simp
 simp only [eqAll,eqD]
 refine Decidable.byCases (p := a0 = b0) (fun h0=>?_) (fun h0=>by simp [h0])
 refine Decidable.byCases (p := a1 = b1) (fun h1=>?_) (fun h1=>by simp [h0,h1])
 simp [h0,h1]
def eqTab : TypeId → Option (List SK)
 | 64=>some [.int .i64,.int .i64,.int .i64,.int .i64,.int .i64,.int .i64,.int .i64,.int .i64]
 | 83=>some [.int .u8,.int .i64]
 | _=>none
theorem eqTab_ok : ∀ t ks,eqTab t = some ks → EqOk Tryz.prog t ks := by
 intro t ks h
 unfold eqTab at h
 split at h
 ·injection h with h; subst h; exact eq_64
 ·injection h with h; subst h; exact eq_83
 ·cases h
def gP : Pg Tryz.prog := ⟨by kernel_rfl,eqTab,eqTab_ok⟩
@[simp] theorem gE_64 : gP.E 64 = some [.int .i64,.int .i64,.int .i64,.int .i64,.int .i64,.int .i64,.int .i64,.int .i64] := nr rfl
@[simp] theorem gE_83 : gP.E 83 = some [.int .u8,.int .i64] := nr rfl
end Go.Proofs.YtjgngikiglhleaaGreatDoor
