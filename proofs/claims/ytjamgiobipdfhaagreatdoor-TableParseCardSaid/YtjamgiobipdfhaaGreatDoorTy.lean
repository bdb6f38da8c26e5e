import Derived.Test.YtjamgiobipdfhaaGreatDoorSy2
import Derived.Laws.StructEq
import Derived.ChangeKeysEq
open Bool renaming true_and → zC,false_eq_true → zH,not_false → zK,false_and → zL,not_true → zP
open List renaming extract_eq_take_drop → zD,extract_toArray → zE,drop_succ_cons → zF,take_succ_cons → zG,drop_zero → zI,take_zero → zJ,map_cons → zS,map_nil → zT
open Nat renaming reduceMul → zM,reduceAdd → zN,reduceSub → zO,zero_add → zQ,sub_zero → zR
namespace Go.Proofs.YtjamgiobipdfhaaGreatDoor
open Go.RowKit
set_option linter.unusedSimpArgs false
@[simp] theorem und_2 : Tryz.prog.underlying 2 = some (.int .i64) := nr (by kernel_rfl)
@[simp] theorem sz_2 : sizeT Tryz.prog 2 = some 1 := nr (by kernel_rfl)
@[simp] theorem ag_2 : aggT Tryz.prog 2 = some false := nr (by kernel_rfl)
@[simp] theorem zero_2 : zeroV Tryz.prog 2 = some (.d (.int .i64 0)) := nr (by kernel_rfl)
@[simp] theorem und_3 : Tryz.prog.underlying 3 = some (.int .i64) := nr (by kernel_rfl)
@[simp] theorem und_4 : Tryz.prog.underlying 4 = some (.bool) := nr (by kernel_rfl)
@[simp] theorem sz_4 : sizeT Tryz.prog 4 = some 1 := nr (by kernel_rfl)
@[simp] theorem ag_4 : aggT Tryz.prog 4 = some false := nr (by kernel_rfl)
@[simp] theorem und_5 : Tryz.prog.underlying 5 = some (.int .u8) := nr (by kernel_rfl)
@[simp] theorem sz_5 : sizeT Tryz.prog 5 = some 1 := nr (by kernel_rfl)
@[simp] theorem zero_5 : zeroV Tryz.prog 5 = some (.d (.int .u8 0)) := nr (by kernel_rfl)
@[simp] theorem und_9 : Tryz.prog.underlying 9 = some (.string) := nr (by kernel_rfl)
@[simp] theorem sz_9 : sizeT Tryz.prog 9 = some 1 := nr (by kernel_rfl)
@[simp] theorem ag_9 : aggT Tryz.prog 9 = some false := nr (by kernel_rfl)
@[simp] theorem zero_9 : zeroV Tryz.prog 9 = some (.d (.str [])) := nr (by kernel_rfl)
@[simp] theorem und_21 : Tryz.prog.underlying 21 = some (.int .i32) := nr (by kernel_rfl)
@[simp] theorem sz_23 : sizeT Tryz.prog 23 = some 3 := nr (by kernel_rfl)
@[simp] theorem ag_23 : aggT Tryz.prog 23 = some true := nr (by kernel_rfl)
@[simp] theorem zero_23 : zeroV Tryz.prog 23 = some (.agg [.d (.int .i64 0),.d (.int .i64 0),.d (.int .i64 0)]) := nr (by kernel_rfl)
@[simp] theorem fld_23_0 : fieldOf Tryz.prog 23 0 = some (0,2) := nr (by kernel_rfl)
@[simp] theorem fld_23_1 : fieldOf Tryz.prog 23 1 = some (1,2) := nr (by kernel_rfl)
@[simp] theorem fld_23_2 : fieldOf Tryz.prog 23 2 = some (2,2) := nr (by kernel_rfl)
@[simp] theorem pl_23 : placesT Tryz.prog 23 = some (.struct [(0,1),(1,1),(2,1)]) := nr (by kernel_rfl)
@[simp] theorem und_24 : Tryz.prog.underlying 24 = some (.array 6 23) := nr (by kernel_rfl)
@[simp] theorem sz_24 : sizeT Tryz.prog 24 = some 18 := nr (by kernel_rfl)
@[simp] theorem ag_24 : aggT Tryz.prog 24 = some true := nr (by kernel_rfl)
@[simp] theorem und_25 : Tryz.prog.underlying 25 = some (.slice 68) := nr (by kernel_rfl)
@[simp] theorem sz_25 : sizeT Tryz.prog 25 = some 1 := nr (by kernel_rfl)
@[simp] theorem ag_25 : aggT Tryz.prog 25 = some false := nr (by kernel_rfl)
@[simp] theorem app_25 : appT Tryz.prog 25 = some (68,2) := nr (by kernel_rfl)
@[simp] theorem sz_27 : sizeT Tryz.prog 27 = some 19 := nr (by kernel_rfl)
@[simp] theorem ag_27 : aggT Tryz.prog 27 = some true := nr (by kernel_rfl)
@[simp] theorem zero_27 : zeroV Tryz.prog 27 = some (.agg [.d (.int .i64 0),.d (.int .i64 0),.d (.int .i64 0),.d (.int .i64 0),.d (.int .i64 0),.d (.int .i64 0),.d (.int .i64 0),.d (.int .i64 0),.d (.int .i64 0),.d (.int .i64 0),.d (.int .i64 0),.d (.int .i64 0),.d (.int .i64 0),.d (.int .i64 0),.d (.int .i64 0),.d (.int .i64 0),.d (.int .i64 0),.d (.int .i64 0),.nil]) := nr (by kernel_rfl)
@[simp] theorem fld_27_0 : fieldOf Tryz.prog 27 0 = some (0,24) := nr (by kernel_rfl)
@[simp] theorem fld_27_1 : fieldOf Tryz.prog 27 1 = some (18,25) := nr (by kernel_rfl)
@[simp] theorem pl_27 : placesT Tryz.prog 27 = some (.struct [(0,18),(18,1)]) := nr (by kernel_rfl)
@[simp] theorem und_32 : Tryz.prog.underlying 32 = some (.slice 65) := nr (by kernel_rfl)
@[simp] theorem sz_32 : sizeT Tryz.prog 32 = some 1 := nr (by kernel_rfl)
@[simp] theorem ag_32 : aggT Tryz.prog 32 = some false := nr (by kernel_rfl)
@[simp] theorem app_32 : appT Tryz.prog 32 = some (65,2) := nr (by kernel_rfl)
@[simp] theorem sz_34 : sizeT Tryz.prog 34 = some 19 := nr (by kernel_rfl)
@[simp] theorem ag_34 : aggT Tryz.prog 34 = some true := nr (by kernel_rfl)
@[simp] theorem zero_34 : zeroV Tryz.prog 34 = some (.agg [.d (.int .i64 0),.d (.int .i64 0),.d (.int .i64 0),.d (.int .i64 0),.d (.int .i64 0),.d (.int .i64 0),.d (.int .i64 0),.d (.int .i64 0),.d (.int .i64 0),.d (.int .i64 0),.d (.int .i64 0),.d (.int .i64 0),.d (.int .i64 0),.d (.int .i64 0),.d (.int .i64 0),.d (.int .i64 0),.d (.int .i64 0),.d (.int .i64 0),.nil]) := nr (by kernel_rfl)
@[simp] theorem fld_34_0 : fieldOf Tryz.prog 34 0 = some (0,24) := nr (by kernel_rfl)
@[simp] theorem fld_34_1 : fieldOf Tryz.prog 34 1 = some (18,32) := nr (by kernel_rfl)
@[simp] theorem pl_34 : placesT Tryz.prog 34 = some (.struct [(0,18),(18,1)]) := nr (by kernel_rfl)
@[simp] theorem und_53 : Tryz.prog.underlying 53 = some (.slice 5) := nr (by kernel_rfl)
@[simp] theorem sz_53 : sizeT Tryz.prog 53 = some 1 := nr (by kernel_rfl)
@[simp] theorem ag_53 : aggT Tryz.prog 53 = some false := nr (by kernel_rfl)
@[simp] theorem app_53 : appT Tryz.prog 53 = some (5,1) := nr (by kernel_rfl)
@[simp] theorem fld_55_1 : fieldOf Tryz.prog 55 1 = some (1,53) := nr (by kernel_rfl)
@[simp] theorem und_61 : Tryz.prog.underlying 61 = some (.slice 2) := nr (by kernel_rfl)
@[simp] theorem app_61 : appT Tryz.prog 61 = some (2,1) := nr (by kernel_rfl)
@[simp] theorem sz_65 : sizeT Tryz.prog 65 = some 2 := nr (by kernel_rfl)
@[simp] theorem ag_65 : aggT Tryz.prog 65 = some true := nr (by kernel_rfl)
@[simp] theorem zero_65 : zeroV Tryz.prog 65 = some (.agg [.d (.int .i64 0),.d (.int .i64 0)]) := nr (by kernel_rfl)
@[simp] theorem fld_65_0 : fieldOf Tryz.prog 65 0 = some (0,2) := nr (by kernel_rfl)
@[simp] theorem fld_65_1 : fieldOf Tryz.prog 65 1 = some (1,2) := nr (by kernel_rfl)
@[simp] theorem pl_65 : placesT Tryz.prog 65 = some (.struct [(0,1),(1,1)]) := nr (by kernel_rfl)
@[simp] theorem sz_68 : sizeT Tryz.prog 68 = some 2 := nr (by kernel_rfl)
@[simp] theorem ag_68 : aggT Tryz.prog 68 = some true := nr (by kernel_rfl)
@[simp] theorem zero_68 : zeroV Tryz.prog 68 = some (.agg [.d (.int .i64 0),.d (.int .i64 0)]) := nr (by kernel_rfl)
@[simp] theorem fld_68_0 : fieldOf Tryz.prog 68 0 = some (0,2) := nr (by kernel_rfl)
@[simp] theorem fld_68_1 : fieldOf Tryz.prog 68 1 = some (1,2) := nr (by kernel_rfl)
@[simp] theorem pl_68 : placesT Tryz.prog 68 = some (.struct [(0,1),(1,1)]) := nr (by kernel_rfl)
@[simp] theorem und_70 : Tryz.prog.underlying 70 = some (.slice 9) := nr (by kernel_rfl)
@[simp] theorem app_70 : appT Tryz.prog 70 = some (9,1) := nr (by kernel_rfl)
@[simp] theorem und_88 : Tryz.prog.underlying 88 = some (.slice 23) := nr (by kernel_rfl)
@[simp] theorem und_89 : Tryz.prog.underlying 89 = some (.int .u64) := nr (by kernel_rfl)
@[simp] theorem und_131 : Tryz.prog.underlying 131 = some (.slice 155) := nr (by kernel_rfl)
@[simp] theorem sz_131 : sizeT Tryz.prog 131 = some 1 := nr (by kernel_rfl)
@[simp] theorem ag_131 : aggT Tryz.prog 131 = some false := nr (by kernel_rfl)
@[simp] theorem app_131 : appT Tryz.prog 131 = some (155,1) := nr (by kernel_rfl)
@[simp] theorem sz_133 : sizeT Tryz.prog 133 = some 2 := nr (by kernel_rfl)
@[simp] theorem ag_133 : aggT Tryz.prog 133 = some true := nr (by kernel_rfl)
@[simp] theorem zero_133 : zeroV Tryz.prog 133 = some (.agg [.d (.bool false),.nil]) := nr (by kernel_rfl)
@[simp] theorem fld_133_0 : fieldOf Tryz.prog 133 0 = some (0,4) := nr (by kernel_rfl)
@[simp] theorem fld_133_1 : fieldOf Tryz.prog 133 1 = some (1,131) := nr (by kernel_rfl)
@[simp] theorem pl_133 : placesT Tryz.prog 133 = some (.struct [(0,1),(1,1)]) := nr (by kernel_rfl)
@[simp] theorem sz_135 : sizeT Tryz.prog 135 = some 4 := nr (by kernel_rfl)
@[simp] theorem ag_135 : aggT Tryz.prog 135 = some true := nr (by kernel_rfl)
@[simp] theorem zero_135 : zeroV Tryz.prog 135 = some (.agg [.d (.bool false),.nil,.d (.bool false),.nil]) := nr (by kernel_rfl)
@[simp] theorem fld_135_0 : fieldOf Tryz.prog 135 0 = some (0,133) := nr (by kernel_rfl)
@[simp] theorem fld_135_1 : fieldOf Tryz.prog 135 1 = some (2,133) := nr (by kernel_rfl)
@[simp] theorem pl_135 : placesT Tryz.prog 135 = some (.struct [(0,2),(2,2)]) := nr (by kernel_rfl)
@[simp] theorem und_147 : Tryz.prog.underlying 147 = some (.int .u64) := nr (by kernel_rfl)
@[simp] theorem und_155 : Tryz.prog.underlying 155 = some (.int .u32) := nr (by kernel_rfl)
@[simp] theorem sz_155 : sizeT Tryz.prog 155 = some 1 := nr (by kernel_rfl)
@[simp] theorem ag_155 : aggT Tryz.prog 155 = some false := nr (by kernel_rfl)
@[simp] theorem zero_155 : zeroV Tryz.prog 155 = some (.d (.int .u32 0)) := nr (by kernel_rfl)
theorem eq_23 : EqOk Tryz.prog 23 [.int .i64,.int .i64,.int .i64] := by
 refine ⟨by kernel_rfl,λxs ys hx hy w=>?_⟩
 obtain ⟨xa0,ra0,ea0,ka0,hx0⟩ := kinds_cons hx
 obtain ⟨a0,rfl⟩ := kind_int ka0
 obtain ⟨xa1,ra1,ea1,ka1,hx1⟩ := kinds_cons hx0
 obtain ⟨a1,rfl⟩ := kind_int ka1
 obtain ⟨xa2,ra2,ea2,ka2,hx2⟩ := kinds_cons hx1
 obtain ⟨a2,rfl⟩ := kind_int ka2
 have za := kinds_nil hx2
 subst za
 subst ea2
 subst ea1
 subst ea0
 obtain ⟨xb0,rb0,eb0,kb0,hy0⟩ := kinds_cons hy
 obtain ⟨b0,rfl⟩ := kind_int kb0
 obtain ⟨xb1,rb1,eb1,kb1,hy1⟩ := kinds_cons hy0
 obtain ⟨b1,rfl⟩ := kind_int kb1
 obtain ⟨xb2,rb2,eb2,kb2,hy2⟩ := kinds_cons hy1
 obtain ⟨b2,rfl⟩ := kind_int kb2
 have zb := kinds_nil hy2
 subst zb
 subst eb2
 subst eb1
 subst eb0
 have hS : Tryz.prog.underlying 23 = some (.struct (Tryz.prog.fieldsOf 23)) := by kernel_rfl
 simp only [Op.equal,Op.maxDepth]
 rw [show (10000 : Nat) = 9999 + 1 from rfl,run_equalIn_agg w 9999 23 _ _ hS (by kernel_rfl)]
 simp only [Program.fieldsOf,Tryz.underlying23,zS,zT,D.val]
 go_simp
 simp only [eqAll,eqD]
 refine Decidable.byCases (p := a0 = b0) (λh0=>?_) (λh0=>by simp [h0])
 refine Decidable.byCases (p := a1 = b1) (λh1=>?_) (λh1=>by simp [h0,h1])
 refine Decidable.byCases (p := a2 = b2) (λh2=>?_) (λh2=>by simp [h0,h1,h2])
 simp [h0,h1,h2]
theorem eq_68 : EqOk Tryz.prog 68 [.int .i64,.int .i64] := by
 refine ⟨by kernel_rfl,λxs ys hx hy w=>?_⟩
 obtain ⟨xa0,ra0,ea0,ka0,hx0⟩ := kinds_cons hx
 obtain ⟨a0,rfl⟩ := kind_int ka0
 obtain ⟨xa1,ra1,ea1,ka1,hx1⟩ := kinds_cons hx0
 obtain ⟨a1,rfl⟩ := kind_int ka1
 have za := kinds_nil hx1
 subst za
 subst ea1
 subst ea0
 obtain ⟨xb0,rb0,eb0,kb0,hy0⟩ := kinds_cons hy
 obtain ⟨b0,rfl⟩ := kind_int kb0
 obtain ⟨xb1,rb1,eb1,kb1,hy1⟩ := kinds_cons hy0
 obtain ⟨b1,rfl⟩ := kind_int kb1
 have zb := kinds_nil hy1
 subst zb
 subst eb1
 subst eb0
 have hS : Tryz.prog.underlying 68 = some (.struct (Tryz.prog.fieldsOf 68)) := by kernel_rfl
 simp only [Op.equal,Op.maxDepth]
 rw [show (10000 : Nat) = 9999 + 1 from rfl,run_equalIn_agg w 9999 68 _ _ hS (by kernel_rfl)]
 simp only [Program.fieldsOf,Tryz.underlying68,zS,zT,D.val]
 go_simp
 simp only [eqAll,eqD]
 refine Decidable.byCases (p := a0 = b0) (λh0=>?_) (λh0=>by simp [h0])
 refine Decidable.byCases (p := a1 = b1) (λh1=>?_) (λh1=>by simp [h0,h1])
 simp [h0,h1]
theorem ein_23 (d : Nat) (a0 a1 a2 b0 b1 b2 : Int) (w : World) : (Op.equalIn (d + 2) 23 (.agg #[.int .i64 a0,.int .i64 a1,.int .i64 a2]) (.agg #[.int .i64 b0,.int .i64 b1,.int .i64 b2])).run Tryz.prog w = .ok ((a0 == b0) && ((a1 == b1) && (a2 == b2))) w := by
 have hS : Tryz.prog.underlying 23 = some (.struct (Tryz.prog.fieldsOf 23)) := by kernel_rfl
 rw [run_equalIn_agg w (d + 1) 23 _ _ hS (by kernel_rfl)]
 simp only [Program.fieldsOf,Tryz.underlying23,zS,zT,D.val]
 go_simp
 refine Decidable.byCases (p := a0 = b0) (λh0=>?_) (λh0=>by simp [h0])
 refine Decidable.byCases (p := a1 = b1) (λh1=>?_) (λh1=>by simp [h0,h1])
 refine Decidable.byCases (p := a2 = b2) (λh2=>?_) (λh2=>by simp [h0,h1,h2])
 simp [h0,h1,h2]
theorem eq_24 : EqOk Tryz.prog 24 [.int .i64,.int .i64,.int .i64,.int .i64,.int .i64,.int .i64,.int .i64,.int .i64,.int .i64,.int .i64,.int .i64,.int .i64,.int .i64,.int .i64,.int .i64,.int .i64,.int .i64,.int .i64] := by
 refine ⟨by kernel_rfl,λxs ys hx hy w=>?_⟩
 obtain ⟨xa0,ra0,ea0,ka0,hx0⟩ := kinds_cons hx
 obtain ⟨a0,rfl⟩ := kind_int ka0
 obtain ⟨xa1,ra1,ea1,ka1,hx1⟩ := kinds_cons hx0
 obtain ⟨a1,rfl⟩ := kind_int ka1
 obtain ⟨xa2,ra2,ea2,ka2,hx2⟩ := kinds_cons hx1
 obtain ⟨a2,rfl⟩ := kind_int ka2
 obtain ⟨xa3,ra3,ea3,ka3,hx3⟩ := kinds_cons hx2
 obtain ⟨a3,rfl⟩ := kind_int ka3
 obtain ⟨xa4,ra4,ea4,ka4,hx4⟩ := kinds_cons hx3
 obtain ⟨a4,rfl⟩ := kind_int ka4
 obtain ⟨xa5,ra5,ea5,ka5,hx5⟩ := kinds_cons hx4
 obtain ⟨a5,rfl⟩ := kind_int ka5
 obtain ⟨xa6,ra6,ea6,ka6,hx6⟩ := kinds_cons hx5
 obtain ⟨a6,rfl⟩ := kind_int ka6
 obtain ⟨xa7,ra7,ea7,ka7,hx7⟩ := kinds_cons hx6
 obtain ⟨a7,rfl⟩ := kind_int ka7
 obtain ⟨xa8,ra8,ea8,ka8,hx8⟩ := kinds_cons hx7
 obtain ⟨a8,rfl⟩ := kind_int ka8
 obtain ⟨xa9,ra9,ea9,ka9,hx9⟩ := kinds_cons hx8
 obtain ⟨a9,rfl⟩ := kind_int ka9
 obtain ⟨xa10,ra10,ea10,ka10,hx10⟩ := kinds_cons hx9
 obtain ⟨a10,rfl⟩ := kind_int ka10
 obtain ⟨xa11,ra11,ea11,ka11,hx11⟩ := kinds_cons hx10
 obtain ⟨a11,rfl⟩ := kind_int ka11
 obtain ⟨xa12,ra12,ea12,ka12,hx12⟩ := kinds_cons hx11
 obtain ⟨a12,rfl⟩ := kind_int ka12
 obtain ⟨xa13,ra13,ea13,ka13,hx13⟩ := kinds_cons hx12
 obtain ⟨a13,rfl⟩ := kind_int ka13
 obtain ⟨xa14,ra14,ea14,ka14,hx14⟩ := kinds_cons hx13
 obtain ⟨a14,rfl⟩ := kind_int ka14
 obtain ⟨xa15,ra15,ea15,ka15,hx15⟩ := kinds_cons hx14
 obtain ⟨a15,rfl⟩ := kind_int ka15
 obtain ⟨xa16,ra16,ea16,ka16,hx16⟩ := kinds_cons hx15
 obtain ⟨a16,rfl⟩ := kind_int ka16
 obtain ⟨xa17,ra17,ea17,ka17,hx17⟩ := kinds_cons hx16
 obtain ⟨a17,rfl⟩ := kind_int ka17
 have za := kinds_nil hx17
 subst za
 subst ea17
 subst ea16
 subst ea15
 subst ea14
 subst ea13
 subst ea12
 subst ea11
 subst ea10
 subst ea9
 subst ea8
 subst ea7
 subst ea6
 subst ea5
 subst ea4
 subst ea3
 subst ea2
 subst ea1
 subst ea0
 obtain ⟨xb0,rb0,eb0,kb0,hy0⟩ := kinds_cons hy
 obtain ⟨b0,rfl⟩ := kind_int kb0
 obtain ⟨xb1,rb1,eb1,kb1,hy1⟩ := kinds_cons hy0
 obtain ⟨b1,rfl⟩ := kind_int kb1
 obtain ⟨xb2,rb2,eb2,kb2,hy2⟩ := kinds_cons hy1
 obtain ⟨b2,rfl⟩ := kind_int kb2
 obtain ⟨xb3,rb3,eb3,kb3,hy3⟩ := kinds_cons hy2
 obtain ⟨b3,rfl⟩ := kind_int kb3
 obtain ⟨xb4,rb4,eb4,kb4,hy4⟩ := kinds_cons hy3
 obtain ⟨b4,rfl⟩ := kind_int kb4
 obtain ⟨xb5,rb5,eb5,kb5,hy5⟩ := kinds_cons hy4
 obtain ⟨b5,rfl⟩ := kind_int kb5
 obtain ⟨xb6,rb6,eb6,kb6,hy6⟩ := kinds_cons hy5
 obtain ⟨b6,rfl⟩ := kind_int kb6
 obtain ⟨xb7,rb7,eb7,kb7,hy7⟩ := kinds_cons hy6
 obtain ⟨b7,rfl⟩ := kind_int kb7
 obtain ⟨xb8,rb8,eb8,kb8,hy8⟩ := kinds_cons hy7
 obtain ⟨b8,rfl⟩ := kind_int kb8
 obtain ⟨xb9,rb9,eb9,kb9,hy9⟩ := kinds_cons hy8
 obtain ⟨b9,rfl⟩ := kind_int kb9
 obtain ⟨xb10,rb10,eb10,kb10,hy10⟩ := kinds_cons hy9
 obtain ⟨b10,rfl⟩ := kind_int kb10
 obtain ⟨xb11,rb11,eb11,kb11,hy11⟩ := kinds_cons hy10
 obtain ⟨b11,rfl⟩ := kind_int kb11
 obtain ⟨xb12,rb12,eb12,kb12,hy12⟩ := kinds_cons hy11
 obtain ⟨b12,rfl⟩ := kind_int kb12
 obtain ⟨xb13,rb13,eb13,kb13,hy13⟩ := kinds_cons hy12
 obtain ⟨b13,rfl⟩ := kind_int kb13
 obtain ⟨xb14,rb14,eb14,kb14,hy14⟩ := kinds_cons hy13
 obtain ⟨b14,rfl⟩ := kind_int kb14
 obtain ⟨xb15,rb15,eb15,kb15,hy15⟩ := kinds_cons hy14
 obtain ⟨b15,rfl⟩ := kind_int kb15
 obtain ⟨xb16,rb16,eb16,kb16,hy16⟩ := kinds_cons hy15
 obtain ⟨b16,rfl⟩ := kind_int kb16
 obtain ⟨xb17,rb17,eb17,kb17,hy17⟩ := kinds_cons hy16
 obtain ⟨b17,rfl⟩ := kind_int kb17
 have zb := kinds_nil hy17
 subst zb
 subst eb17
 subst eb16
 subst eb15
 subst eb14
 subst eb13
 subst eb12
 subst eb11
 subst eb10
 subst eb9
 subst eb8
 subst eb7
 subst eb6
 subst eb5
 subst eb4
 subst eb3
 subst eb2
 subst eb1
 subst eb0
 have hR : eqAll [.int .i64 a0,.int .i64 a1,.int .i64 a2,.int .i64 a3,.int .i64 a4,.int .i64 a5,.int .i64 a6,.int .i64 a7,.int .i64 a8,.int .i64 a9,.int .i64 a10,.int .i64 a11,.int .i64 a12,.int .i64 a13,.int .i64 a14,.int .i64 a15,.int .i64 a16,.int .i64 a17] [.int .i64 b0,.int .i64 b1,.int .i64 b2,.int .i64 b3,.int .i64 b4,.int .i64 b5,.int .i64 b6,.int .i64 b7,.int .i64 b8,.int .i64 b9,.int .i64 b10,.int .i64 b11,.int .i64 b12,.int .i64 b13,.int .i64 b14,.int .i64 b15,.int .i64 b16,.int .i64 b17] = (((a0 == b0) && ((a1 == b1) && (a2 == b2))) && (((a3 == b3) && ((a4 == b4) && (a5 == b5))) && (((a6 == b6) && ((a7 == b7) && (a8 == b8))) && (((a9 == b9) && ((a10 == b10) && (a11 == b11))) && (((a12 == b12) && ((a13 == b13) && (a14 == b14))) && ((a15 == b15) && ((a16 == b16) && (a17 == b17)))))))) := by
  simp only [eqAll,eqD,Bool.and_assoc,Bool.and_true]
 rw [hR]
 clear hR hx hy
 obtain ⟨i,hi⟩ : ∃ i,Tryz.prog.info? 23 = some i := Option.isSome_iff_exists.1 (by kernel_rfl)
 simp only [Op.equal,Op.maxDepth,zS,zT,D.val]
 rw [show (10000 : Nat) = 9999 + 1 from rfl,run_equalIn_array w 9999 _ _ Tryz.underlying24 hi]
 rw [show Tryz.prog.cellsOf 23 = 3 from by kernel_rfl,show List.range 6 = [0,1,2,3,4,5] from rfl]
 have hp : ∀ (W : World) (a : Array Value) (o : Nat),(part 23 a o).run Tryz.prog W = .ok (.agg (a.extract o (o + 3))) W := λW a o=>by simp [part,Tryz.isAgg23,Tryz.sizeOf23]
 simp only [Op.eqItems,Sem.run_bind,zM,hp,Result.andThen_ok,zE,zD,zF,zI,zG,zJ,zN,zO,zQ,zR,show (9999 : Nat) = 9997 + 2 from rfl,ein_23]
 cases g0 : ((a0 == b0) && ((a1 == b1) && (a2 == b2)))
 ·simp only [zK,if_true,Sem.run_pure,zL,zC]
 simp only [zP,zH,if_false,zC]
 simp only [Op.eqItems,Sem.run_bind,zM,hp,Result.andThen_ok,zE,zD,zF,zI,zG,zJ,zN,zO,zQ,zR,show (9999 : Nat) = 9997 + 2 from rfl,ein_23]
 cases g1 : ((a3 == b3) && ((a4 == b4) && (a5 == b5)))
 ·simp only [zK,if_true,Sem.run_pure,zL,zC]
 simp only [zP,zH,if_false,zC]
 simp only [Op.eqItems,Sem.run_bind,zM,hp,Result.andThen_ok,zE,zD,zF,zI,zG,zJ,zN,zO,zQ,zR,show (9999 : Nat) = 9997 + 2 from rfl,ein_23]
 cases g2 : ((a6 == b6) && ((a7 == b7) && (a8 == b8)))
 ·simp only [zK,if_true,Sem.run_pure,zL,zC]
 simp only [zP,zH,if_false,zC]
 simp only [Op.eqItems,Sem.run_bind,zM,hp,Result.andThen_ok,zE,zD,zF,zI,zG,zJ,zN,zO,zQ,zR,show (9999 : Nat) = 9997 + 2 from rfl,ein_23]
 cases g3 : ((a9 == b9) && ((a10 == b10) && (a11 == b11)))
 ·simp only [zK,if_true,Sem.run_pure,zL,zC]
 simp only [zP,zH,if_false,zC]
 simp only [Op.eqItems,Sem.run_bind,zM,hp,Result.andThen_ok,zE,zD,zF,zI,zG,zJ,zN,zO,zQ,zR,show (9999 : Nat) = 9997 + 2 from rfl,ein_23]
 cases g4 : ((a12 == b12) && ((a13 == b13) && (a14 == b14)))
 ·simp only [zK,if_true,Sem.run_pure,zL,zC]
 simp only [zP,zH,if_false,zC]
 simp only [Op.eqItems,Sem.run_bind,zM,hp,Result.andThen_ok,zE,zD,zF,zI,zG,zJ,zN,zO,zQ,zR,show (9999 : Nat) = 9997 + 2 from rfl,ein_23]
 cases g5 : ((a15 == b15) && ((a16 == b16) && (a17 == b17)))
 ·simp only [zK,if_true,Sem.run_pure,zL,zC]
 simp only [Op.eqItems,zP,zH,if_false,zC,Sem.run_pure]
def eqTab : TypeId → Option (List SK)
 | 23=>some [.int .i64,.int .i64,.int .i64]
 | 68=>some [.int .i64,.int .i64]
 | 24=>some [.int .i64,.int .i64,.int .i64,.int .i64,.int .i64,.int .i64,.int .i64,.int .i64,.int .i64,.int .i64,.int .i64,.int .i64,.int .i64,.int .i64,.int .i64,.int .i64,.int .i64,.int .i64]
 | _=>none
theorem eqTab_ok : ∀ t ks,eqTab t = some ks → EqOk Tryz.prog t ks := by
 intro t ks h
 unfold eqTab at h
 split at h
 ·injection h with h; subst h; exact eq_23
 ·injection h with h; subst h; exact eq_68
 ·injection h with h; subst h; exact eq_24
 ·cases h
def gP : Pg Tryz.prog := ⟨by kernel_rfl,eqTab,eqTab_ok⟩
@[simp] theorem gE_23 : gP.E 23 = some [.int .i64,.int .i64,.int .i64] := nr rfl
@[simp] theorem gE_68 : gP.E 68 = some [.int .i64,.int .i64] := nr rfl
@[simp] theorem gE_24 : gP.E 24 = some [.int .i64,.int .i64,.int .i64,.int .i64,.int .i64,.int .i64,.int .i64,.int .i64,.int .i64,.int .i64,.int .i64,.int .i64,.int .i64,.int .i64,.int .i64,.int .i64,.int .i64,.int .i64] := nr rfl
end Go.Proofs.YtjamgiobipdfhaaGreatDoor
