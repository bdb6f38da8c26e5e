import Derived.Test.YthljcnchaopncaaGreatDoorSy2
import Derived.Laws.StructEq
import Derived.ChangeKeysEq
namespace Go.Proofs.YthljcnchaopncaaGreatDoor
open Go.RowKit
set_option linter.unusedSimpArgs false
@[simp] theorem und_2 : Tryz.prog.underlying 2 = some (.int .i64) := nr (by kernel_rfl)
@[simp] theorem sz_2 : sizeT Tryz.prog 2 = some 1 := nr (by kernel_rfl)
@[simp] theorem ag_2 : aggT Tryz.prog 2 = some false := nr (by kernel_rfl)
@[simp] theorem zero_2 : zeroV Tryz.prog 2 = some (.d (.int .i64 0)) := nr (by kernel_rfl)
@[simp] theorem und_3 : Tryz.prog.underlying 3 = some (.int .i64) := nr (by kernel_rfl)
@[simp] theorem sz_3 : sizeT Tryz.prog 3 = some 1 := nr (by kernel_rfl)
@[simp] theorem ag_3 : aggT Tryz.prog 3 = some false := nr (by kernel_rfl)
@[simp] theorem und_4 : Tryz.prog.underlying 4 = some (.bool) := nr (by kernel_rfl)
@[simp] theorem sz_4 : sizeT Tryz.prog 4 = some 1 := nr (by kernel_rfl)
@[simp] theorem ag_4 : aggT Tryz.prog 4 = some false := nr (by kernel_rfl)
@[simp] theorem und_5 : Tryz.prog.underlying 5 = some (.int .u8) := nr (by kernel_rfl)
@[simp] theorem und_9 : Tryz.prog.underlying 9 = some (.string) := nr (by kernel_rfl)
@[simp] theorem sz_9 : sizeT Tryz.prog 9 = some 1 := nr (by kernel_rfl)
@[simp] theorem ag_9 : aggT Tryz.prog 9 = some false := nr (by kernel_rfl)
@[simp] theorem zero_9 : zeroV Tryz.prog 9 = some (.d (.str [])) := nr (by kernel_rfl)
@[simp] theorem und_21 : Tryz.prog.underlying 21 = some (.int .i32) := nr (by kernel_rfl)
@[simp] theorem sz_23 : sizeT Tryz.prog 23 = some 8 := nr (by kernel_rfl)
@[simp] theorem ag_23 : aggT Tryz.prog 23 = some true := nr (by kernel_rfl)
@[simp] theorem zero_23 : zeroV Tryz.prog 23 = some (.agg [.d (.int .i64 0),.d (.int .i64 0),.d (.int .i64 0),.d (.int .i64 0),.d (.int .i64 0),.d (.int .i64 0),.d (.int .i64 0),.d (.int .i64 0)]) := nr (by kernel_rfl)
@[simp] theorem fld_23_0 : fieldOf Tryz.prog 23 0 = some (0,3) := nr (by kernel_rfl)
@[simp] theorem fld_23_1 : fieldOf Tryz.prog 23 1 = some (1,3) := nr (by kernel_rfl)
@[simp] theorem fld_23_2 : fieldOf Tryz.prog 23 2 = some (2,2) := nr (by kernel_rfl)
@[simp] theorem fld_23_3 : fieldOf Tryz.prog 23 3 = some (3,2) := nr (by kernel_rfl)
@[simp] theorem fld_23_4 : fieldOf Tryz.prog 23 4 = some (4,2) := nr (by kernel_rfl)
@[simp] theorem fld_23_5 : fieldOf Tryz.prog 23 5 = some (5,2) := nr (by kernel_rfl)
@[simp] theorem fld_23_6 : fieldOf Tryz.prog 23 6 = some (6,2) := nr (by kernel_rfl)
@[simp] theorem fld_23_7 : fieldOf Tryz.prog 23 7 = some (7,2) := nr (by kernel_rfl)
@[simp] theorem pl_23 : placesT Tryz.prog 23 = some (.struct [(0,1),(1,1),(2,1),(3,1),(4,1),(5,1),(6,1),(7,1)]) := nr (by kernel_rfl)
@[simp] theorem und_28 : Tryz.prog.underlying 28 = some (.slice 23) := nr (by kernel_rfl)
@[simp] theorem app_28 : appT Tryz.prog 28 = some (23,8) := nr (by kernel_rfl)
@[simp] theorem und_48 : Tryz.prog.underlying 48 = some (.slice 2) := nr (by kernel_rfl)
@[simp] theorem sz_55 : sizeT Tryz.prog 55 = some 1 := nr (by kernel_rfl)
@[simp] theorem ag_55 : aggT Tryz.prog 55 = some false := nr (by kernel_rfl)
@[simp] theorem fld_57_1 : fieldOf Tryz.prog 57 1 = some (1,55) := nr (by kernel_rfl)
@[simp] theorem und_70 : Tryz.prog.underlying 70 = some (.slice 9) := nr (by kernel_rfl)
@[simp] theorem app_70 : appT Tryz.prog 70 = some (9,1) := nr (by kernel_rfl)
@[simp] theorem sz_72 : sizeT Tryz.prog 72 = some 1 := nr (by kernel_rfl)
@[simp] theorem ag_72 : aggT Tryz.prog 72 = some false := nr (by kernel_rfl)
@[simp] theorem zero_72 : zeroV Tryz.prog 72 = some (.d (.other (.pointer none))) := nr (by kernel_rfl)
@[simp] theorem und_73 : Tryz.prog.underlying 73 = some (.slice 72) := nr (by kernel_rfl)
@[simp] theorem und_90 : Tryz.prog.underlying 90 = some (.slice 146) := nr (by kernel_rfl)
@[simp] theorem sz_90 : sizeT Tryz.prog 90 = some 1 := nr (by kernel_rfl)
@[simp] theorem ag_90 : aggT Tryz.prog 90 = some false := nr (by kernel_rfl)
@[simp] theorem app_90 : appT Tryz.prog 90 = some (146,1) := nr (by kernel_rfl)
@[simp] theorem sz_92 : sizeT Tryz.prog 92 = some 2 := nr (by kernel_rfl)
@[simp] theorem ag_92 : aggT Tryz.prog 92 = some true := nr (by kernel_rfl)
@[simp] theorem zero_92 : zeroV Tryz.prog 92 = some (.agg [.d (.bool false),.nil]) := nr (by kernel_rfl)
@[simp] theorem fld_92_0 : fieldOf Tryz.prog 92 0 = some (0,4) := nr (by kernel_rfl)
@[simp] theorem fld_92_1 : fieldOf Tryz.prog 92 1 = some (1,90) := nr (by kernel_rfl)
@[simp] theorem pl_92 : placesT Tryz.prog 92 = some (.struct [(0,1),(1,1)]) := nr (by kernel_rfl)
@[simp] theorem sz_94 : sizeT Tryz.prog 94 = some 4 := nr (by kernel_rfl)
@[simp] theorem ag_94 : aggT Tryz.prog 94 = some true := nr (by kernel_rfl)
@[simp] theorem zero_94 : zeroV Tryz.prog 94 = some (.agg [.d (.bool false),.nil,.d (.bool false),.nil]) := nr (by kernel_rfl)
@[simp] theorem fld_94_0 : fieldOf Tryz.prog 94 0 = some (0,92) := nr (by kernel_rfl)
@[simp] theorem fld_94_1 : fieldOf Tryz.prog 94 1 = some (2,92) := nr (by kernel_rfl)
@[simp] theorem pl_94 : placesT Tryz.prog 94 = some (.struct [(0,2),(2,2)]) := nr (by kernel_rfl)
@[simp] theorem und_104 : Tryz.prog.underlying 104 = some (.int .u64) := nr (by kernel_rfl)
@[simp] theorem und_112 : Tryz.prog.underlying 112 = some (.int .u64) := nr (by kernel_rfl)
@[simp] theorem und_146 : Tryz.prog.underlying 146 = some (.int .u32) := nr (by kernel_rfl)
@[simp] theorem sz_146 : sizeT Tryz.prog 146 = some 1 := nr (by kernel_rfl)
@[simp] theorem ag_146 : aggT Tryz.prog 146 = some false := nr (by kernel_rfl)
@[simp] theorem zero_146 : zeroV Tryz.prog 146 = some (.d (.int .u32 0)) := nr (by kernel_rfl)
theorem eq_23 : EqOk Tryz.prog 23 [.int .i64,.int .i64,.int .i64,.int .i64,.int .i64,.int .i64,.int .i64,.int .i64] := by
 refine ⟨by kernel_rfl,fun xs ys hx hy w=>?_⟩
 obtain ⟨xa0,ra0,ea0,ka0,hx0⟩ := kinds_cons hx
 obtain ⟨a0,rfl⟩ := kind_int ka0
 obtain ⟨xa1,ra1,ea1,ka1,hx1⟩ := kinds_cons hx0
 obtain ⟨a1,rfl⟩ := kind_int ka1
 obtain ⟨xa2,ra2,ea2,ka2,hx2⟩ := kinds_cons hx1
 obtain ⟨a2,rfl⟩ := kind_int ka2
 obtain ⟨xa3,ra3,ea3,ka3,hx3⟩ := kinds_cons hx2
 obtain ⟨a3,rfl⟩ := kind_int ka3
 obtain ⟨xa4,ra4,ea4,ka4,hx4⟩ := kinds_cons hx3
 obtain ⟨a4,rfl⟩ := kind_int ka4
 obtain ⟨xa5,ra5,ea5,ka5,hx5⟩ := kinds_cons hx4
 obtain ⟨a5,rfl⟩ := kind_int ka5
 obtain ⟨xa6,ra6,ea6,ka6,hx6⟩ := kinds_cons hx5
 obtain ⟨a6,rfl⟩ := kind_int ka6
 obtain ⟨xa7,ra7,ea7,ka7,hx7⟩ := kinds_cons hx6
 obtain ⟨a7,rfl⟩ := kind_int ka7
 have za := kinds_nil hx7
 subst za
 subst ea7
 subst ea6
 subst ea5
 subst ea4
 subst ea3
 subst ea2
 subst ea1
 subst ea0
 obtain ⟨xb0,rb0,eb0,kb0,hy0⟩ := kinds_cons hy
 obtain ⟨b0,rfl⟩ := kind_int kb0
 obtain ⟨xb1,rb1,eb1,kb1,hy1⟩ := kinds_cons hy0
 obtain ⟨b1,rfl⟩ := kind_int kb1
 obtain ⟨xb2,rb2,eb2,kb2,hy2⟩ := kinds_cons hy1
 obtain ⟨b2,rfl⟩ := kind_int kb2
 obtain ⟨xb3,rb3,eb3,kb3,hy3⟩ := kinds_cons hy2
 obtain ⟨b3,rfl⟩ := kind_int kb3
 obtain ⟨xb4,rb4,eb4,kb4,hy4⟩ := kinds_cons hy3
 obtain ⟨b4,rfl⟩ := kind_int kb4
 obtain ⟨xb5,rb5,eb5,kb5,hy5⟩ := kinds_cons hy4
 obtain ⟨b5,rfl⟩ := kind_int kb5
 obtain ⟨xb6,rb6,eb6,kb6,hy6⟩ := kinds_cons hy5
 obtain ⟨b6,rfl⟩ := kind_int kb6
 obtain ⟨xb7,rb7,eb7,kb7,hy7⟩ := kinds_cons hy6
 obtain ⟨b7,rfl⟩ := kind_int kb7
 have zb := kinds_nil hy7
 subst zb
 subst eb7
 subst eb6
 subst eb5
 subst eb4
 subst eb3
 subst eb2
 subst eb1
 subst eb0
 have hS : Tryz.prog.underlying 23 = some (.struct (Tryz.prog.fieldsOf 23)) := by kernel_rfl
 simp only [Op.equal,Op.maxDepth]
 rw [show (10000 : Nat) = 9999 + 1 from rfl,run_equalIn_agg w 9999 23 _ _ hS (by kernel_rfl)]
 simp only [Program.fieldsOf,Tryz.underlying23,List.map_cons,List.map_nil,D.val]
 go_simp
 simp only [eqAll,eqD]
 refine Decidable.byCases (p := a0 = b0) (fun h0=>?_) (fun h0=>by simp [h0])
 refine Decidable.byCases (p := a1 = b1) (fun h1=>?_) (fun h1=>by simp [h0,h1])
 refine Decidable.byCases (p := a2 = b2) (fun h2=>?_) (fun h2=>by simp [h0,h1,h2])
 refine Decidable.byCases (p := a3 = b3) (fun h3=>?_) (fun h3=>by simp [h0,h1,h2,h3])
 refine Decidable.byCases (p := a4 = b4) (fun h4=>?_) (fun h4=>by simp [h0,h1,h2,h3,h4])
 refine Decidable.byCases (p := a5 = b5) (fun h5=>?_) (fun h5=>by simp [h0,h1,h2,h3,h4,h5])
 refine Decidable.byCases (p := a6 = b6) (fun h6=>?_) (fun h6=>by simp [h0,h1,h2,h3,h4,h5,h6])
 refine Decidable.byCases (p := a7 = b7) (fun h7=>?_) (fun h7=>by simp [h0,h1,h2,h3,h4,h5,h6,h7])
 simp [h0,h1,h2,h3,h4,h5,h6,h7]
def eqTab : TypeId → Option (List SK)
 | 23=>some [.int .i64,.int .i64,.int .i64,.int .i64,.int .i64,.int .i64,.int .i64,.int .i64]
 | _=>none
theorem eqTab_ok : ∀ t ks,eqTab t = some ks → EqOk Tryz.prog t ks := by
 intro t ks h
 unfold eqTab at h
 split at h
 ·injection h with h; subst h; exact eq_23
 ·cases h
def gP : Pg Tryz.prog := ⟨by kernel_rfl,eqTab,eqTab_ok⟩
@[simp] theorem gE_23 : gP.E 23 = some [.int .i64,.int .i64,.int .i64,.int .i64,.int .i64,.int .i64,.int .i64,.int .i64] := nr rfl
end Go.Proofs.YthljcnchaopncaaGreatDoor
