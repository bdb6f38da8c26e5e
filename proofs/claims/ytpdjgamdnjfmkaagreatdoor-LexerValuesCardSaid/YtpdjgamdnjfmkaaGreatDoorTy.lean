import Derived.Test.YtpdjgamdnjfmkaaGreatDoorSy2
import Derived.Laws.StructEq
import Derived.ChangeKeysEq
namespace Go.Proofs.YtpdjgamdnjfmkaaGreatDoor
open Go.RowKit
set_option linter.unusedSimpArgs false
@[simp] theorem und_2 : Tryz.prog.underlying 2 = some (.int .i64) := nr (by kernel_rfl)
@[simp] theorem sz_3 : sizeT Tryz.prog 3 = some 1 := nr (by kernel_rfl)
@[simp] theorem ag_3 : aggT Tryz.prog 3 = some false := nr (by kernel_rfl)
@[simp] theorem und_4 : Tryz.prog.underlying 4 = some (.bool) := nr (by kernel_rfl)
@[simp] theorem sz_4 : sizeT Tryz.prog 4 = some 1 := nr (by kernel_rfl)
@[simp] theorem ag_4 : aggT Tryz.prog 4 = some false := nr (by kernel_rfl)
@[simp] theorem und_5 : Tryz.prog.underlying 5 = some (.int .u8) := nr (by kernel_rfl)
@[simp] theorem sz_5 : sizeT Tryz.prog 5 = some 1 := nr (by kernel_rfl)
@[simp] theorem ag_5 : aggT Tryz.prog 5 = some false := nr (by kernel_rfl)
@[simp] theorem zero_5 : zeroV Tryz.prog 5 = some (.d (.int .u8 0)) := nr (by kernel_rfl)
@[simp] theorem und_9 : Tryz.prog.underlying 9 = some (.string) := nr (by kernel_rfl)
@[simp] theorem sz_9 : sizeT Tryz.prog 9 = some 1 := nr (by kernel_rfl)
@[simp] theorem ag_9 : aggT Tryz.prog 9 = some false := nr (by kernel_rfl)
@[simp] theorem und_23 : Tryz.prog.underlying 23 = some (.slice 44) := nr (by kernel_rfl)
@[simp] theorem app_23 : appT Tryz.prog 23 = some (44, 3) := nr (by kernel_rfl)
@[simp] theorem und_27 : Tryz.prog.underlying 27 = some (.slice 45) := nr (by kernel_rfl)
@[simp] theorem sz_44 : sizeT Tryz.prog 44 = some 3 := nr (by kernel_rfl)
@[simp] theorem ag_44 : aggT Tryz.prog 44 = some true := nr (by kernel_rfl)
@[simp] theorem zero_44 : zeroV Tryz.prog 44 = some (.agg [.d (.int .i64 0), .d (.int .i64 0), .d (.str [])]) := nr (by kernel_rfl)
@[simp] theorem fld_44_0 : fieldOf Tryz.prog 44 0 = some (0, 3) := nr (by kernel_rfl)
@[simp] theorem fld_44_2 : fieldOf Tryz.prog 44 2 = some (2, 9) := nr (by kernel_rfl)
@[simp] theorem pl_44 : placesT Tryz.prog 44 = some (.struct [(0, 1), (1, 1), (2, 1)]) := nr (by kernel_rfl)
@[simp] theorem sz_45 : sizeT Tryz.prog 45 = some 3 := nr (by kernel_rfl)
@[simp] theorem ag_45 : aggT Tryz.prog 45 = some true := nr (by kernel_rfl)
@[simp] theorem zero_45 : zeroV Tryz.prog 45 = some (.agg [.d (.int .i64 0), .d (.int .i64 0), .d (.str [])]) := nr (by kernel_rfl)
@[simp] theorem fld_45_0 : fieldOf Tryz.prog 45 0 = some (0, 3) := nr (by kernel_rfl)
@[simp] theorem fld_45_2 : fieldOf Tryz.prog 45 2 = some (2, 9) := nr (by kernel_rfl)
@[simp] theorem pl_45 : placesT Tryz.prog 45 = some (.struct [(0, 1), (1, 1), (2, 1)]) := nr (by kernel_rfl)
@[simp] theorem und_49 : Tryz.prog.underlying 49 = some (.slice 101) := nr (by kernel_rfl)
@[simp] theorem sz_49 : sizeT Tryz.prog 49 = some 1 := nr (by kernel_rfl)
@[simp] theorem ag_49 : aggT Tryz.prog 49 = some false := nr (by kernel_rfl)
@[simp] theorem app_49 : appT Tryz.prog 49 = some (101, 1) := nr (by kernel_rfl)
@[simp] theorem sz_51 : sizeT Tryz.prog 51 = some 2 := nr (by kernel_rfl)
@[simp] theorem ag_51 : aggT Tryz.prog 51 = some true := nr (by kernel_rfl)
@[simp] theorem zero_51 : zeroV Tryz.prog 51 = some (.agg [.d (.bool false), .nil]) := nr (by kernel_rfl)
@[simp] theorem fld_51_0 : fieldOf Tryz.prog 51 0 = some (0, 4) := nr (by kernel_rfl)
@[simp] theorem fld_51_1 : fieldOf Tryz.prog 51 1 = some (1, 49) := nr (by kernel_rfl)
@[simp] theorem pl_51 : placesT Tryz.prog 51 = some (.struct [(0, 1), (1, 1)]) := nr (by kernel_rfl)
@[simp] theorem sz_53 : sizeT Tryz.prog 53 = some 4 := nr (by kernel_rfl)
@[simp] theorem ag_53 : aggT Tryz.prog 53 = some true := nr (by kernel_rfl)
@[simp] theorem zero_53 : zeroV Tryz.prog 53 = some (.agg [.d (.bool false), .nil, .d (.bool false), .nil]) := nr (by kernel_rfl)
@[simp] theorem fld_53_0 : fieldOf Tryz.prog 53 0 = some (0, 51) := nr (by kernel_rfl)
@[simp] theorem fld_53_1 : fieldOf Tryz.prog 53 1 = some (2, 51) := nr (by kernel_rfl)
@[simp] theorem pl_53 : placesT Tryz.prog 53 = some (.struct [(0, 2), (2, 2)]) := nr (by kernel_rfl)
@[simp] theorem und_83 : Tryz.prog.underlying 83 = some (.slice 5) := nr (by kernel_rfl)
@[simp] theorem sz_83 : sizeT Tryz.prog 83 = some 1 := nr (by kernel_rfl)
@[simp] theorem ag_83 : aggT Tryz.prog 83 = some false := nr (by kernel_rfl)
@[simp] theorem app_83 : appT Tryz.prog 83 = some (5, 1) := nr (by kernel_rfl)
@[simp] theorem fld_85_1 : fieldOf Tryz.prog 85 1 = some (1, 83) := nr (by kernel_rfl)
@[simp] theorem und_101 : Tryz.prog.underlying 101 = some (.int .u32) := nr (by kernel_rfl)
@[simp] theorem sz_101 : sizeT Tryz.prog 101 = some 1 := nr (by kernel_rfl)
@[simp] theorem ag_101 : aggT Tryz.prog 101 = some false := nr (by kernel_rfl)
@[simp] theorem zero_101 : zeroV Tryz.prog 101 = some (.d (.int .u32 0)) := nr (by kernel_rfl)
@[simp] theorem und_104 : Tryz.prog.underlying 104 = some (.int .u64) := nr (by kernel_rfl)
theorem eq_44 : EqOk Tryz.prog 44 [.int .i64, .int .i64, .str] := by
 refine ⟨by kernel_rfl, fun xs ys hx hy w => ?_⟩
 obtain ⟨xa0, ra0, ea0, ka0, hx0⟩ := kinds_cons hx
 obtain ⟨a0, rfl⟩ := kind_int ka0
 obtain ⟨xa1, ra1, ea1, ka1, hx1⟩ := kinds_cons hx0
 obtain ⟨a1, rfl⟩ := kind_int ka1
 obtain ⟨xa2, ra2, ea2, ka2, hx2⟩ := kinds_cons hx1
 obtain ⟨a2, rfl⟩ := kind_str ka2
 have za := kinds_nil hx2
 subst za
 subst ea2
 subst ea1
 subst ea0
 obtain ⟨xb0, rb0, eb0, kb0, hy0⟩ := kinds_cons hy
 obtain ⟨b0, rfl⟩ := kind_int kb0
 obtain ⟨xb1, rb1, eb1, kb1, hy1⟩ := kinds_cons hy0
 obtain ⟨b1, rfl⟩ := kind_int kb1
 obtain ⟨xb2, rb2, eb2, kb2, hy2⟩ := kinds_cons hy1
 obtain ⟨b2, rfl⟩ := kind_str kb2
 have zb := kinds_nil hy2
 subst zb
 subst eb2
 subst eb1
 subst eb0
 have hS : Tryz.prog.underlying 44 = some (.struct (Tryz.prog.fieldsOf 44)) := by kernel_rfl
 simp only [Op.equal, Op.maxDepth]
 rw [show (10000 : Nat) = 9999 + 1 from rfl, run_equalIn_agg w 9999 44 _ _ hS (by kernel_rfl)]
 simp only [Program.fieldsOf, Tryz.underlying44, List.map_cons, List.map_nil, D.val]
 go_simp
 simp only [eqAll, eqD]
 refine Decidable.byCases (p := a0 = b0) (fun h0 => ?_) (fun h0 => by simp [h0])
 refine Decidable.byCases (p := a1 = b1) (fun h1 => ?_) (fun h1 => by simp [h0, h1])
 refine Decidable.byCases (p := a2 = b2) (fun h2 => ?_) (fun h2 => by simp [h0, h1, h2])
 simp [h0, h1, h2]
theorem eq_45 : EqOk Tryz.prog 45 [.int .i64, .int .i64, .str] := by
 refine ⟨by kernel_rfl, fun xs ys hx hy w => ?_⟩
 obtain ⟨xa0, ra0, ea0, ka0, hx0⟩ := kinds_cons hx
 obtain ⟨a0, rfl⟩ := kind_int ka0
 obtain ⟨xa1, ra1, ea1, ka1, hx1⟩ := kinds_cons hx0
 obtain ⟨a1, rfl⟩ := kind_int ka1
 obtain ⟨xa2, ra2, ea2, ka2, hx2⟩ := kinds_cons hx1
 obtain ⟨a2, rfl⟩ := kind_str ka2
 have za := kinds_nil hx2
 subst za
 subst ea2
 subst ea1
 subst ea0
 obtain ⟨xb0, rb0, eb0, kb0, hy0⟩ := kinds_cons hy
 obtain ⟨b0, rfl⟩ := kind_int kb0
 obtain ⟨xb1, rb1, eb1, kb1, hy1⟩ := kinds_cons hy0
 obtain ⟨b1, rfl⟩ := kind_int kb1
 obtain ⟨xb2, rb2, eb2, kb2, hy2⟩ := kinds_cons hy1
 obtain ⟨b2, rfl⟩ := kind_str kb2
 have zb := kinds_nil hy2
 subst zb
 subst eb2
 subst eb1
 subst eb0
 have hS : Tryz.prog.underlying 45 = some (.struct (Tryz.prog.fieldsOf 45)) := by kernel_rfl
 simp only [Op.equal, Op.maxDepth]
 rw [show (10000 : Nat) = 9999 + 1 from rfl, run_equalIn_agg w 9999 45 _ _ hS (by kernel_rfl)]
 simp only [Program.fieldsOf, Tryz.underlying45, List.map_cons, List.map_nil, D.val]
 go_simp
 simp only [eqAll, eqD]
 refine Decidable.byCases (p := a0 = b0) (fun h0 => ?_) (fun h0 => by simp [h0])
 refine Decidable.byCases (p := a1 = b1) (fun h1 => ?_) (fun h1 => by simp [h0, h1])
 refine Decidable.byCases (p := a2 = b2) (fun h2 => ?_) (fun h2 => by simp [h0, h1, h2])
 simp [h0, h1, h2]
def eqTab : TypeId → Option (List SK)
 | 44 => some [.int .i64, .int .i64, .str]
 | 45 => some [.int .i64, .int .i64, .str]
 | _ => none
theorem eqTab_ok : ∀ t ks, eqTab t = some ks → EqOk Tryz.prog t ks := by
 intro t ks h
 unfold eqTab at h
 split at h
 ·injection h with h; subst h; exact eq_44
 ·injection h with h; subst h; exact eq_45
 ·cases h
def gP : Pg Tryz.prog := ⟨by kernel_rfl, eqTab, eqTab_ok⟩
@[simp] theorem gE_44 : gP.E 44 = some [.int .i64, .int .i64, .str] := nr rfl
end Go.Proofs.YtpdjgamdnjfmkaaGreatDoor
