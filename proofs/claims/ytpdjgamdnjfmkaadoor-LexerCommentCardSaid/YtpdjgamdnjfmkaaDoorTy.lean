import Derived.Test.YtpdjgamdnjfmkaaDoorSy2
import Derived.Laws.StructEq
import Derived.ChangeKeysEq
namespace Go.Proofs.YtpdjgamdnjfmkaaDoor
open Go.RowKit
set_option linter.unusedSimpArgs false
@[simp] theorem und_2 : Tryd.prog.underlying 2 = some (.int .i64) := nr (by kernel_rfl)
@[simp] theorem sz_3 : sizeT Tryd.prog 3 = some 1 := nr (by kernel_rfl)
@[simp] theorem ag_3 : aggT Tryd.prog 3 = some false := nr (by kernel_rfl)
@[simp] theorem und_4 : Tryd.prog.underlying 4 = some (.bool) := nr (by kernel_rfl)
@[simp] theorem sz_4 : sizeT Tryd.prog 4 = some 1 := nr (by kernel_rfl)
@[simp] theorem ag_4 : aggT Tryd.prog 4 = some false := nr (by kernel_rfl)
@[simp] theorem und_5 : Tryd.prog.underlying 5 = some (.int .u8) := nr (by kernel_rfl)
@[simp] theorem sz_5 : sizeT Tryd.prog 5 = some 1 := nr (by kernel_rfl)
@[simp] theorem ag_5 : aggT Tryd.prog 5 = some false := nr (by kernel_rfl)
@[simp] theorem zero_5 : zeroV Tryd.prog 5 = some (.d (.int .u8 0)) := nr (by kernel_rfl)
@[simp] theorem und_9 : Tryd.prog.underlying 9 = some (.string) := nr (by kernel_rfl)
@[simp] theorem sz_9 : sizeT Tryd.prog 9 = some 1 := nr (by kernel_rfl)
@[simp] theorem ag_9 : aggT Tryd.prog 9 = some false := nr (by kernel_rfl)
@[simp] theorem und_23 : Tryd.prog.underlying 23 = some (.slice 28) := nr (by kernel_rfl)
@[simp] theorem app_23 : appT Tryd.prog 23 = some (28, 3) := nr (by kernel_rfl)
@[simp] theorem sz_28 : sizeT Tryd.prog 28 = some 3 := nr (by kernel_rfl)
@[simp] theorem ag_28 : aggT Tryd.prog 28 = some true := nr (by kernel_rfl)
@[simp] theorem zero_28 : zeroV Tryd.prog 28 = some (.agg [.d (.int .i64 0), .d (.int .i64 0), .d (.str [])]) := nr (by kernel_rfl)
@[simp] theorem fld_28_0 : fieldOf Tryd.prog 28 0 = some (0, 3) := nr (by kernel_rfl)
@[simp] theorem fld_28_1 : fieldOf Tryd.prog 28 1 = some (1, 3) := nr (by kernel_rfl)
@[simp] theorem fld_28_2 : fieldOf Tryd.prog 28 2 = some (2, 9) := nr (by kernel_rfl)
@[simp] theorem pl_28 : placesT Tryd.prog 28 = some (.struct [(0, 1), (1, 1), (2, 1)]) := nr (by kernel_rfl)
@[simp] theorem und_31 : Tryd.prog.underlying 31 = some (.slice 51) := nr (by kernel_rfl)
@[simp] theorem app_31 : appT Tryd.prog 31 = some (51, 3) := nr (by kernel_rfl)
@[simp] theorem und_34 : Tryd.prog.underlying 34 = some (.slice 86) := nr (by kernel_rfl)
@[simp] theorem sz_34 : sizeT Tryd.prog 34 = some 1 := nr (by kernel_rfl)
@[simp] theorem ag_34 : aggT Tryd.prog 34 = some false := nr (by kernel_rfl)
@[simp] theorem app_34 : appT Tryd.prog 34 = some (86, 1) := nr (by kernel_rfl)
@[simp] theorem sz_36 : sizeT Tryd.prog 36 = some 2 := nr (by kernel_rfl)
@[simp] theorem ag_36 : aggT Tryd.prog 36 = some true := nr (by kernel_rfl)
@[simp] theorem zero_36 : zeroV Tryd.prog 36 = some (.agg [.d (.bool false), .nil]) := nr (by kernel_rfl)
@[simp] theorem fld_36_0 : fieldOf Tryd.prog 36 0 = some (0, 4) := nr (by kernel_rfl)
@[simp] theorem fld_36_1 : fieldOf Tryd.prog 36 1 = some (1, 34) := nr (by kernel_rfl)
@[simp] theorem pl_36 : placesT Tryd.prog 36 = some (.struct [(0, 1), (1, 1)]) := nr (by kernel_rfl)
@[simp] theorem sz_38 : sizeT Tryd.prog 38 = some 4 := nr (by kernel_rfl)
@[simp] theorem ag_38 : aggT Tryd.prog 38 = some true := nr (by kernel_rfl)
@[simp] theorem zero_38 : zeroV Tryd.prog 38 = some (.agg [.d (.bool false), .nil, .d (.bool false), .nil]) := nr (by kernel_rfl)
@[simp] theorem fld_38_0 : fieldOf Tryd.prog 38 0 = some (0, 36) := nr (by kernel_rfl)
@[simp] theorem fld_38_1 : fieldOf Tryd.prog 38 1 = some (2, 36) := nr (by kernel_rfl)
@[simp] theorem pl_38 : placesT Tryd.prog 38 = some (.struct [(0, 2), (2, 2)]) := nr (by kernel_rfl)
@[simp] theorem sz_51 : sizeT Tryd.prog 51 = some 3 := nr (by kernel_rfl)
@[simp] theorem ag_51 : aggT Tryd.prog 51 = some true := nr (by kernel_rfl)
@[simp] theorem zero_51 : zeroV Tryd.prog 51 = some (.agg [.d (.int .i64 0), .d (.int .i64 0), .d (.str [])]) := nr (by kernel_rfl)
@[simp] theorem pl_51 : placesT Tryd.prog 51 = some (.struct [(0, 1), (1, 1), (2, 1)]) := nr (by kernel_rfl)
@[simp] theorem und_55 : Tryd.prog.underlying 55 = some (.slice 5) := nr (by kernel_rfl)
@[simp] theorem sz_55 : sizeT Tryd.prog 55 = some 1 := nr (by kernel_rfl)
@[simp] theorem ag_55 : aggT Tryd.prog 55 = some false := nr (by kernel_rfl)
@[simp] theorem app_55 : appT Tryd.prog 55 = some (5, 1) := nr (by kernel_rfl)
@[simp] theorem fld_57_1 : fieldOf Tryd.prog 57 1 = some (1, 55) := nr (by kernel_rfl)
@[simp] theorem und_80 : Tryd.prog.underlying 80 = some (.int .u64) := nr (by kernel_rfl)
@[simp] theorem und_86 : Tryd.prog.underlying 86 = some (.int .u32) := nr (by kernel_rfl)
@[simp] theorem sz_86 : sizeT Tryd.prog 86 = some 1 := nr (by kernel_rfl)
@[simp] theorem ag_86 : aggT Tryd.prog 86 = some false := nr (by kernel_rfl)
@[simp] theorem zero_86 : zeroV Tryd.prog 86 = some (.d (.int .u32 0)) := nr (by kernel_rfl)
theorem eq_28 : EqOk Tryd.prog 28 [.int .i64, .int .i64, .str] := by
 refine ⟨by kernel_rfl, fun xs ys hx hy w => ?_⟩
 obtain ⟨xa0, ra0, ea0, ka0, hx0⟩ := kinds_cons hx
 obtain ⟨a0, rfl⟩ := kind_int ka0
 obtain ⟨xa1, ra1, ea1, ka1, hx1⟩ := kinds_cons hx0
 obtain ⟨a1, rfl⟩ := kind_int ka1
 obtain ⟨xa2, ra2, ea2, ka2, hx2⟩ := kinds_cons hx1
 obtain ⟨a2, rfl⟩ := kind_str ka2
 have za := kinds_nil hx2
 subst za
 subst ea2
 subst ea1
 subst ea0
 obtain ⟨xb0, rb0, eb0, kb0, hy0⟩ := kinds_cons hy
 obtain ⟨b0, rfl⟩ := kind_int kb0
 obtain ⟨xb1, rb1, eb1, kb1, hy1⟩ := kinds_cons hy0
 obtain ⟨b1, rfl⟩ := kind_int kb1
 obtain ⟨xb2, rb2, eb2, kb2, hy2⟩ := kinds_cons hy1
 obtain ⟨b2, rfl⟩ := kind_str kb2
 have zb := kinds_nil hy2
 subst zb
 subst eb2
 subst eb1
 subst eb0
 have hS : Tryd.prog.underlying 28 = some (.struct (Tryd.prog.fieldsOf 28)) := by kernel_rfl
 simp only [Op.equal, Op.maxDepth]
 rw [show (10000 : Nat) = 9999 + 1 from rfl, run_equalIn_agg w 9999 28 _ _ hS (by kernel_rfl)]
 simp only [Program.fieldsOf, Tryd.underlying28, List.map_cons, List.map_nil, D.val]
 go_simp
 simp only [eqAll, eqD]
 refine Decidable.byCases (p := a0 = b0) (fun h0 => ?_) (fun h0 => by simp [h0])
 refine Decidable.byCases (p := a1 = b1) (fun h1 => ?_) (fun h1 => by simp [h0, h1])
 refine Decidable.byCases (p := a2 = b2) (fun h2 => ?_) (fun h2 => by simp [h0, h1, h2])
 simp [h0, h1, h2]
theorem eq_51 : EqOk Tryd.prog 51 [.int .i64, .int .i64, .str] := by
 refine ⟨by kernel_rfl, fun xs ys hx hy w => ?_⟩
 obtain ⟨xa0, ra0, ea0, ka0, hx0⟩ := kinds_cons hx
 obtain ⟨a0, rfl⟩ := kind_int ka0
 obtain ⟨xa1, ra1, ea1, ka1, hx1⟩ := kinds_cons hx0
 obtain ⟨a1, rfl⟩ := kind_int ka1
 obtain ⟨xa2, ra2, ea2, ka2, hx2⟩ := kinds_cons hx1
 obtain ⟨a2, rfl⟩ := kind_str ka2
 have za := kinds_nil hx2
 subst za
 subst ea2
 subst ea1
 subst ea0
 obtain ⟨xb0, rb0, eb0, kb0, hy0⟩ := kinds_cons hy
 obtain ⟨b0, rfl⟩ := kind_int kb0
 obtain ⟨xb1, rb1, eb1, kb1, hy1⟩ := kinds_cons hy0
 obtain ⟨b1, rfl⟩ := kind_int kb1
 obtain ⟨xb2, rb2, eb2, kb2, hy2⟩ := kinds_cons hy1
 obtain ⟨b2, rfl⟩ := kind_str kb2
 have zb := kinds_nil hy2
 subst zb
 subst eb2
 subst eb1
 subst eb0
 have hS : Tryd.prog.underlying 51 = some (.struct (Tryd.prog.fieldsOf 51)) := by kernel_rfl
 simp only [Op.equal, Op.maxDepth]
 rw [show (10000 : Nat) = 9999 + 1 from rfl, run_equalIn_agg w 9999 51 _ _ hS (by kernel_rfl)]
 simp only [Program.fieldsOf, Tryd.underlying51, List.map_cons, List.map_nil, D.val]
 go_simp
 simp only [eqAll, eqD]
 refine Decidable.byCases (p := a0 = b0) (fun h0 => ?_) (fun h0 => by simp [h0])
 refine Decidable.byCases (p := a1 = b1) (fun h1 => ?_) (fun h1 => by simp [h0, h1])
 refine Decidable.byCases (p := a2 = b2) (fun h2 => ?_) (fun h2 => by simp [h0, h1, h2])
 simp [h0, h1, h2]
def eqTab : TypeId → Option (List SK)
 | 28 => some [.int .i64, .int .i64, .str]
 | 51 => some [.int .i64, .int .i64, .str]
 | _ => none
theorem eqTab_ok : ∀ t ks, eqTab t = some ks → EqOk Tryd.prog t ks := by
 intro t ks h
 unfold eqTab at h
 split at h
 ·injection h with h; subst h; exact eq_28
 ·injection h with h; subst h; exact eq_51
 ·cases h
def gP : Pg Tryd.prog := ⟨by kernel_rfl, eqTab, eqTab_ok⟩
@[simp] theorem gE_28 : gP.E 28 = some [.int .i64, .int .i64, .str] := nr rfl
@[simp] theorem gE_51 : gP.E 51 = some [.int .i64, .int .i64, .str] := nr rfl
end Go.Proofs.YtpdjgamdnjfmkaaDoor
