/-
  Facts on types and functions of this seat, for the shadow (written by wip/types.py).
-/
import Derived.Test.YtlcfgpjgjdjpoaaDoorSp
import Derived.Laws.StructEq
namespace Go.Proofs.YtlcfgpjgjdjpoaaDoor
open Go.RowKit

theorem und_2 : Tryd.prog.underlying 2 = some (.int .i64) := nr (by kernel_rfl)
theorem sz_2 : sizeT Tryd.prog 2 = some 1 := nr (by kernel_rfl)
theorem ag_2 : aggT Tryd.prog 2 = some false := nr (by kernel_rfl)
theorem zero_2 : zeroV Tryd.prog 2 = some (.d (.int .i64 0)) := nr (by kernel_rfl)
theorem und_3 : Tryd.prog.underlying 3 = some (.int .i64) := nr (by kernel_rfl)
theorem sz_3 : sizeT Tryd.prog 3 = some 1 := nr (by kernel_rfl)
theorem ag_3 : aggT Tryd.prog 3 = some false := nr (by kernel_rfl)
theorem sz_4 : sizeT Tryd.prog 4 = some 1 := nr (by kernel_rfl)
theorem ag_4 : aggT Tryd.prog 4 = some false := nr (by kernel_rfl)
theorem zero_4 : zeroV Tryd.prog 4 = some (.d (.bool false)) := nr (by kernel_rfl)
theorem und_5 : Tryd.prog.underlying 5 = some (.int .u8) := nr (by kernel_rfl)
theorem sz_5 : sizeT Tryd.prog 5 = some 1 := nr (by kernel_rfl)
theorem ag_5 : aggT Tryd.prog 5 = some false := nr (by kernel_rfl)
theorem und_9 : Tryd.prog.underlying 9 = some (.string) := nr (by kernel_rfl)
theorem sz_9 : sizeT Tryd.prog 9 = some 1 := nr (by kernel_rfl)
theorem ag_9 : aggT Tryd.prog 9 = some false := nr (by kernel_rfl)
theorem und_21 : Tryd.prog.underlying 21 = some (.int .i32) := nr (by kernel_rfl)
theorem sz_21 : sizeT Tryd.prog 21 = some 1 := nr (by kernel_rfl)
theorem ag_21 : aggT Tryd.prog 21 = some false := nr (by kernel_rfl)
theorem sz_24 : sizeT Tryd.prog 24 = some 3 := nr (by kernel_rfl)
theorem ag_24 : aggT Tryd.prog 24 = some true := nr (by kernel_rfl)
theorem zero_24 : zeroV Tryd.prog 24 = some (.agg [.d (.int .i64 0), .d (.int .i64 0), .d (.int .i64 0)]) := nr (by kernel_rfl)
theorem fld_24_0 : fieldOf Tryd.prog 24 0 = some (0, 2) := nr (by kernel_rfl)
theorem fld_24_1 : fieldOf Tryd.prog 24 1 = some (1, 2) := nr (by kernel_rfl)
theorem fld_24_2 : fieldOf Tryd.prog 24 2 = some (2, 2) := nr (by kernel_rfl)
theorem pl_24 : placesT Tryd.prog 24 = some (.struct [(0, 1), (1, 1), (2, 1)]) := nr (by kernel_rfl)
theorem und_25 : Tryd.prog.underlying 25 = some (.array 6 24) := nr (by kernel_rfl)
theorem sz_25 : sizeT Tryd.prog 25 = some 18 := nr (by kernel_rfl)
theorem ag_25 : aggT Tryd.prog 25 = some true := nr (by kernel_rfl)
theorem und_26 : Tryd.prog.underlying 26 = some (.slice 93) := nr (by kernel_rfl)
theorem sz_26 : sizeT Tryd.prog 26 = some 1 := nr (by kernel_rfl)
theorem ag_26 : aggT Tryd.prog 26 = some false := nr (by kernel_rfl)
theorem sz_28 : sizeT Tryd.prog 28 = some 19 := nr (by kernel_rfl)
theorem ag_28 : aggT Tryd.prog 28 = some true := nr (by kernel_rfl)
theorem zero_28 : zeroV Tryd.prog 28 = some (.agg [.d (.int .i64 0), .d (.int .i64 0), .d (.int .i64 0), .d (.int .i64 0), .d (.int .i64 0), .d (.int .i64 0), .d (.int .i64 0), .d (.int .i64 0), .d (.int .i64 0), .d (.int .i64 0), .d (.int .i64 0), .d (.int .i64 0), .d (.int .i64 0), .d (.int .i64 0), .d (.int .i64 0), .d (.int .i64 0), .d (.int .i64 0), .d (.int .i64 0), .nil]) := nr (by kernel_rfl)
theorem fld_28_0 : fieldOf Tryd.prog 28 0 = some (0, 25) := nr (by kernel_rfl)
theorem fld_28_1 : fieldOf Tryd.prog 28 1 = some (18, 26) := nr (by kernel_rfl)
theorem pl_28 : placesT Tryd.prog 28 = some (.struct [(0, 18), (18, 1)]) := nr (by kernel_rfl)
theorem sz_30 : sizeT Tryd.prog 30 = some 22 := nr (by kernel_rfl)
theorem ag_30 : aggT Tryd.prog 30 = some true := nr (by kernel_rfl)
theorem fld_30_0 : fieldOf Tryd.prog 30 0 = some (0, 28) := nr (by kernel_rfl)
theorem fld_30_1 : fieldOf Tryd.prog 30 1 = some (19, 24) := nr (by kernel_rfl)
theorem sz_32 : sizeT Tryd.prog 32 = some 1 := nr (by kernel_rfl)
theorem ag_32 : aggT Tryd.prog 32 = some false := nr (by kernel_rfl)
theorem sz_38 : sizeT Tryd.prog 38 = some 2 := nr (by kernel_rfl)
theorem ag_38 : aggT Tryd.prog 38 = some true := nr (by kernel_rfl)
theorem zero_38 : zeroV Tryd.prog 38 = some (.agg [.d (.int .u8 0), .d (.int .i64 0)]) := nr (by kernel_rfl)
theorem fld_38_0 : fieldOf Tryd.prog 38 0 = some (0, 5) := nr (by kernel_rfl)
theorem fld_38_1 : fieldOf Tryd.prog 38 1 = some (1, 2) := nr (by kernel_rfl)
theorem pl_38 : placesT Tryd.prog 38 = some (.struct [(0, 1), (1, 1)]) := nr (by kernel_rfl)
theorem und_40 : Tryd.prog.underlying 40 = some (.slice 38) := nr (by kernel_rfl)
theorem sz_40 : sizeT Tryd.prog 40 = some 1 := nr (by kernel_rfl)
theorem ag_40 : aggT Tryd.prog 40 = some false := nr (by kernel_rfl)
theorem app_40 : appT Tryd.prog 40 = some (38, 2) := nr (by kernel_rfl)
theorem sz_42 : sizeT Tryd.prog 42 = some 3 := nr (by kernel_rfl)
theorem ag_42 : aggT Tryd.prog 42 = some true := nr (by kernel_rfl)
theorem zero_42 : zeroV Tryd.prog 42 = some (.agg [.d (.bool false), .nil, .d (.str [])]) := nr (by kernel_rfl)
theorem fld_42_1 : fieldOf Tryd.prog 42 1 = some (1, 40) := nr (by kernel_rfl)
theorem fld_42_2 : fieldOf Tryd.prog 42 2 = some (2, 9) := nr (by kernel_rfl)
theorem pl_42 : placesT Tryd.prog 42 = some (.struct [(0, 1), (1, 1), (2, 1)]) := nr (by kernel_rfl)
theorem und_43 : Tryd.prog.underlying 43 = some (.slice 42) := nr (by kernel_rfl)
theorem app_43 : appT Tryd.prog 43 = some (42, 3) := nr (by kernel_rfl)
theorem und_47 : Tryd.prog.underlying 47 = some (.slice 62) := nr (by kernel_rfl)
theorem app_47 : appT Tryd.prog 47 = some (62, 9) := nr (by kernel_rfl)
theorem sz_49 : sizeT Tryd.prog 49 = some 2 := nr (by kernel_rfl)
theorem ag_49 : aggT Tryd.prog 49 = some true := nr (by kernel_rfl)
theorem zero_49 : zeroV Tryd.prog 49 = some (.agg [.d (.int .i64 0), .d (.int .i64 0)]) := nr (by kernel_rfl)
theorem fld_49_1 : fieldOf Tryd.prog 49 1 = some (1, 32) := nr (by kernel_rfl)
theorem pl_49 : placesT Tryd.prog 49 = some (.struct [(0, 1), (1, 1)]) := nr (by kernel_rfl)
theorem und_52 : Tryd.prog.underlying 52 = some (.slice 100) := nr (by kernel_rfl)
theorem sz_52 : sizeT Tryd.prog 52 = some 1 := nr (by kernel_rfl)
theorem ag_52 : aggT Tryd.prog 52 = some false := nr (by kernel_rfl)
theorem app_52 : appT Tryd.prog 52 = some (100, 2) := nr (by kernel_rfl)
theorem sz_54 : sizeT Tryd.prog 54 = some 19 := nr (by kernel_rfl)
theorem ag_54 : aggT Tryd.prog 54 = some true := nr (by kernel_rfl)
theorem zero_54 : zeroV Tryd.prog 54 = some (.agg [.d (.int .i64 0), .d (.int .i64 0), .d (.int .i64 0), .d (.int .i64 0), .d (.int .i64 0), .d (.int .i64 0), .d (.int .i64 0), .d (.int .i64 0), .d (.int .i64 0), .d (.int .i64 0), .d (.int .i64 0), .d (.int .i64 0), .d (.int .i64 0), .d (.int .i64 0), .d (.int .i64 0), .d (.int .i64 0), .d (.int .i64 0), .d (.int .i64 0), .nil]) := nr (by kernel_rfl)
theorem fld_54_0 : fieldOf Tryd.prog 54 0 = some (0, 25) := nr (by kernel_rfl)
theorem fld_54_1 : fieldOf Tryd.prog 54 1 = some (18, 52) := nr (by kernel_rfl)
theorem pl_54 : placesT Tryd.prog 54 = some (.struct [(0, 18), (18, 1)]) := nr (by kernel_rfl)
theorem und_58 : Tryd.prog.underlying 58 = some (.array 3 21) := nr (by kernel_rfl)
theorem sz_62 : sizeT Tryd.prog 62 = some 9 := nr (by kernel_rfl)
theorem ag_62 : aggT Tryd.prog 62 = some true := nr (by kernel_rfl)
theorem zero_62 : zeroV Tryd.prog 62 = some (.agg [.d (.int .i64 0), .d (.int .i64 0), .d (.int .i64 0), .d (.int .i64 0), .d (.int .i64 0), .d (.int .i64 0), .d (.int .i64 0), .d (.int .i64 0), .d (.int .i64 0)]) := nr (by kernel_rfl)
theorem fld_62_0 : fieldOf Tryd.prog 62 0 = some (0, 24) := nr (by kernel_rfl)
theorem fld_62_1 : fieldOf Tryd.prog 62 1 = some (3, 24) := nr (by kernel_rfl)
theorem fld_62_4 : fieldOf Tryd.prog 62 4 = some (8, 3) := nr (by kernel_rfl)
theorem pl_62 : placesT Tryd.prog 62 = some (.struct [(0, 3), (3, 3), (6, 1), (7, 1), (8, 1)]) := nr (by kernel_rfl)
theorem sz_65 : sizeT Tryd.prog 65 = some 8 := nr (by kernel_rfl)
theorem ag_65 : aggT Tryd.prog 65 = some true := nr (by kernel_rfl)
theorem zero_65 : zeroV Tryd.prog 65 = some (.agg [.d (.int .i64 0), .d (.int .i64 0), .d (.int .i64 0), .d (.int .i64 0), .d (.int .i64 0), .d (.int .i64 0), .d (.int .i64 0), .d (.int .i64 0)]) := nr (by kernel_rfl)
theorem fld_65_0 : fieldOf Tryd.prog 65 0 = some (0, 2) := nr (by kernel_rfl)
theorem fld_65_1 : fieldOf Tryd.prog 65 1 = some (1, 2) := nr (by kernel_rfl)
theorem fld_65_2 : fieldOf Tryd.prog 65 2 = some (2, 2) := nr (by kernel_rfl)
theorem fld_65_3 : fieldOf Tryd.prog 65 3 = some (3, 2) := nr (by kernel_rfl)
theorem fld_65_4 : fieldOf Tryd.prog 65 4 = some (4, 2) := nr (by kernel_rfl)
theorem fld_65_5 : fieldOf Tryd.prog 65 5 = some (5, 2) := nr (by kernel_rfl)
theorem fld_65_6 : fieldOf Tryd.prog 65 6 = some (6, 2) := nr (by kernel_rfl)
theorem fld_65_7 : fieldOf Tryd.prog 65 7 = some (7, 2) := nr (by kernel_rfl)
theorem pl_65 : placesT Tryd.prog 65 = some (.struct [(0, 1), (1, 1), (2, 1), (3, 1), (4, 1), (5, 1), (6, 1), (7, 1)]) := nr (by kernel_rfl)
theorem sz_68 : sizeT Tryd.prog 68 = some 7 := nr (by kernel_rfl)
theorem ag_68 : aggT Tryd.prog 68 = some true := nr (by kernel_rfl)
theorem zero_68 : zeroV Tryd.prog 68 = some (.agg [.d (.int .i64 0), .d (.int .i64 0), .d (.int .i64 0), .d (.int .i64 0), .d (.int .i64 0), .d (.int .i64 0), .d (.bool false)]) := nr (by kernel_rfl)
theorem fld_68_0 : fieldOf Tryd.prog 68 0 = some (0, 2) := nr (by kernel_rfl)
theorem fld_68_1 : fieldOf Tryd.prog 68 1 = some (1, 2) := nr (by kernel_rfl)
theorem fld_68_2 : fieldOf Tryd.prog 68 2 = some (2, 2) := nr (by kernel_rfl)
theorem fld_68_3 : fieldOf Tryd.prog 68 3 = some (3, 2) := nr (by kernel_rfl)
theorem fld_68_4 : fieldOf Tryd.prog 68 4 = some (4, 2) := nr (by kernel_rfl)
theorem fld_68_5 : fieldOf Tryd.prog 68 5 = some (5, 2) := nr (by kernel_rfl)
theorem fld_68_6 : fieldOf Tryd.prog 68 6 = some (6, 4) := nr (by kernel_rfl)
theorem pl_68 : placesT Tryd.prog 68 = some (.struct [(0, 1), (1, 1), (2, 1), (3, 1), (4, 1), (5, 1), (6, 1)]) := nr (by kernel_rfl)
theorem sz_93 : sizeT Tryd.prog 93 = some 2 := nr (by kernel_rfl)
theorem ag_93 : aggT Tryd.prog 93 = some true := nr (by kernel_rfl)
theorem zero_93 : zeroV Tryd.prog 93 = some (.agg [.d (.int .i64 0), .d (.int .i64 0)]) := nr (by kernel_rfl)
theorem fld_93_0 : fieldOf Tryd.prog 93 0 = some (0, 2) := nr (by kernel_rfl)
theorem fld_93_1 : fieldOf Tryd.prog 93 1 = some (1, 2) := nr (by kernel_rfl)
theorem pl_93 : placesT Tryd.prog 93 = some (.struct [(0, 1), (1, 1)]) := nr (by kernel_rfl)
theorem und_98 : Tryd.prog.underlying 98 = some (.slice 2) := nr (by kernel_rfl)
theorem sz_98 : sizeT Tryd.prog 98 = some 1 := nr (by kernel_rfl)
theorem ag_98 : aggT Tryd.prog 98 = some false := nr (by kernel_rfl)
theorem app_98 : appT Tryd.prog 98 = some (2, 1) := nr (by kernel_rfl)
theorem sz_100 : sizeT Tryd.prog 100 = some 2 := nr (by kernel_rfl)
theorem ag_100 : aggT Tryd.prog 100 = some true := nr (by kernel_rfl)
theorem zero_100 : zeroV Tryd.prog 100 = some (.agg [.d (.int .i64 0), .d (.int .i64 0)]) := nr (by kernel_rfl)
theorem fld_100_0 : fieldOf Tryd.prog 100 0 = some (0, 2) := nr (by kernel_rfl)
theorem fld_100_1 : fieldOf Tryd.prog 100 1 = some (1, 2) := nr (by kernel_rfl)
theorem pl_100 : placesT Tryd.prog 100 = some (.struct [(0, 1), (1, 1)]) := nr (by kernel_rfl)
theorem und_107 : Tryd.prog.underlying 107 = some (.slice 111) := nr (by kernel_rfl)
theorem app_107 : appT Tryd.prog 107 = some (111, 4) := nr (by kernel_rfl)
theorem sz_111 : sizeT Tryd.prog 111 = some 4 := nr (by kernel_rfl)
theorem ag_111 : aggT Tryd.prog 111 = some true := nr (by kernel_rfl)
theorem zero_111 : zeroV Tryd.prog 111 = some (.agg [.d (.int .i64 0), .d (.int .i64 0), .d (.int .i64 0), .d (.int .i64 0)]) := nr (by kernel_rfl)
theorem fld_111_0 : fieldOf Tryd.prog 111 0 = some (0, 24) := nr (by kernel_rfl)
theorem fld_111_1 : fieldOf Tryd.prog 111 1 = some (3, 2) := nr (by kernel_rfl)
theorem pl_111 : placesT Tryd.prog 111 = some (.struct [(0, 3), (3, 1)]) := nr (by kernel_rfl)
theorem und_122 : Tryd.prog.underlying 122 = some (.slice 5) := nr (by kernel_rfl)
theorem und_124 : Tryd.prog.underlying 124 = some (.map 5 4) := nr (by kernel_rfl)
theorem und_125 : Tryd.prog.underlying 125 = some (.map 3 4) := nr (by kernel_rfl)
theorem und_136 : Tryd.prog.underlying 136 = some (.slice 24) := nr (by kernel_rfl)
theorem app_136 : appT Tryd.prog 136 = some (24, 3) := nr (by kernel_rfl)
theorem sz_139 : sizeT Tryd.prog 139 = some 1 := nr (by kernel_rfl)
theorem ag_139 : aggT Tryd.prog 139 = some false := nr (by kernel_rfl)
theorem zero_139 : zeroV Tryd.prog 139 = some (.d (.other (.pointer none))) := nr (by kernel_rfl)
theorem und_140 : Tryd.prog.underlying 140 = some (.slice 139) := nr (by kernel_rfl)
theorem sz_145 : sizeT Tryd.prog 145 = some 2 := nr (by kernel_rfl)
theorem ag_145 : aggT Tryd.prog 145 = some true := nr (by kernel_rfl)
theorem zero_145 : zeroV Tryd.prog 145 = some (.agg [.d (.int .u8 0), .d (.other (.pointer none))]) := nr (by kernel_rfl)
theorem fld_145_0 : fieldOf Tryd.prog 145 0 = some (0, 5) := nr (by kernel_rfl)
theorem fld_145_1 : fieldOf Tryd.prog 145 1 = some (1, 139) := nr (by kernel_rfl)
theorem pl_145 : placesT Tryd.prog 145 = some (.struct [(0, 1), (1, 1)]) := nr (by kernel_rfl)
theorem und_146 : Tryd.prog.underlying 146 = some (.slice 145) := nr (by kernel_rfl)
theorem und_149 : Tryd.prog.underlying 149 = some (.slice 156) := nr (by kernel_rfl)
theorem sz_149 : sizeT Tryd.prog 149 = some 1 := nr (by kernel_rfl)
theorem ag_149 : aggT Tryd.prog 149 = some false := nr (by kernel_rfl)
theorem zero_149 : zeroV Tryd.prog 149 = some (.nil) := nr (by kernel_rfl)
theorem app_149 : appT Tryd.prog 149 = some (156, 7) := nr (by kernel_rfl)
theorem sz_153 : sizeT Tryd.prog 153 = some 2 := nr (by kernel_rfl)
theorem ag_153 : aggT Tryd.prog 153 = some true := nr (by kernel_rfl)
theorem zero_153 : zeroV Tryd.prog 153 = some (.agg [.d (.int .i64 0), .d (.int .i64 0)]) := nr (by kernel_rfl)
theorem fld_153_0 : fieldOf Tryd.prog 153 0 = some (0, 2) := nr (by kernel_rfl)
theorem fld_153_1 : fieldOf Tryd.prog 153 1 = some (1, 2) := nr (by kernel_rfl)
theorem pl_153 : placesT Tryd.prog 153 = some (.struct [(0, 1), (1, 1)]) := nr (by kernel_rfl)
theorem und_154 : Tryd.prog.underlying 154 = some (.slice 153) := nr (by kernel_rfl)
theorem sz_156 : sizeT Tryd.prog 156 = some 7 := nr (by kernel_rfl)
theorem ag_156 : aggT Tryd.prog 156 = some true := nr (by kernel_rfl)
theorem zero_156 : zeroV Tryd.prog 156 = some (.agg [.d (.int .i64 0), .d (.int .i64 0), .d (.int .i64 0), .d (.int .i64 0), .d (.int .i64 0), .d (.int .i64 0), .d (.int .i64 0)]) := nr (by kernel_rfl)
theorem fld_156_0 : fieldOf Tryd.prog 156 0 = some (0, 3) := nr (by kernel_rfl)
theorem fld_156_1 : fieldOf Tryd.prog 156 1 = some (1, 24) := nr (by kernel_rfl)
theorem fld_156_2 : fieldOf Tryd.prog 156 2 = some (4, 153) := nr (by kernel_rfl)
theorem fld_156_3 : fieldOf Tryd.prog 156 3 = some (6, 2) := nr (by kernel_rfl)
theorem pl_156 : placesT Tryd.prog 156 = some (.struct [(0, 1), (1, 3), (4, 2), (6, 1)]) := nr (by kernel_rfl)
theorem und_172 : Tryd.prog.underlying 172 = some (.int .u64) := nr (by kernel_rfl)
theorem und_187 : Tryd.prog.underlying 187 = some (.int .u64) := nr (by kernel_rfl)
theorem eq_24 : EqOk Tryd.prog 24 [.int .i64, .int .i64, .int .i64] := by
  refine ⟨by kernel_rfl, fun xs ys hx hy w => ?_⟩
  obtain ⟨xa0, ra0, ea0, ka0, hx0⟩ := kinds_cons hx
  obtain ⟨a0, rfl⟩ := kind_int ka0
  obtain ⟨xa1, ra1, ea1, ka1, hx1⟩ := kinds_cons hx0
  obtain ⟨a1, rfl⟩ := kind_int ka1
  obtain ⟨xa2, ra2, ea2, ka2, hx2⟩ := kinds_cons hx1
  obtain ⟨a2, rfl⟩ := kind_int ka2
  have za := kinds_nil hx2
  subst za
  subst ea2
  subst ea1
  subst ea0
  obtain ⟨xb0, rb0, eb0, kb0, hy0⟩ := kinds_cons hy
  obtain ⟨b0, rfl⟩ := kind_int kb0
  obtain ⟨xb1, rb1, eb1, kb1, hy1⟩ := kinds_cons hy0
  obtain ⟨b1, rfl⟩ := kind_int kb1
  obtain ⟨xb2, rb2, eb2, kb2, hy2⟩ := kinds_cons hy1
  obtain ⟨b2, rfl⟩ := kind_int kb2
  have zb := kinds_nil hy2
  subst zb
  subst eb2
  subst eb1
  subst eb0
  have hS : Tryd.prog.underlying 24 = some (.struct (Tryd.prog.fieldsOf 24)) := by kernel_rfl
  simp only [Op.equal, Op.maxDepth]
  rw [show (10000 : Nat) = 9999 + 1 from rfl, run_equalIn_agg w 9999 24 _ _ hS (by kernel_rfl)]
  simp only [Program.fieldsOf, Tryd.underlying24, List.map_cons, List.map_nil, D.val]
  go_simp
  simp only [eqAll, eqD]
  refine Decidable.byCases (p := a0 = b0) (fun h0 => ?_) (fun h0 => by simp [h0])
  refine Decidable.byCases (p := a1 = b1) (fun h1 => ?_) (fun h1 => by simp [h0, h1])
  refine Decidable.byCases (p := a2 = b2) (fun h2 => ?_) (fun h2 => by simp [h0, h1, h2])
  simp [h0, h1, h2]
theorem eq_38 : EqOk Tryd.prog 38 [.int .u8, .int .i64] := by
  refine ⟨by kernel_rfl, fun xs ys hx hy w => ?_⟩
  obtain ⟨xa0, ra0, ea0, ka0, hx0⟩ := kinds_cons hx
  obtain ⟨a0, rfl⟩ := kind_int ka0
  obtain ⟨xa1, ra1, ea1, ka1, hx1⟩ := kinds_cons hx0
  obtain ⟨a1, rfl⟩ := kind_int ka1
  have za := kinds_nil hx1
  subst za
  subst ea1
  subst ea0
  obtain ⟨xb0, rb0, eb0, kb0, hy0⟩ := kinds_cons hy
  obtain ⟨b0, rfl⟩ := kind_int kb0
  obtain ⟨xb1, rb1, eb1, kb1, hy1⟩ := kinds_cons hy0
  obtain ⟨b1, rfl⟩ := kind_int kb1
  have zb := kinds_nil hy1
  subst zb
  subst eb1
  subst eb0
  have hS : Tryd.prog.underlying 38 = some (.struct (Tryd.prog.fieldsOf 38)) := by kernel_rfl
  simp only [Op.equal, Op.maxDepth]
  rw [show (10000 : Nat) = 9999 + 1 from rfl, run_equalIn_agg w 9999 38 _ _ hS (by kernel_rfl)]
  simp only [Program.fieldsOf, Tryd.underlying38, List.map_cons, List.map_nil, D.val]
  go_simp
  simp only [eqAll, eqD]
  refine Decidable.byCases (p := a0 = b0) (fun h0 => ?_) (fun h0 => by simp [h0])
  refine Decidable.byCases (p := a1 = b1) (fun h1 => ?_) (fun h1 => by simp [h0, h1])
  simp [h0, h1]
theorem eq_49 : EqOk Tryd.prog 49 [.int .i64, .int .i64] := by
  refine ⟨by kernel_rfl, fun xs ys hx hy w => ?_⟩
  obtain ⟨xa0, ra0, ea0, ka0, hx0⟩ := kinds_cons hx
  obtain ⟨a0, rfl⟩ := kind_int ka0
  obtain ⟨xa1, ra1, ea1, ka1, hx1⟩ := kinds_cons hx0
  obtain ⟨a1, rfl⟩ := kind_int ka1
  have za := kinds_nil hx1
  subst za
  subst ea1
  subst ea0
  obtain ⟨xb0, rb0, eb0, kb0, hy0⟩ := kinds_cons hy
  obtain ⟨b0, rfl⟩ := kind_int kb0
  obtain ⟨xb1, rb1, eb1, kb1, hy1⟩ := kinds_cons hy0
  obtain ⟨b1, rfl⟩ := kind_int kb1
  have zb := kinds_nil hy1
  subst zb
  subst eb1
  subst eb0
  have hS : Tryd.prog.underlying 49 = some (.struct (Tryd.prog.fieldsOf 49)) := by kernel_rfl
  simp only [Op.equal, Op.maxDepth]
  rw [show (10000 : Nat) = 9999 + 1 from rfl, run_equalIn_agg w 9999 49 _ _ hS (by kernel_rfl)]
  simp only [Program.fieldsOf, Tryd.underlying49, List.map_cons, List.map_nil, D.val]
  go_simp
  simp only [eqAll, eqD]
  refine Decidable.byCases (p := a0 = b0) (fun h0 => ?_) (fun h0 => by simp [h0])
  refine Decidable.byCases (p := a1 = b1) (fun h1 => ?_) (fun h1 => by simp [h0, h1])
  simp [h0, h1]
theorem eq_62 : EqOk Tryd.prog 62 [.int .i64, .int .i64, .int .i64, .int .i64, .int .i64, .int .i64, .int .i64, .int .i64, .int .i64] := by
  refine ⟨by kernel_rfl, fun xs ys hx hy w => ?_⟩
  obtain ⟨xa0, ra0, ea0, ka0, hx0⟩ := kinds_cons hx
  obtain ⟨a0, rfl⟩ := kind_int ka0
  obtain ⟨xa1, ra1, ea1, ka1, hx1⟩ := kinds_cons hx0
  obtain ⟨a1, rfl⟩ := kind_int ka1
  obtain ⟨xa2, ra2, ea2, ka2, hx2⟩ := kinds_cons hx1
  obtain ⟨a2, rfl⟩ := kind_int ka2
  obtain ⟨xa3, ra3, ea3, ka3, hx3⟩ := kinds_cons hx2
  obtain ⟨a3, rfl⟩ := kind_int ka3
  obtain ⟨xa4, ra4, ea4, ka4, hx4⟩ := kinds_cons hx3
  obtain ⟨a4, rfl⟩ := kind_int ka4
  obtain ⟨xa5, ra5, ea5, ka5, hx5⟩ := kinds_cons hx4
  obtain ⟨a5, rfl⟩ := kind_int ka5
  obtain ⟨xa6, ra6, ea6, ka6, hx6⟩ := kinds_cons hx5
  obtain ⟨a6, rfl⟩ := kind_int ka6
  obtain ⟨xa7, ra7, ea7, ka7, hx7⟩ := kinds_cons hx6
  obtain ⟨a7, rfl⟩ := kind_int ka7
  obtain ⟨xa8, ra8, ea8, ka8, hx8⟩ := kinds_cons hx7
  obtain ⟨a8, rfl⟩ := kind_int ka8
  have za := kinds_nil hx8
  subst za
  subst ea8
  subst ea7
  subst ea6
  subst ea5
  subst ea4
  subst ea3
  subst ea2
  subst ea1
  subst ea0
  obtain ⟨xb0, rb0, eb0, kb0, hy0⟩ := kinds_cons hy
  obtain ⟨b0, rfl⟩ := kind_int kb0
  obtain ⟨xb1, rb1, eb1, kb1, hy1⟩ := kinds_cons hy0
  obtain ⟨b1, rfl⟩ := kind_int kb1
  obtain ⟨xb2, rb2, eb2, kb2, hy2⟩ := kinds_cons hy1
  obtain ⟨b2, rfl⟩ := kind_int kb2
  obtain ⟨xb3, rb3, eb3, kb3, hy3⟩ := kinds_cons hy2
  obtain ⟨b3, rfl⟩ := kind_int kb3
  obtain ⟨xb4, rb4, eb4, kb4, hy4⟩ := kinds_cons hy3
  obtain ⟨b4, rfl⟩ := kind_int kb4
  obtain ⟨xb5, rb5, eb5, kb5, hy5⟩ := kinds_cons hy4
  obtain ⟨b5, rfl⟩ := kind_int kb5
  obtain ⟨xb6, rb6, eb6, kb6, hy6⟩ := kinds_cons hy5
  obtain ⟨b6, rfl⟩ := kind_int kb6
  obtain ⟨xb7, rb7, eb7, kb7, hy7⟩ := kinds_cons hy6
  obtain ⟨b7, rfl⟩ := kind_int kb7
  obtain ⟨xb8, rb8, eb8, kb8, hy8⟩ := kinds_cons hy7
  obtain ⟨b8, rfl⟩ := kind_int kb8
  have zb := kinds_nil hy8
  subst zb
  subst eb8
  subst eb7
  subst eb6
  subst eb5
  subst eb4
  subst eb3
  subst eb2
  subst eb1
  subst eb0
  have hS : Tryd.prog.underlying 62 = some (.struct (Tryd.prog.fieldsOf 62)) := by kernel_rfl
  simp only [Op.equal, Op.maxDepth]
  rw [show (10000 : Nat) = 9999 + 1 from rfl, run_equalIn_agg w 9999 62 _ _ hS (by kernel_rfl)]
  simp only [Program.fieldsOf, Tryd.underlying62, List.map_cons, List.map_nil, D.val]
  go_simp
  simp only [eqAll, eqD]
  refine Decidable.byCases (p := a0 = b0) (fun h0 => ?_) (fun h0 => by simp [h0])
  refine Decidable.byCases (p := a1 = b1) (fun h1 => ?_) (fun h1 => by simp [h0, h1])
  refine Decidable.byCases (p := a2 = b2) (fun h2 => ?_) (fun h2 => by simp [h0, h1, h2])
  refine Decidable.byCases (p := a3 = b3) (fun h3 => ?_) (fun h3 => by simp [h0, h1, h2, h3])
  refine Decidable.byCases (p := a4 = b4) (fun h4 => ?_) (fun h4 => by simp [h0, h1, h2, h3, h4])
  refine Decidable.byCases (p := a5 = b5) (fun h5 => ?_) (fun h5 => by simp [h0, h1, h2, h3, h4, h5])
  refine Decidable.byCases (p := a6 = b6) (fun h6 => ?_) (fun h6 => by simp [h0, h1, h2, h3, h4, h5, h6])
  refine Decidable.byCases (p := a7 = b7) (fun h7 => ?_) (fun h7 => by simp [h0, h1, h2, h3, h4, h5, h6, h7])
  refine Decidable.byCases (p := a8 = b8) (fun h8 => ?_) (fun h8 => by simp [h0, h1, h2, h3, h4, h5, h6, h7, h8])
  simp [h0, h1, h2, h3, h4, h5, h6, h7, h8]
theorem eq_65 : EqOk Tryd.prog 65 [.int .i64, .int .i64, .int .i64, .int .i64, .int .i64, .int .i64, .int .i64, .int .i64] := by
  refine ⟨by kernel_rfl, fun xs ys hx hy w => ?_⟩
  obtain ⟨xa0, ra0, ea0, ka0, hx0⟩ := kinds_cons hx
  obtain ⟨a0, rfl⟩ := kind_int ka0
  obtain ⟨xa1, ra1, ea1, ka1, hx1⟩ := kinds_cons hx0
  obtain ⟨a1, rfl⟩ := kind_int ka1
  obtain ⟨xa2, ra2, ea2, ka2, hx2⟩ := kinds_cons hx1
  obtain ⟨a2, rfl⟩ := kind_int ka2
  obtain ⟨xa3, ra3, ea3, ka3, hx3⟩ := kinds_cons hx2
  obtain ⟨a3, rfl⟩ := kind_int ka3
  obtain ⟨xa4, ra4, ea4, ka4, hx4⟩ := kinds_cons hx3
  obtain ⟨a4, rfl⟩ := kind_int ka4
  obtain ⟨xa5, ra5, ea5, ka5, hx5⟩ := kinds_cons hx4
  obtain ⟨a5, rfl⟩ := kind_int ka5
  obtain ⟨xa6, ra6, ea6, ka6, hx6⟩ := kinds_cons hx5
  obtain ⟨a6, rfl⟩ := kind_int ka6
  obtain ⟨xa7, ra7, ea7, ka7, hx7⟩ := kinds_cons hx6
  obtain ⟨a7, rfl⟩ := kind_int ka7
  have za := kinds_nil hx7
  subst za
  subst ea7
  subst ea6
  subst ea5
  subst ea4
  subst ea3
  subst ea2
  subst ea1
  subst ea0
  obtain ⟨xb0, rb0, eb0, kb0, hy0⟩ := kinds_cons hy
  obtain ⟨b0, rfl⟩ := kind_int kb0
  obtain ⟨xb1, rb1, eb1, kb1, hy1⟩ := kinds_cons hy0
  obtain ⟨b1, rfl⟩ := kind_int kb1
  obtain ⟨xb2, rb2, eb2, kb2, hy2⟩ := kinds_cons hy1
  obtain ⟨b2, rfl⟩ := kind_int kb2
  obtain ⟨xb3, rb3, eb3, kb3, hy3⟩ := kinds_cons hy2
  obtain ⟨b3, rfl⟩ := kind_int kb3
  obtain ⟨xb4, rb4, eb4, kb4, hy4⟩ := kinds_cons hy3
  obtain ⟨b4, rfl⟩ := kind_int kb4
  obtain ⟨xb5, rb5, eb5, kb5, hy5⟩ := kinds_cons hy4
  obtain ⟨b5, rfl⟩ := kind_int kb5
  obtain ⟨xb6, rb6, eb6, kb6, hy6⟩ := kinds_cons hy5
  obtain ⟨b6, rfl⟩ := kind_int kb6
  obtain ⟨xb7, rb7, eb7, kb7, hy7⟩ := kinds_cons hy6
  obtain ⟨b7, rfl⟩ := kind_int kb7
  have zb := kinds_nil hy7
  subst zb
  subst eb7
  subst eb6
  subst eb5
  subst eb4
  subst eb3
  subst eb2
  subst eb1
  subst eb0
  have hS : Tryd.prog.underlying 65 = some (.struct (Tryd.prog.fieldsOf 65)) := by kernel_rfl
  simp only [Op.equal, Op.maxDepth]
  rw [show (10000 : Nat) = 9999 + 1 from rfl, run_equalIn_agg w 9999 65 _ _ hS (by kernel_rfl)]
  simp only [Program.fieldsOf, Tryd.underlying65, List.map_cons, List.map_nil, D.val]
  go_simp
  simp only [eqAll, eqD]
  refine Decidable.byCases (p := a0 = b0) (fun h0 => ?_) (fun h0 => by simp [h0])
  refine Decidable.byCases (p := a1 = b1) (fun h1 => ?_) (fun h1 => by simp [h0, h1])
  refine Decidable.byCases (p := a2 = b2) (fun h2 => ?_) (fun h2 => by simp [h0, h1, h2])
  refine Decidable.byCases (p := a3 = b3) (fun h3 => ?_) (fun h3 => by simp [h0, h1, h2, h3])
  refine Decidable.byCases (p := a4 = b4) (fun h4 => ?_) (fun h4 => by simp [h0, h1, h2, h3, h4])
  refine Decidable.byCases (p := a5 = b5) (fun h5 => ?_) (fun h5 => by simp [h0, h1, h2, h3, h4, h5])
  refine Decidable.byCases (p := a6 = b6) (fun h6 => ?_) (fun h6 => by simp [h0, h1, h2, h3, h4, h5, h6])
  refine Decidable.byCases (p := a7 = b7) (fun h7 => ?_) (fun h7 => by simp [h0, h1, h2, h3, h4, h5, h6, h7])
  simp [h0, h1, h2, h3, h4, h5, h6, h7]
theorem eq_68 : EqOk Tryd.prog 68 [.int .i64, .int .i64, .int .i64, .int .i64, .int .i64, .int .i64, .bool] := by
  refine ⟨by kernel_rfl, fun xs ys hx hy w => ?_⟩
  obtain ⟨xa0, ra0, ea0, ka0, hx0⟩ := kinds_cons hx
  obtain ⟨a0, rfl⟩ := kind_int ka0
  obtain ⟨xa1, ra1, ea1, ka1, hx1⟩ := kinds_cons hx0
  obtain ⟨a1, rfl⟩ := kind_int ka1
  obtain ⟨xa2, ra2, ea2, ka2, hx2⟩ := kinds_cons hx1
  obtain ⟨a2, rfl⟩ := kind_int ka2
  obtain ⟨xa3, ra3, ea3, ka3, hx3⟩ := kinds_cons hx2
  obtain ⟨a3, rfl⟩ := kind_int ka3
  obtain ⟨xa4, ra4, ea4, ka4, hx4⟩ := kinds_cons hx3
  obtain ⟨a4, rfl⟩ := kind_int ka4
  obtain ⟨xa5, ra5, ea5, ka5, hx5⟩ := kinds_cons hx4
  obtain ⟨a5, rfl⟩ := kind_int ka5
  obtain ⟨xa6, ra6, ea6, ka6, hx6⟩ := kinds_cons hx5
  obtain ⟨a6, rfl⟩ := kind_bool ka6
  have za := kinds_nil hx6
  subst za
  subst ea6
  subst ea5
  subst ea4
  subst ea3
  subst ea2
  subst ea1
  subst ea0
  obtain ⟨xb0, rb0, eb0, kb0, hy0⟩ := kinds_cons hy
  obtain ⟨b0, rfl⟩ := kind_int kb0
  obtain ⟨xb1, rb1, eb1, kb1, hy1⟩ := kinds_cons hy0
  obtain ⟨b1, rfl⟩ := kind_int kb1
  obtain ⟨xb2, rb2, eb2, kb2, hy2⟩ := kinds_cons hy1
  obtain ⟨b2, rfl⟩ := kind_int kb2
  obtain ⟨xb3, rb3, eb3, kb3, hy3⟩ := kinds_cons hy2
  obtain ⟨b3, rfl⟩ := kind_int kb3
  obtain ⟨xb4, rb4, eb4, kb4, hy4⟩ := kinds_cons hy3
  obtain ⟨b4, rfl⟩ := kind_int kb4
  obtain ⟨xb5, rb5, eb5, kb5, hy5⟩ := kinds_cons hy4
  obtain ⟨b5, rfl⟩ := kind_int kb5
  obtain ⟨xb6, rb6, eb6, kb6, hy6⟩ := kinds_cons hy5
  obtain ⟨b6, rfl⟩ := kind_bool kb6
  have zb := kinds_nil hy6
  subst zb
  subst eb6
  subst eb5
  subst eb4
  subst eb3
  subst eb2
  subst eb1
  subst eb0
  have hS : Tryd.prog.underlying 68 = some (.struct (Tryd.prog.fieldsOf 68)) := by kernel_rfl
  simp only [Op.equal, Op.maxDepth]
  rw [show (10000 : Nat) = 9999 + 1 from rfl, run_equalIn_agg w 9999 68 _ _ hS (by kernel_rfl)]
  simp only [Program.fieldsOf, Tryd.underlying68, List.map_cons, List.map_nil, D.val]
  go_simp
  simp only [eqAll, eqD]
  refine Decidable.byCases (p := a0 = b0) (fun h0 => ?_) (fun h0 => by simp [h0])
  refine Decidable.byCases (p := a1 = b1) (fun h1 => ?_) (fun h1 => by simp [h0, h1])
  refine Decidable.byCases (p := a2 = b2) (fun h2 => ?_) (fun h2 => by simp [h0, h1, h2])
  refine Decidable.byCases (p := a3 = b3) (fun h3 => ?_) (fun h3 => by simp [h0, h1, h2, h3])
  refine Decidable.byCases (p := a4 = b4) (fun h4 => ?_) (fun h4 => by simp [h0, h1, h2, h3, h4])
  refine Decidable.byCases (p := a5 = b5) (fun h5 => ?_) (fun h5 => by simp [h0, h1, h2, h3, h4, h5])
  refine Decidable.byCases (p := a6 = b6) (fun h6 => ?_) (fun h6 => by simp [h0, h1, h2, h3, h4, h5, h6])
  simp [h0, h1, h2, h3, h4, h5, h6]
theorem eq_78 : EqOk Tryd.prog 78 [.int .i64, .int .i64, .int .i64, .int .i64, .int .i64, .int .i64, .int .i64, .int .i64] := by
  refine ⟨by kernel_rfl, fun xs ys hx hy w => ?_⟩
  obtain ⟨xa0, ra0, ea0, ka0, hx0⟩ := kinds_cons hx
  obtain ⟨a0, rfl⟩ := kind_int ka0
  obtain ⟨xa1, ra1, ea1, ka1, hx1⟩ := kinds_cons hx0
  obtain ⟨a1, rfl⟩ := kind_int ka1
  obtain ⟨xa2, ra2, ea2, ka2, hx2⟩ := kinds_cons hx1
  obtain ⟨a2, rfl⟩ := kind_int ka2
  obtain ⟨xa3, ra3, ea3, ka3, hx3⟩ := kinds_cons hx2
  obtain ⟨a3, rfl⟩ := kind_int ka3
  obtain ⟨xa4, ra4, ea4, ka4, hx4⟩ := kinds_cons hx3
  obtain ⟨a4, rfl⟩ := kind_int ka4
  obtain ⟨xa5, ra5, ea5, ka5, hx5⟩ := kinds_cons hx4
  obtain ⟨a5, rfl⟩ := kind_int ka5
  obtain ⟨xa6, ra6, ea6, ka6, hx6⟩ := kinds_cons hx5
  obtain ⟨a6, rfl⟩ := kind_int ka6
  obtain ⟨xa7, ra7, ea7, ka7, hx7⟩ := kinds_cons hx6
  obtain ⟨a7, rfl⟩ := kind_int ka7
  have za := kinds_nil hx7
  subst za
  subst ea7
  subst ea6
  subst ea5
  subst ea4
  subst ea3
  subst ea2
  subst ea1
  subst ea0
  obtain ⟨xb0, rb0, eb0, kb0, hy0⟩ := kinds_cons hy
  obtain ⟨b0, rfl⟩ := kind_int kb0
  obtain ⟨xb1, rb1, eb1, kb1, hy1⟩ := kinds_cons hy0
  obtain ⟨b1, rfl⟩ := kind_int kb1
  obtain ⟨xb2, rb2, eb2, kb2, hy2⟩ := kinds_cons hy1
  obtain ⟨b2, rfl⟩ := kind_int kb2
  obtain ⟨xb3, rb3, eb3, kb3, hy3⟩ := kinds_cons hy2
  obtain ⟨b3, rfl⟩ := kind_int kb3
  obtain ⟨xb4, rb4, eb4, kb4, hy4⟩ := kinds_cons hy3
  obtain ⟨b4, rfl⟩ := kind_int kb4
  obtain ⟨xb5, rb5, eb5, kb5, hy5⟩ := kinds_cons hy4
  obtain ⟨b5, rfl⟩ := kind_int kb5
  obtain ⟨xb6, rb6, eb6, kb6, hy6⟩ := kinds_cons hy5
  obtain ⟨b6, rfl⟩ := kind_int kb6
  obtain ⟨xb7, rb7, eb7, kb7, hy7⟩ := kinds_cons hy6
  obtain ⟨b7, rfl⟩ := kind_int kb7
  have zb := kinds_nil hy7
  subst zb
  subst eb7
  subst eb6
  subst eb5
  subst eb4
  subst eb3
  subst eb2
  subst eb1
  subst eb0
  have hS : Tryd.prog.underlying 78 = some (.struct (Tryd.prog.fieldsOf 78)) := by kernel_rfl
  simp only [Op.equal, Op.maxDepth]
  rw [show (10000 : Nat) = 9999 + 1 from rfl, run_equalIn_agg w 9999 78 _ _ hS (by kernel_rfl)]
  simp only [Program.fieldsOf, Tryd.underlying78, List.map_cons, List.map_nil, D.val]
  go_simp
  simp only [eqAll, eqD]
  refine Decidable.byCases (p := a0 = b0) (fun h0 => ?_) (fun h0 => by simp [h0])
  refine Decidable.byCases (p := a1 = b1) (fun h1 => ?_) (fun h1 => by simp [h0, h1])
  refine Decidable.byCases (p := a2 = b2) (fun h2 => ?_) (fun h2 => by simp [h0, h1, h2])
  refine Decidable.byCases (p := a3 = b3) (fun h3 => ?_) (fun h3 => by simp [h0, h1, h2, h3])
  refine Decidable.byCases (p := a4 = b4) (fun h4 => ?_) (fun h4 => by simp [h0, h1, h2, h3, h4])
  refine Decidable.byCases (p := a5 = b5) (fun h5 => ?_) (fun h5 => by simp [h0, h1, h2, h3, h4, h5])
  refine Decidable.byCases (p := a6 = b6) (fun h6 => ?_) (fun h6 => by simp [h0, h1, h2, h3, h4, h5, h6])
  refine Decidable.byCases (p := a7 = b7) (fun h7 => ?_) (fun h7 => by simp [h0, h1, h2, h3, h4, h5, h6, h7])
  simp [h0, h1, h2, h3, h4, h5, h6, h7]
theorem eq_153 : EqOk Tryd.prog 153 [.int .i64, .int .i64] := by
  refine ⟨by kernel_rfl, fun xs ys hx hy w => ?_⟩
  obtain ⟨xa0, ra0, ea0, ka0, hx0⟩ := kinds_cons hx
  obtain ⟨a0, rfl⟩ := kind_int ka0
  obtain ⟨xa1, ra1, ea1, ka1, hx1⟩ := kinds_cons hx0
  obtain ⟨a1, rfl⟩ := kind_int ka1
  have za := kinds_nil hx1
  subst za
  subst ea1
  subst ea0
  obtain ⟨xb0, rb0, eb0, kb0, hy0⟩ := kinds_cons hy
  obtain ⟨b0, rfl⟩ := kind_int kb0
  obtain ⟨xb1, rb1, eb1, kb1, hy1⟩ := kinds_cons hy0
  obtain ⟨b1, rfl⟩ := kind_int kb1
  have zb := kinds_nil hy1
  subst zb
  subst eb1
  subst eb0
  have hS : Tryd.prog.underlying 153 = some (.struct (Tryd.prog.fieldsOf 153)) := by kernel_rfl
  simp only [Op.equal, Op.maxDepth]
  rw [show (10000 : Nat) = 9999 + 1 from rfl, run_equalIn_agg w 9999 153 _ _ hS (by kernel_rfl)]
  simp only [Program.fieldsOf, Tryd.underlying153, List.map_cons, List.map_nil, D.val]
  go_simp
  simp only [eqAll, eqD]
  refine Decidable.byCases (p := a0 = b0) (fun h0 => ?_) (fun h0 => by simp [h0])
  refine Decidable.byCases (p := a1 = b1) (fun h1 => ?_) (fun h1 => by simp [h0, h1])
  simp [h0, h1]
def eqTab : TypeId → Option (List SK)
  | 24 => some [.int .i64, .int .i64, .int .i64]
  | 38 => some [.int .u8, .int .i64]
  | 49 => some [.int .i64, .int .i64]
  | 62 => some [.int .i64, .int .i64, .int .i64, .int .i64, .int .i64, .int .i64, .int .i64, .int .i64, .int .i64]
  | 65 => some [.int .i64, .int .i64, .int .i64, .int .i64, .int .i64, .int .i64, .int .i64, .int .i64]
  | 68 => some [.int .i64, .int .i64, .int .i64, .int .i64, .int .i64, .int .i64, .bool]
  | 78 => some [.int .i64, .int .i64, .int .i64, .int .i64, .int .i64, .int .i64, .int .i64, .int .i64]
  | 153 => some [.int .i64, .int .i64]
  | _ => none
theorem eqTab_ok : ∀ t ks, eqTab t = some ks → EqOk Tryd.prog t ks := by
  intro t ks h
  unfold eqTab at h
  split at h
  · injection h with h; subst h; exact eq_24
  · injection h with h; subst h; exact eq_38
  · injection h with h; subst h; exact eq_49
  · injection h with h; subst h; exact eq_62
  · injection h with h; subst h; exact eq_65
  · injection h with h; subst h; exact eq_68
  · injection h with h; subst h; exact eq_78
  · injection h with h; subst h; exact eq_153
  · cases h
def gP : Pg Tryd.prog := ⟨by kernel_rfl, eqTab, eqTab_ok⟩
theorem gE_24 : gP.E 24 = some [.int .i64, .int .i64, .int .i64] := nr rfl
theorem gE_49 : gP.E 49 = some [.int .i64, .int .i64] := nr rfl
theorem gE_62 : gP.E 62 = some [.int .i64, .int .i64, .int .i64, .int .i64, .int .i64, .int .i64, .int .i64, .int .i64, .int .i64] := nr rfl
theorem gE_68 : gP.E 68 = some [.int .i64, .int .i64, .int .i64, .int .i64, .int .i64, .int .i64, .bool] := nr rfl
end Go.Proofs.YtlcfgpjgjdjpoaaDoor
