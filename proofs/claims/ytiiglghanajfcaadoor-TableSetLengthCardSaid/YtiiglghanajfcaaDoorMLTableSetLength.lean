/-
  Mirrors of functions, written by wip/mir.py.
-/
import Derived.Test.YtiiglghanajfcaaDoorGf
import Derived.Test.YtiiglghanajfcaaDoorTy
import Derived.Test.YtiiglghanajfcaaDoorGz
import Derived.Test.YtiiglghanajfcaaDoorIo
import Derived.Test.YtiiglghanajfcaaDoorGo
import Derived.Test.YtiiglghanajfcaaDoorMB
namespace Go.Proofs.YtiiglghanajfcaaDoor
open Go.RowKit
open Nat renaming reduceAdd → nA, reduceSub → nS, reduceMul → nM, reduceEqDiff → nE, reduceLeDiff → nL, reduceLT → nT, reduceBEq → nB
open Int renaming reduceLT → iT, reduceToNat → iN, reduceEq → iE
set_option linter.unusedVariables false
set_option linter.unusedSimpArgs false
set_option maxRecDepth 100000

set_option maxHeartbeats 8000000 in
theorem tb_SetLength_specZ {a0 : TableTable} {a1 : Int} {a2 : Int} {y : TableTable × Int} (h : tb_SetLength a0 a1 a2 = some y) : SpecZ gP 17 [.agg [.d (.int .i64 a0.Work.e0.X), .d (.int .i64 a0.Work.e0.Y), .d (.int .i64 a0.Work.e0.Z), .d (.int .i64 a0.Work.e1.X), .d (.int .i64 a0.Work.e1.Y), .d (.int .i64 a0.Work.e1.Z), .d (.int .i64 a0.Work.e2.X), .d (.int .i64 a0.Work.e2.Y), .d (.int .i64 a0.Work.e2.Z), .d (.int .i64 a0.Work.e3.X), .d (.int .i64 a0.Work.e3.Y), .d (.int .i64 a0.Work.e3.Z), .d (.int .i64 a0.Work.e4.X), .d (.int .i64 a0.Work.e4.Y), .d (.int .i64 a0.Work.e4.Z), .d (.int .i64 a0.Work.e5.X), .d (.int .i64 a0.Work.e5.Y), .d (.int .i64 a0.Work.e5.Z), .d (.list (List.map encTableLength a0.Lengths))], .d (.int .i64 a1), .d (.int .i64 a2)] 48 (List.map encTableLength y.1.Lengths) (fun x => .tuple (.agg ([.d (.int .i64 y.1.Work.e0.X), .d (.int .i64 y.1.Work.e0.Y), .d (.int .i64 y.1.Work.e0.Z), .d (.int .i64 y.1.Work.e1.X), .d (.int .i64 y.1.Work.e1.Y), .d (.int .i64 y.1.Work.e1.Z), .d (.int .i64 y.1.Work.e2.X), .d (.int .i64 y.1.Work.e2.Y), .d (.int .i64 y.1.Work.e2.Z), .d (.int .i64 y.1.Work.e3.X), .d (.int .i64 y.1.Work.e3.Y), .d (.int .i64 y.1.Work.e3.Z), .d (.int .i64 y.1.Work.e4.X), .d (.int .i64 y.1.Work.e4.Y), .d (.int .i64 y.1.Work.e4.Z), .d (.int .i64 y.1.Work.e5.X), .d (.int .i64 y.1.Work.e5.Y), .d (.int .i64 y.1.Work.e5.Z)] ++ [x]) :: [.d (.int .i64 y.2)])) := by
  refine specZ_mir Tryd.func17 rfl (by kernel_rfl) (by kernel_rfl) (fun y : TableTable × Int => List.map encTableLength y.1.Lengths) (fun y : TableTable × Int => fun x => .tuple (.agg ([.d (.int .i64 y.1.Work.e0.X), .d (.int .i64 y.1.Work.e0.Y), .d (.int .i64 y.1.Work.e0.Z), .d (.int .i64 y.1.Work.e1.X), .d (.int .i64 y.1.Work.e1.Y), .d (.int .i64 y.1.Work.e1.Z), .d (.int .i64 y.1.Work.e2.X), .d (.int .i64 y.1.Work.e2.Y), .d (.int .i64 y.1.Work.e2.Z), .d (.int .i64 y.1.Work.e3.X), .d (.int .i64 y.1.Work.e3.Y), .d (.int .i64 y.1.Work.e3.Z), .d (.int .i64 y.1.Work.e4.X), .d (.int .i64 y.1.Work.e4.Y), .d (.int .i64 y.1.Work.e4.Z), .d (.int .i64 y.1.Work.e5.X), .d (.int .i64 y.1.Work.e5.Y), .d (.int .i64 y.1.Work.e5.Z)] ++ [x]) :: [.d (.int .i64 y.2)])) (ctx_last rfl rfl) (sc_map (fun _ => rfl) _) ?_ h
  unfold tb_SetLength
  simp only [List.replicate, List.length, nS, nA, Tryd.ntmps17, SV]
  refine Mir.seqK (Mir.region fun e h => ?_)
  simp only [↓reduceIte, reduceCtorEq, nA, nS, nM, nE, nL, nT, nB, iT, iN, iE, and_self, SR, SV, zero_33, ENMB, rmap_set, spD]
  refine Mir.use (e := e) ?_ h
  refine Mir.seqK (Mir.region fun e h => ?_)
  simp only [↓reduceIte, reduceCtorEq, nA, nS, nM, nE, nL, nT, nB, iT, iN, iE, and_self, SR, SV, zero_48, pl_48, sz_48, ENMB, rmap_set, spD]
  refine Mir.use (e := e) ?_ h
  refine Mir.seqK (Mir.seqK (Mir.joinO (fun v103 : Bool => [U, .d (.int .i64 a1), U, .ptr 0 0, U, U, .ptr 1 0, U, .ptr 2 0, U, U, U, U, U, U, U, U, U, U, U, U, U, .d (.bool v103), U, U, U, U, U, U, U, U, U, U, U, U, U, U, U, U, U, U, U, U, U, U, U]) (fun v103 : Bool => ⟨[[.d (.int .i64 a0.Work.e0.X), .d (.int .i64 a0.Work.e0.Y), .d (.int .i64 a0.Work.e0.Z), .d (.int .i64 a0.Work.e1.X), .d (.int .i64 a0.Work.e1.Y), .d (.int .i64 a0.Work.e1.Z), .d (.int .i64 a0.Work.e2.X), .d (.int .i64 a0.Work.e2.Y), .d (.int .i64 a0.Work.e2.Z), .d (.int .i64 a0.Work.e3.X), .d (.int .i64 a0.Work.e3.Y), .d (.int .i64 a0.Work.e3.Z), .d (.int .i64 a0.Work.e4.X), .d (.int .i64 a0.Work.e4.Y), .d (.int .i64 a0.Work.e4.Z), .d (.int .i64 a0.Work.e5.X), .d (.int .i64 a0.Work.e5.Y), .d (.int .i64 a0.Work.e5.Z), .d (.list (List.map encTableLength a0.Lengths))], [.d (.int .i64 0), .d (.int .i64 0), .d (.int .i64 0), .d (.int .i64 0), .d (.int .i64 0), .d (.int .i64 0), .d (.int .i64 0), .d (.int .i64 0), .d (.int .i64 0), .d (.int .i64 0), .d (.int .i64 0), .d (.int .i64 0), .d (.int .i64 0), .d (.int .i64 0), .d (.int .i64 0), .d (.int .i64 0), .d (.int .i64 0), .d (.int .i64 0), .nil], [.d (.int .i64 a1), .d (.int .i64 a2)]], []⟩) (fun _ => rfl) ?_ ?_))
  ·refine Mir.bind fun y101 hy1 => Mir.ite (fun hb2 => ?_) (fun hb2 => ?_)
   ·refine Mir.region fun e h => ?_
    simp only [↓reduceIte, reduceCtorEq, nA, nS, nM, nE, nL, nT, nB, iT, iN, iE, and_self, SR, SV, ag_33, sz_33, ENMB, hb2]
    refine SpecS.by (tb_Valid_spec hy1) (by simp only [↓reduceIte, reduceCtorEq, nA, nE, nL, and_self, and_true, true_and, SL, ENMB, hb2]) ?_
    simp only [↓reduceIte, reduceCtorEq, nA, nS, nM, nE, nL, nT, nB, iT, iN, iE, and_self, SR, SV, ENMB, hb2]
    cases h
    simp only [↓reduceIte, reduceCtorEq, nA, nE, nL, and_self, and_true, true_and, SL, ENMB, hb2]
   ·refine Mir.bind fun y102 hy3 => Mir.region fun e h => ?_
    simp only [↓reduceIte, reduceCtorEq, nA, nS, nM, nE, nL, nT, nB, iT, iN, iE, and_self, SR, SV, ag_33, sz_33, ENMB, hb2]
    refine SpecS.by (tb_Valid_spec hy1) (by simp only [↓reduceIte, reduceCtorEq, nA, nE, nL, and_self, and_true, true_and, SL, ENMB, hb2]) ?_
    simp only [↓reduceIte, reduceCtorEq, nA, nS, nM, nE, nL, nT, nB, iT, iN, iE, and_self, SR, SV, ag_48, sz_48, ENMB, hb2]
    refine SpecS.by (tb_entry_spec hy3) (by simp only [↓reduceIte, reduceCtorEq, nA, nE, nL, and_self, and_true, true_and, SL, ENMB, hb2]) ?_
    simp only [↓reduceIte, reduceCtorEq, nA, nS, nM, nE, nL, nT, nB, iT, iN, iE, and_self, SR, SV, ENMB, hb2]
    cases h
    simp only [↓reduceIte, reduceCtorEq, nA, nE, nL, and_self, and_true, true_and, SL, ENMB, hb2]
  ·intro v103
   refine Mir.toK (Mir.cond rfl (fun hb5 => ?_) (fun hb5 => ?_))
   ·refine Mir.seqK (Mir.region fun e h => ?_)
    simp only [↓reduceIte, reduceCtorEq, nA, nS, nM, nE, nL, nT, nB, iT, iN, iE, and_self, SR, SV, zero_33, pl_33, sz_33, ENMB]
    refine Mir.use (e := e) ?_ h
    refine Mir.ret fun e h => ?_
    cases h
    simp only [↓reduceIte, reduceCtorEq, nA, nE, nL, and_self, and_true, true_and, SL, ENMB, Tryd.results17, ag_33, sz_33, fz_r, fz_n]
    exact zr_nil rfl rfl
   ·refine Mir.skip (Mir.toK (Mir.seqK (Mir.bind fun v105 hv7 => Mir.region fun e h => ?_)))
    simp only [↓reduceIte, reduceCtorEq, nA, nS, nM, nE, nL, nT, nB, iT, iN, iE, and_self, SR, SV, ag_33, sz_33, ENMB, rmap_set, spD]
    refine SpecS.inl Tryd.func30 rfl (by kernel_rfl) (by kernel_rfl) (fun v105 : (List TableLength) => .agg [.d (.int .i64 a0.Work.e0.X), .d (.int .i64 a0.Work.e0.Y), .d (.int .i64 a0.Work.e0.Z), .d (.int .i64 a0.Work.e1.X), .d (.int .i64 a0.Work.e1.Y), .d (.int .i64 a0.Work.e1.Z), .d (.int .i64 a0.Work.e2.X), .d (.int .i64 a0.Work.e2.Y), .d (.int .i64 a0.Work.e2.Z), .d (.int .i64 a0.Work.e3.X), .d (.int .i64 a0.Work.e3.Y), .d (.int .i64 a0.Work.e3.Z), .d (.int .i64 a0.Work.e4.X), .d (.int .i64 a0.Work.e4.Y), .d (.int .i64 a0.Work.e4.Z), .d (.int .i64 a0.Work.e5.X), .d (.int .i64 a0.Work.e5.Y), .d (.int .i64 a0.Work.e5.Z), .gr 5 0]) (fun v105 : (List TableLength) => ⟨[[.d (.int .i64 a0.Work.e0.X), .d (.int .i64 a0.Work.e0.Y), .d (.int .i64 a0.Work.e0.Z), .d (.int .i64 a0.Work.e1.X), .d (.int .i64 a0.Work.e1.Y), .d (.int .i64 a0.Work.e1.Z), .d (.int .i64 a0.Work.e2.X), .d (.int .i64 a0.Work.e2.Y), .d (.int .i64 a0.Work.e2.Z), .d (.int .i64 a0.Work.e3.X), .d (.int .i64 a0.Work.e3.Y), .d (.int .i64 a0.Work.e3.Z), .d (.int .i64 a0.Work.e4.X), .d (.int .i64 a0.Work.e4.Y), .d (.int .i64 a0.Work.e4.Z), .d (.int .i64 a0.Work.e5.X), .d (.int .i64 a0.Work.e5.Y), .d (.int .i64 a0.Work.e5.Z), .d (.list (List.map encTableLength a0.Lengths))], [.d (.int .i64 0), .d (.int .i64 0), .d (.int .i64 0), .d (.int .i64 0), .d (.int .i64 0), .d (.int .i64 0), .d (.int .i64 0), .d (.int .i64 0), .d (.int .i64 0), .d (.int .i64 0), .d (.int .i64 0), .d (.int .i64 0), .d (.int .i64 0), .d (.int .i64 0), .d (.int .i64 0), .d (.int .i64 0), .d (.int .i64 0), .d (.int .i64 0), .nil], [.d (.int .i64 a1), .d (.int .i64 a2)], [.d (.int .i64 a0.Work.e0.X), .d (.int .i64 a0.Work.e0.Y), .d (.int .i64 a0.Work.e0.Z), .d (.int .i64 a0.Work.e1.X), .d (.int .i64 a0.Work.e1.Y), .d (.int .i64 a0.Work.e1.Z), .d (.int .i64 a0.Work.e2.X), .d (.int .i64 a0.Work.e2.Y), .d (.int .i64 a0.Work.e2.Z), .d (.int .i64 a0.Work.e3.X), .d (.int .i64 a0.Work.e3.Y), .d (.int .i64 a0.Work.e3.Z), .d (.int .i64 a0.Work.e4.X), .d (.int .i64 a0.Work.e4.Y), .d (.int .i64 a0.Work.e4.Z), .d (.int .i64 a0.Work.e5.X), .d (.int .i64 a0.Work.e5.Y), .d (.int .i64 a0.Work.e5.Z), .gr 5 0], [.d (.int .i64 a0.Work.e0.X), .d (.int .i64 a0.Work.e0.Y), .d (.int .i64 a0.Work.e0.Z), .d (.int .i64 a0.Work.e1.X), .d (.int .i64 a0.Work.e1.Y), .d (.int .i64 a0.Work.e1.Z), .d (.int .i64 a0.Work.e2.X), .d (.int .i64 a0.Work.e2.Y), .d (.int .i64 a0.Work.e2.Z), .d (.int .i64 a0.Work.e3.X), .d (.int .i64 a0.Work.e3.Y), .d (.int .i64 a0.Work.e3.Z), .d (.int .i64 a0.Work.e4.X), .d (.int .i64 a0.Work.e4.Y), .d (.int .i64 a0.Work.e4.Z), .d (.int .i64 a0.Work.e5.X), .d (.int .i64 a0.Work.e5.Y), .d (.int .i64 a0.Work.e5.Z), .gr 5 0], [.rowc 48 0 (List.map encTableLength v105)]], []⟩) hv7 rfl ?_ ?_
    ·simp only [List.replicate, List.length, nS, nA, Tryd.ntmps30, SV]
     refine Mir.seqK (Mir.region fun e h => ?_)
     simp only [↓reduceIte, reduceCtorEq, nA, nS, nM, nE, nL, nT, nB, iT, iN, iE, and_self, SR, SV, zero_33, ENMB]
     refine Mir.use (e := e) ?_ h
     refine Mir.seqK (Mir.bind fun y106 hy8 => Mir.region fun e h => ?_)
     simp only [↓reduceIte, reduceCtorEq, nA, nS, nM, nE, nL, nT, nB, iT, iN, iE, and_self, SR, SV, fld_33_1, sz_31, ag_31, ENMB]
     refine SpecY.toS (slices_Clone_table_Length_table_Length_specY hy8) (by simp only [↓reduceIte, reduceCtorEq, nA, nE, nL, and_self, and_true, true_and, SL, ENMB]) ?_
     simp only [↓reduceIte, reduceCtorEq, nA, nS, nM, nE, nL, nT, nB, iT, iN, iE, and_self, SR, SV, fld_33_1, sz_31, ENMB]
     refine Mir.use (e := e) ?_ h
     refine Mir.seqK (Mir.region fun e h => ?_)
     simp only [↓reduceIte, reduceCtorEq, nA, nS, nM, nE, nL, nT, nB, iT, iN, iE, and_self, SR, SV, ag_33, sz_33, ENMB]
     refine Mir.use (e := e) ?_ h
     refine Mir.ret fun e h => ?_
     cases h
     simp only [↓reduceIte, reduceCtorEq, nA, nE, nL, and_self, and_true, true_and, SL, ENMB, Tryd.results30, ag_33, sz_33]
    simp only [↓reduceIte, reduceCtorEq, nA, nS, nM, nE, nL, nT, nB, iT, iN, iE, and_self, SR, SV, zero_33, sz_33, ENMB, rmap_set, spD]
    refine Mir.use (e := e) ?_ h
    refine Mir.seqK (Mir.seqK (Mir.bind fun y107 hy9 => Mir.region fun e h => ?_))
    simp only [↓reduceIte, reduceCtorEq, nA, nS, nM, nE, nL, nT, nB, iT, iN, iE, and_self, SR, SV, ag_33, sz_33, ENMB, rmap_set, spD]
    refine SpecS.byZ (tb_find_spec hy9) rfl rfl ?_
    simp only [↓reduceIte, reduceCtorEq, nA, nS, nM, nE, nL, nT, nB, iT, iN, iE, and_self, SR, SV, ENMB, rmap_set, spD]
    refine Mir.use (e := e) ?_ h
    refine Mir.seqK (Mir.region fun e h => ?_)
    simp only [↓reduceIte, reduceCtorEq, nA, nS, nM, nE, nL, nT, nB, iT, iN, iE, and_self, SR, SV, ENMB, rmap_set, spD]
    refine Mir.use (e := e) ?_ h
    refine Mir.cond rfl (fun hb14 => ?_) (fun hb14 => ?_)
    ·refine Mir.bind fun e109 q15 => ?_
     replace q15 := gt_ok q15
     refine Mir.regionW fun e h => regW.alt 4 rfl ?_
     simp only [↓reduceIte, reduceCtorEq, nA, nS, nM, nE, nL, nT, nB, iT, iN, iE, and_self, SR, SV, w_none, w_eq, and_true, true_and, tkS, tk0, tkN, dpS, dp0, fld_33_1, sz_31, ag_31, ag_48, sz_48, ENMB, rmap_set, spD]
     refine alt_indexR rfl rfl rfl und_31 sz_48 (row_lo q15.1) (row_hi q15.2 q15.1) (regW.alt 0 rfl ?_)
     simp only [↓reduceIte, reduceCtorEq, nA, nS, nM, nE, nL, nT, nB, iT, iN, iE, and_self, SR, SV, w_none, w_eq, and_true, true_and, tkS, tk0, tkN, dpS, dp0, und_31, sz_48, ENMB, rmap_set, spD]
     refine alt_storeR rfl rfl (row_at q15.2) rfl rfl sz_48 rfl (Nat.le_of_ble_eq_true rfl) (regW.of ?_)
     simp only [↓reduceIte, reduceCtorEq, nA, nS, nM, nE, nL, nT, nB, iT, iN, iE, and_self, SR, SV, w_none, w_eq, and_true, true_and, tkS, tk0, tkN, dpS, dp0, sz_48, ENMB, rmap_set, spD]
     refine Mir.use (e := e) ?_ h
     refine Mir.seqK (Mir.region fun e h => ?_)
     simp only [↓reduceIte, reduceCtorEq, nA, nS, nM, nE, nL, nT, nB, iT, iN, iE, and_self, SR, SV, ag_33, sz_33, ENMB, rmap_set, spD]
     refine Mir.use (e := e) ?_ h
     refine Mir.ret fun e h => ?_
     cases h
     simp only [↓reduceIte, reduceCtorEq, nA, nE, nL, and_self, and_true, true_and, SL, ENMB, rmap_set, spD, Tryd.results17, ag_33, sz_33, fz_r, fz_n]
     exact zr_gr 5 0 rfl rfl
    ·refine Mir.guard fun q16 => Mir.guard fun q17 => Mir.region fun e h => ?_
     simp only [↓reduceIte, reduceCtorEq, nA, nS, nM, nE, nL, nT, nB, iT, iN, iE, and_self, SR, SV, fld_33_1, sz_31, ag_31, ag_48, sz_48, und_31, zero_48, (nr rfl : okLen 2 = true), ENMB, rmap_set, spD]
     refine specS_ins_TableLength encTableLength v105 (TableLength.mk a1 a2) rfl (of_decide_eq_true q16).1 (of_decide_eq_true q16).2 q17 rfl ?_
     simp only [↓reduceIte, reduceCtorEq, nA, nS, nM, nE, nL, nT, nB, iT, iN, iE, and_self, SR, SV, fld_33_1, sz_31, ENMB, rmap_set, spD]
     refine Mir.use (e := e) ?_ h
     refine Mir.seqK (Mir.region fun e h => ?_)
     simp only [↓reduceIte, reduceCtorEq, nA, nS, nM, nE, nL, nT, nB, iT, iN, iE, and_self, SR, SV, ag_33, sz_33, ENMB, rmap_set, spD]
     refine Mir.use (e := e) ?_ h
     refine Mir.ret fun e h => ?_
     cases h
     simp only [↓reduceIte, reduceCtorEq, nA, nE, nL, and_self, and_true, true_and, SL, ENMB, rmap_set, spD, Tryd.results17, ag_33, sz_33, fz_r, fz_n]
     exact zr_gr 5 1 rfl rfl

def l45_TableSetLength (a0 : R45Table) (a1 : Int) (a2 : Int) : Option Bool :=
  bindO (bindO (l45_awake ) fun (y101 : Bool) =>
      if y101 = true then
        some (decide ((a0.Lengths.length : Int) > 40))
      else
        some true) fun (v102 : Bool) =>
  if v102 = true then
    bindO (l45_awake ) fun (y104 : Bool) =>
    some y104
  else
    bindO (l45_theirs a0) fun (y105 : TableTable) =>
    bindO (tb_SetLength y105 a1 a2) fun (y106 : TableTable × Int) =>
    bindO (r45_SetLength (R45Table.mk a0.Work a0.Lengths) a1 a2) fun (y107 : R45Table × Int) =>
    bindO (bindO (l45_same y106.1 y106.2 y107.1 y107.2) fun (y108 : Bool) =>
        if y108 = true then
          bindO (l45_own y105) fun (y109 : R45Table) =>
          bindO (r45_Same y109 (R45Table.mk a0.Work a0.Lengths)) fun (y110 : Bool) =>
          some (!y110)
        else
          some true) fun (v111 : Bool) =>
    if v111 = true then
      some false
    else
      bindO (guardO (okIdx y106.1.Lengths) (
          rangeX (fun (i140 : Nat) (e142 : TableLength) (v141 : (List TableLength)) =>
            bindO (gt v141 (i140 : Int)) fun (e144 : TableLength) =>
            some (.go (v141.set (Int.toNat (i140 : Int)) (TableLength.mk e144.Number (-1))))) (fun (v141 : (List TableLength)) => some v141) y106.1.Lengths 0 y106.1.Lengths)) fun (v128 : (List TableLength)) =>
      bindO (l45_own y105) fun (y145 : R45Table) =>
      bindO (r45_Same y145 (R45Table.mk a0.Work a0.Lengths)) fun (y146 : Bool) =>
      some y146
set_option maxHeartbeats 8000000 in
theorem l45_TableSetLength_spec {a0 : R45Table} {a1 : Int} {a2 : Int} {y : Bool} (h : l45_TableSetLength a0 a1 a2 = some y) : Spec gP 5 [.agg [.d (.int .i64 a0.Work.e0.X), .d (.int .i64 a0.Work.e0.Y), .d (.int .i64 a0.Work.e0.Z), .d (.int .i64 a0.Work.e1.X), .d (.int .i64 a0.Work.e1.Y), .d (.int .i64 a0.Work.e1.Z), .d (.int .i64 a0.Work.e2.X), .d (.int .i64 a0.Work.e2.Y), .d (.int .i64 a0.Work.e2.Z), .d (.int .i64 a0.Work.e3.X), .d (.int .i64 a0.Work.e3.Y), .d (.int .i64 a0.Work.e3.Z), .d (.int .i64 a0.Work.e4.X), .d (.int .i64 a0.Work.e4.Y), .d (.int .i64 a0.Work.e4.Z), .d (.int .i64 a0.Work.e5.X), .d (.int .i64 a0.Work.e5.Y), .d (.int .i64 a0.Work.e5.Z), .d (.list (List.map encR45Length a0.Lengths))], .d (.int .i64 a1), .d (.int .i64 a2)] (.d (.bool y)) := by
  refine spec_mir Tryd.func5 rfl (by kernel_rfl) (by kernel_rfl) (fun y : Bool => .d (.bool y)) ?_ h
  unfold l45_TableSetLength
  simp only [List.replicate, List.length, nS, nA, Tryd.ntmps5, SV]
  refine Mir.seqK (Mir.region fun e h => ?_)
  simp only [↓reduceIte, reduceCtorEq, nA, nS, nM, nE, nL, nT, nB, iT, iN, iE, and_self, SR, SV, ENMB, rmap_set, spD]
  refine Mir.use (e := e) ?_ h
  refine Mir.seqK (Mir.seqK (Mir.joinO (fun v102 : Bool => [U, .d (.int .i64 a1), .d (.int .i64 a2), .ptr 0 0, U, U, U, U, U, U, U, U, U, U, U, U, U, U, U, U, .d (.bool v102), U, U, U, U, U, U, U, U, U, U, U, U, U, U, U, U, U, U, U, U, U, U, U, U, U, U, U, U, U, U, U, U, U, U, U, U, U, U, U, U, U, U, U, U, U, U]) (fun v102 : Bool => ⟨[[.d (.int .i64 a0.Work.e0.X), .d (.int .i64 a0.Work.e0.Y), .d (.int .i64 a0.Work.e0.Z), .d (.int .i64 a0.Work.e1.X), .d (.int .i64 a0.Work.e1.Y), .d (.int .i64 a0.Work.e1.Z), .d (.int .i64 a0.Work.e2.X), .d (.int .i64 a0.Work.e2.Y), .d (.int .i64 a0.Work.e2.Z), .d (.int .i64 a0.Work.e3.X), .d (.int .i64 a0.Work.e3.Y), .d (.int .i64 a0.Work.e3.Z), .d (.int .i64 a0.Work.e4.X), .d (.int .i64 a0.Work.e4.Y), .d (.int .i64 a0.Work.e4.Z), .d (.int .i64 a0.Work.e5.X), .d (.int .i64 a0.Work.e5.Y), .d (.int .i64 a0.Work.e5.Z), .d (.list (List.map encR45Length a0.Lengths))]], []⟩) (fun _ => rfl) ?_ ?_))
  ·refine Mir.bind fun y101 hy1 => Mir.ite (fun hb2 => ?_) (fun hb2 => ?_)
   ·refine Mir.region fun e h => ?_
    simp only [↓reduceIte, reduceCtorEq, nA, nS, nM, nE, nL, nT, nB, iT, iN, iE, and_self, SR, SV, ENMB, hb2]
    refine SpecS.by (l45_awake_spec hy1) (rfl) ?_
    simp only [↓reduceIte, reduceCtorEq, nA, nS, nM, nE, nL, nT, nB, iT, iN, iE, and_self, SR, SV, fld_27_1, sz_25, ag_25, und_25, ENMB, hb2]
    cases h
    simp only [↓reduceIte, reduceCtorEq, nA, nE, nL, and_self, and_true, true_and, SL, ENMB, hb2]
   ·refine Mir.region fun e h => ?_
    simp only [↓reduceIte, reduceCtorEq, nA, nS, nM, nE, nL, nT, nB, iT, iN, iE, and_self, SR, SV, ENMB, hb2]
    refine SpecS.by (l45_awake_spec hy1) (rfl) ?_
    simp only [↓reduceIte, reduceCtorEq, nA, nS, nM, nE, nL, nT, nB, iT, iN, iE, and_self, SR, SV, ENMB, hb2]
    cases h
    simp only [↓reduceIte, reduceCtorEq, nA, nE, nL, and_self, and_true, true_and, SL, ENMB, hb2]
  ·intro v102
   refine Mir.toK (Mir.cond rfl (fun hb5 => ?_) (fun hb5 => ?_))
   ·refine Mir.seqK (Mir.bind fun y104 hy6 => Mir.region fun e h => ?_)
    simp only [↓reduceIte, reduceCtorEq, nA, nS, nM, nE, nL, nT, nB, iT, iN, iE, and_self, SR, SV, ENMB]
    refine SpecS.by (l45_awake_spec hy6) (rfl) ?_
    simp only [↓reduceIte, reduceCtorEq, nA, nS, nM, nE, nL, nT, nB, iT, iN, iE, and_self, SR, SV, ENMB]
    refine Mir.use (e := e) ?_ h
    refine Mir.ret fun e h => ?_
    cases h
    simp only [↓reduceIte, reduceCtorEq, nA, nE, nL, and_self, and_true, true_and, SL, ENMB, Tryd.results5]
   ·refine Mir.skip (Mir.toK (Mir.seqK (Mir.bind fun y105 hy7 => Mir.region fun e h => ?_)))
    simp only [↓reduceIte, reduceCtorEq, nA, nS, nM, nE, nL, nT, nB, iT, iN, iE, and_self, SR, SV, ag_27, sz_27, ENMB, rmap_set, spD]
    refine SpecS.by (l45_theirs_spec hy7) (by simp only [↓reduceIte, reduceCtorEq, nA, nE, nL, and_self, and_true, true_and, SL, ENMB, rmap_set, spD]) ?_
    simp only [↓reduceIte, reduceCtorEq, nA, nS, nM, nE, nL, nT, nB, iT, iN, iE, and_self, SR, SV, zero_33, sz_33, ENMB, rmap_set, spD]
    refine Mir.use (e := e) ?_ h
    refine Mir.seqK (Mir.bind fun y106 hy8 => Mir.region fun e h => ?_)
    simp only [↓reduceIte, reduceCtorEq, nA, nS, nM, nE, nL, nT, nB, iT, iN, iE, and_self, SR, SV, ag_33, sz_33, ENMB, rmap_set, spD]
    refine SpecZ.toS (tb_SetLength_specZ hy8) (by simp only [↓reduceIte, reduceCtorEq, nA, nE, nL, and_self, and_true, true_and, SL, ENMB, rmap_set, spD]) ?_
    simp only [↓reduceIte, reduceCtorEq, nA, nS, nM, nE, nL, nT, nB, iT, iN, iE, and_self, SR, SV, zero_33, sz_33, ENMB, rmap_set, spD]
    refine Mir.use (e := e) ?_ h
    refine Mir.seqK (Mir.bind fun y107 hy9 => Mir.region fun e h => ?_)
    simp only [↓reduceIte, reduceCtorEq, nA, nS, nM, nE, nL, nT, nB, iT, iN, iE, and_self, SR, SV, ag_27, sz_27, ENMB, rmap_set, spD]
    refine SpecS.by (r45_SetLength_spec hy9) (by simp only [↓reduceIte, reduceCtorEq, nA, nE, nL, and_self, and_true, true_and, SL, ENMB, rmap_set, spD]) ?_
    simp only [↓reduceIte, reduceCtorEq, nA, nS, nM, nE, nL, nT, nB, iT, iN, iE, and_self, SR, SV, zero_27, sz_27, ENMB, rmap_set, spD]
    refine Mir.use (e := e) ?_ h
    refine Mir.seqK (Mir.seqK (Mir.joinO (fun v111 : Bool => [U, U, U, .ptr 0 0, U, U, U, .ptr 1 0, .ptr 3 0, U, U, U, U, U, U, U, U, U, U, U, U, U, U, U, U, U, U, U, U, U, U, U, U, U, U, U, U, U, U, U, U, U, U, U, U, U, U, U, U, U, .d (.bool v111), U, U, U, U, U, U, U, U, U, U, U, U, U, U, U, U]) (fun v111 : Bool => ⟨[[.d (.int .i64 a0.Work.e0.X), .d (.int .i64 a0.Work.e0.Y), .d (.int .i64 a0.Work.e0.Z), .d (.int .i64 a0.Work.e1.X), .d (.int .i64 a0.Work.e1.Y), .d (.int .i64 a0.Work.e1.Z), .d (.int .i64 a0.Work.e2.X), .d (.int .i64 a0.Work.e2.Y), .d (.int .i64 a0.Work.e2.Z), .d (.int .i64 a0.Work.e3.X), .d (.int .i64 a0.Work.e3.Y), .d (.int .i64 a0.Work.e3.Z), .d (.int .i64 a0.Work.e4.X), .d (.int .i64 a0.Work.e4.Y), .d (.int .i64 a0.Work.e4.Z), .d (.int .i64 a0.Work.e5.X), .d (.int .i64 a0.Work.e5.Y), .d (.int .i64 a0.Work.e5.Z), .d (.list (List.map encR45Length a0.Lengths))], [.d (.int .i64 y105.Work.e0.X), .d (.int .i64 y105.Work.e0.Y), .d (.int .i64 y105.Work.e0.Z), .d (.int .i64 y105.Work.e1.X), .d (.int .i64 y105.Work.e1.Y), .d (.int .i64 y105.Work.e1.Z), .d (.int .i64 y105.Work.e2.X), .d (.int .i64 y105.Work.e2.Y), .d (.int .i64 y105.Work.e2.Z), .d (.int .i64 y105.Work.e3.X), .d (.int .i64 y105.Work.e3.Y), .d (.int .i64 y105.Work.e3.Z), .d (.int .i64 y105.Work.e4.X), .d (.int .i64 y105.Work.e4.Y), .d (.int .i64 y105.Work.e4.Z), .d (.int .i64 y105.Work.e5.X), .d (.int .i64 y105.Work.e5.Y), .d (.int .i64 y105.Work.e5.Z), .d (.list (List.map encTableLength y105.Lengths))], [.rowc 48 0 (List.map encTableLength y106.1.Lengths)], [.d (.int .i64 y106.1.Work.e0.X), .d (.int .i64 y106.1.Work.e0.Y), .d (.int .i64 y106.1.Work.e0.Z), .d (.int .i64 y106.1.Work.e1.X), .d (.int .i64 y106.1.Work.e1.Y), .d (.int .i64 y106.1.Work.e1.Z), .d (.int .i64 y106.1.Work.e2.X), .d (.int .i64 y106.1.Work.e2.Y), .d (.int .i64 y106.1.Work.e2.Z), .d (.int .i64 y106.1.Work.e3.X), .d (.int .i64 y106.1.Work.e3.Y), .d (.int .i64 y106.1.Work.e3.Z), .d (.int .i64 y106.1.Work.e4.X), .d (.int .i64 y106.1.Work.e4.Y), .d (.int .i64 y106.1.Work.e4.Z), .d (.int .i64 y106.1.Work.e5.X), .d (.int .i64 y106.1.Work.e5.Y), .d (.int .i64 y106.1.Work.e5.Z), .gr 2 0], [.d (.int .i64 y107.1.Work.e0.X), .d (.int .i64 y107.1.Work.e0.Y), .d (.int .i64 y107.1.Work.e0.Z), .d (.int .i64 y107.1.Work.e1.X), .d (.int .i64 y107.1.Work.e1.Y), .d (.int .i64 y107.1.Work.e1.Z), .d (.int .i64 y107.1.Work.e2.X), .d (.int .i64 y107.1.Work.e2.Y), .d (.int .i64 y107.1.Work.e2.Z), .d (.int .i64 y107.1.Work.e3.X), .d (.int .i64 y107.1.Work.e3.Y), .d (.int .i64 y107.1.Work.e3.Z), .d (.int .i64 y107.1.Work.e4.X), .d (.int .i64 y107.1.Work.e4.Y), .d (.int .i64 y107.1.Work.e4.Z), .d (.int .i64 y107.1.Work.e5.X), .d (.int .i64 y107.1.Work.e5.Y), .d (.int .i64 y107.1.Work.e5.Z), .d (.list (List.map encR45Length y107.1.Lengths))]], []⟩) (fun _ => rfl) ?_ ?_))
    ·refine Mir.bind fun y108 hy10 => Mir.ite (fun hb11 => ?_) (fun hb11 => ?_)
     ·refine Mir.bind fun y109 hy12 => Mir.bind fun y110 hy13 => Mir.regionA 4 9 [] [U, .d (.int .i64 a1), .d (.int .i64 a2), .ptr 0 0, U, U, U, .ptr 1 0, .ptr 3 0, .d (.int .i64 y106.2), .ptr 4 0, .d (.int .i64 y107.2), U, U, U, U, U, U, U, U, .d (.bool v102), U, .agg [.d (.int .i64 a0.Work.e0.X), .d (.int .i64 a0.Work.e0.Y), .d (.int .i64 a0.Work.e0.Z), .d (.int .i64 a0.Work.e1.X), .d (.int .i64 a0.Work.e1.Y), .d (.int .i64 a0.Work.e1.Z), .d (.int .i64 a0.Work.e2.X), .d (.int .i64 a0.Work.e2.Y), .d (.int .i64 a0.Work.e2.Z), .d (.int .i64 a0.Work.e3.X), .d (.int .i64 a0.Work.e3.Y), .d (.int .i64 a0.Work.e3.Z), .d (.int .i64 a0.Work.e4.X), .d (.int .i64 a0.Work.e4.Y), .d (.int .i64 a0.Work.e4.Z), .d (.int .i64 a0.Work.e5.X), .d (.int .i64 a0.Work.e5.Y), .d (.int .i64 a0.Work.e5.Z), .d (.list (List.map encR45Length a0.Lengths))], .agg [.d (.int .i64 y105.Work.e0.X), .d (.int .i64 y105.Work.e0.Y), .d (.int .i64 y105.Work.e0.Z), .d (.int .i64 y105.Work.e1.X), .d (.int .i64 y105.Work.e1.Y), .d (.int .i64 y105.Work.e1.Z), .d (.int .i64 y105.Work.e2.X), .d (.int .i64 y105.Work.e2.Y), .d (.int .i64 y105.Work.e2.Z), .d (.int .i64 y105.Work.e3.X), .d (.int .i64 y105.Work.e3.Y), .d (.int .i64 y105.Work.e3.Z), .d (.int .i64 y105.Work.e4.X), .d (.int .i64 y105.Work.e4.Y), .d (.int .i64 y105.Work.e4.Z), .d (.int .i64 y105.Work.e5.X), .d (.int .i64 y105.Work.e5.Y), .d (.int .i64 y105.Work.e5.Z), .d (.list (List.map encTableLength y105.Lengths))], .tuple [.agg [.d (.int .i64 y106.1.Work.e0.X), .d (.int .i64 y106.1.Work.e0.Y), .d (.int .i64 y106.1.Work.e0.Z), .d (.int .i64 y106.1.Work.e1.X), .d (.int .i64 y106.1.Work.e1.Y), .d (.int .i64 y106.1.Work.e1.Z), .d (.int .i64 y106.1.Work.e2.X), .d (.int .i64 y106.1.Work.e2.Y), .d (.int .i64 y106.1.Work.e2.Z), .d (.int .i64 y106.1.Work.e3.X), .d (.int .i64 y106.1.Work.e3.Y), .d (.int .i64 y106.1.Work.e3.Z), .d (.int .i64 y106.1.Work.e4.X), .d (.int .i64 y106.1.Work.e4.Y), .d (.int .i64 y106.1.Work.e4.Z), .d (.int .i64 y106.1.Work.e5.X), .d (.int .i64 y106.1.Work.e5.Y), .d (.int .i64 y106.1.Work.e5.Z), .gr 2 0], .d (.int .i64 y106.2)], .agg [.d (.int .i64 y105.Work.e0.X), .d (.int .i64 y105.Work.e0.Y), .d (.int .i64 y105.Work.e0.Z), .d (.int .i64 y105.Work.e1.X), .d (.int .i64 y105.Work.e1.Y), .d (.int .i64 y105.Work.e1.Z), .d (.int .i64 y105.Work.e2.X), .d (.int .i64 y105.Work.e2.Y), .d (.int .i64 y105.Work.e2.Z), .d (.int .i64 y105.Work.e3.X), .d (.int .i64 y105.Work.e3.Y), .d (.int .i64 y105.Work.e3.Z), .d (.int .i64 y105.Work.e4.X), .d (.int .i64 y105.Work.e4.Y), .d (.int .i64 y105.Work.e4.Z), .d (.int .i64 y105.Work.e5.X), .d (.int .i64 y105.Work.e5.Y), .d (.int .i64 y105.Work.e5.Z), .d (.list (List.map encTableLength y105.Lengths))], .d (.int .i64 a1), .d (.int .i64 a2), .tuple [.agg [.d (.int .i64 y106.1.Work.e0.X), .d (.int .i64 y106.1.Work.e0.Y), .d (.int .i64 y106.1.Work.e0.Z), .d (.int .i64 y106.1.Work.e1.X), .d (.int .i64 y106.1.Work.e1.Y), .d (.int .i64 y106.1.Work.e1.Z), .d (.int .i64 y106.1.Work.e2.X), .d (.int .i64 y106.1.Work.e2.Y), .d (.int .i64 y106.1.Work.e2.Z), .d (.int .i64 y106.1.Work.e3.X), .d (.int .i64 y106.1.Work.e3.Y), .d (.int .i64 y106.1.Work.e3.Z), .d (.int .i64 y106.1.Work.e4.X), .d (.int .i64 y106.1.Work.e4.Y), .d (.int .i64 y106.1.Work.e4.Z), .d (.int .i64 y106.1.Work.e5.X), .d (.int .i64 y106.1.Work.e5.Y), .d (.int .i64 y106.1.Work.e5.Z), .gr 2 0], .d (.int .i64 y106.2)], .agg [.d (.int .i64 y106.1.Work.e0.X), .d (.int .i64 y106.1.Work.e0.Y), .d (.int .i64 y106.1.Work.e0.Z), .d (.int .i64 y106.1.Work.e1.X), .d (.int .i64 y106.1.Work.e1.Y), .d (.int .i64 y106.1.Work.e1.Z), .d (.int .i64 y106.1.Work.e2.X), .d (.int .i64 y106.1.Work.e2.Y), .d (.int .i64 y106.1.Work.e2.Z), .d (.int .i64 y106.1.Work.e3.X), .d (.int .i64 y106.1.Work.e3.Y), .d (.int .i64 y106.1.Work.e3.Z), .d (.int .i64 y106.1.Work.e4.X), .d (.int .i64 y106.1.Work.e4.Y), .d (.int .i64 y106.1.Work.e4.Z), .d (.int .i64 y106.1.Work.e5.X), .d (.int .i64 y106.1.Work.e5.Y), .d (.int .i64 y106.1.Work.e5.Z), .gr 2 0], .d (.int .i64 y106.2), .tuple [.agg [.d (.int .i64 y107.1.Work.e0.X), .d (.int .i64 y107.1.Work.e0.Y), .d (.int .i64 y107.1.Work.e0.Z), .d (.int .i64 y107.1.Work.e1.X), .d (.int .i64 y107.1.Work.e1.Y), .d (.int .i64 y107.1.Work.e1.Z), .d (.int .i64 y107.1.Work.e2.X), .d (.int .i64 y107.1.Work.e2.Y), .d (.int .i64 y107.1.Work.e2.Z), .d (.int .i64 y107.1.Work.e3.X), .d (.int .i64 y107.1.Work.e3.Y), .d (.int .i64 y107.1.Work.e3.Z), .d (.int .i64 y107.1.Work.e4.X), .d (.int .i64 y107.1.Work.e4.Y), .d (.int .i64 y107.1.Work.e4.Z), .d (.int .i64 y107.1.Work.e5.X), .d (.int .i64 y107.1.Work.e5.Y), .d (.int .i64 y107.1.Work.e5.Z), .d (.list (List.map encR45Length y107.1.Lengths))], .d (.int .i64 y107.2)], .agg [.d (.int .i64 a0.Work.e0.X), .d (.int .i64 a0.Work.e0.Y), .d (.int .i64 a0.Work.e0.Z), .d (.int .i64 a0.Work.e1.X), .d (.int .i64 a0.Work.e1.Y), .d (.int .i64 a0.Work.e1.Z), .d (.int .i64 a0.Work.e2.X), .d (.int .i64 a0.Work.e2.Y), .d (.int .i64 a0.Work.e2.Z), .d (.int .i64 a0.Work.e3.X), .d (.int .i64 a0.Work.e3.Y), .d (.int .i64 a0.Work.e3.Z), .d (.int .i64 a0.Work.e4.X), .d (.int .i64 a0.Work.e4.Y), .d (.int .i64 a0.Work.e4.Z), .d (.int .i64 a0.Work.e5.X), .d (.int .i64 a0.Work.e5.Y), .d (.int .i64 a0.Work.e5.Z), .d (.list (List.map encR45Length a0.Lengths))], .d (.int .i64 a1), .d (.int .i64 a2), .tuple [.agg [.d (.int .i64 y107.1.Work.e0.X), .d (.int .i64 y107.1.Work.e0.Y), .d (.int .i64 y107.1.Work.e0.Z), .d (.int .i64 y107.1.Work.e1.X), .d (.int .i64 y107.1.Work.e1.Y), .d (.int .i64 y107.1.Work.e1.Z), .d (.int .i64 y107.1.Work.e2.X), .d (.int .i64 y107.1.Work.e2.Y), .d (.int .i64 y107.1.Work.e2.Z), .d (.int .i64 y107.1.Work.e3.X), .d (.int .i64 y107.1.Work.e3.Y), .d (.int .i64 y107.1.Work.e3.Z), .d (.int .i64 y107.1.Work.e4.X), .d (.int .i64 y107.1.Work.e4.Y), .d (.int .i64 y107.1.Work.e4.Z), .d (.int .i64 y107.1.Work.e5.X), .d (.int .i64 y107.1.Work.e5.Y), .d (.int .i64 y107.1.Work.e5.Z), .d (.list (List.map encR45Length y107.1.Lengths))], .d (.int .i64 y107.2)], .agg [.d (.int .i64 y107.1.Work.e0.X), .d (.int .i64 y107.1.Work.e0.Y), .d (.int .i64 y107.1.Work.e0.Z), .d (.int .i64 y107.1.Work.e1.X), .d (.int .i64 y107.1.Work.e1.Y), .d (.int .i64 y107.1.Work.e1.Z), .d (.int .i64 y107.1.Work.e2.X), .d (.int .i64 y107.1.Work.e2.Y), .d (.int .i64 y107.1.Work.e2.Z), .d (.int .i64 y107.1.Work.e3.X), .d (.int .i64 y107.1.Work.e3.Y), .d (.int .i64 y107.1.Work.e3.Z), .d (.int .i64 y107.1.Work.e4.X), .d (.int .i64 y107.1.Work.e4.Y), .d (.int .i64 y107.1.Work.e4.Z), .d (.int .i64 y107.1.Work.e5.X), .d (.int .i64 y107.1.Work.e5.Y), .d (.int .i64 y107.1.Work.e5.Z), .d (.list (List.map encR45Length y107.1.Lengths))], .d (.int .i64 y107.2), .agg [.d (.int .i64 y106.1.Work.e0.X), .d (.int .i64 y106.1.Work.e0.Y), .d (.int .i64 y106.1.Work.e0.Z), .d (.int .i64 y106.1.Work.e1.X), .d (.int .i64 y106.1.Work.e1.Y), .d (.int .i64 y106.1.Work.e1.Z), .d (.int .i64 y106.1.Work.e2.X), .d (.int .i64 y106.1.Work.e2.Y), .d (.int .i64 y106.1.Work.e2.Z), .d (.int .i64 y106.1.Work.e3.X), .d (.int .i64 y106.1.Work.e3.Y), .d (.int .i64 y106.1.Work.e3.Z), .d (.int .i64 y106.1.Work.e4.X), .d (.int .i64 y106.1.Work.e4.Y), .d (.int .i64 y106.1.Work.e4.Z), .d (.int .i64 y106.1.Work.e5.X), .d (.int .i64 y106.1.Work.e5.Y), .d (.int .i64 y106.1.Work.e5.Z), .gr 2 0], .d (.int .i64 y106.2), .agg [.d (.int .i64 y107.1.Work.e0.X), .d (.int .i64 y107.1.Work.e0.Y), .d (.int .i64 y107.1.Work.e0.Z), .d (.int .i64 y107.1.Work.e1.X), .d (.int .i64 y107.1.Work.e1.Y), .d (.int .i64 y107.1.Work.e1.Z), .d (.int .i64 y107.1.Work.e2.X), .d (.int .i64 y107.1.Work.e2.Y), .d (.int .i64 y107.1.Work.e2.Z), .d (.int .i64 y107.1.Work.e3.X), .d (.int .i64 y107.1.Work.e3.Y), .d (.int .i64 y107.1.Work.e3.Z), .d (.int .i64 y107.1.Work.e4.X), .d (.int .i64 y107.1.Work.e4.Y), .d (.int .i64 y107.1.Work.e4.Z), .d (.int .i64 y107.1.Work.e5.X), .d (.int .i64 y107.1.Work.e5.Y), .d (.int .i64 y107.1.Work.e5.Z), .d (.list (List.map encR45Length y107.1.Lengths))], .d (.int .i64 y107.2), .d (.bool y108), .d (.bool (!y108)), .d (.bool (!y108)), .agg [.d (.int .i64 y105.Work.e0.X), .d (.int .i64 y105.Work.e0.Y), .d (.int .i64 y105.Work.e0.Z), .d (.int .i64 y105.Work.e1.X), .d (.int .i64 y105.Work.e1.Y), .d (.int .i64 y105.Work.e1.Z), .d (.int .i64 y105.Work.e2.X), .d (.int .i64 y105.Work.e2.Y), .d (.int .i64 y105.Work.e2.Z), .d (.int .i64 y105.Work.e3.X), .d (.int .i64 y105.Work.e3.Y), .d (.int .i64 y105.Work.e3.Z), .d (.int .i64 y105.Work.e4.X), .d (.int .i64 y105.Work.e4.Y), .d (.int .i64 y105.Work.e4.Z), .d (.int .i64 y105.Work.e5.X), .d (.int .i64 y105.Work.e5.Y), .d (.int .i64 y105.Work.e5.Z), .d (.list (List.map encTableLength y105.Lengths))], .agg [.d (.int .i64 y109.Work.e0.X), .d (.int .i64 y109.Work.e0.Y), .d (.int .i64 y109.Work.e0.Z), .d (.int .i64 y109.Work.e1.X), .d (.int .i64 y109.Work.e1.Y), .d (.int .i64 y109.Work.e1.Z), .d (.int .i64 y109.Work.e2.X), .d (.int .i64 y109.Work.e2.Y), .d (.int .i64 y109.Work.e2.Z), .d (.int .i64 y109.Work.e3.X), .d (.int .i64 y109.Work.e3.Y), .d (.int .i64 y109.Work.e3.Z), .d (.int .i64 y109.Work.e4.X), .d (.int .i64 y109.Work.e4.Y), .d (.int .i64 y109.Work.e4.Z), .d (.int .i64 y109.Work.e5.X), .d (.int .i64 y109.Work.e5.Y), .d (.int .i64 y109.Work.e5.Z), .d (.list (List.map encR45Length y109.Lengths))], .agg [.d (.int .i64 a0.Work.e0.X), .d (.int .i64 a0.Work.e0.Y), .d (.int .i64 a0.Work.e0.Z), .d (.int .i64 a0.Work.e1.X), .d (.int .i64 a0.Work.e1.Y), .d (.int .i64 a0.Work.e1.Z), .d (.int .i64 a0.Work.e2.X), .d (.int .i64 a0.Work.e2.Y), .d (.int .i64 a0.Work.e2.Z), .d (.int .i64 a0.Work.e3.X), .d (.int .i64 a0.Work.e3.Y), .d (.int .i64 a0.Work.e3.Z), .d (.int .i64 a0.Work.e4.X), .d (.int .i64 a0.Work.e4.Y), .d (.int .i64 a0.Work.e4.Z), .d (.int .i64 a0.Work.e5.X), .d (.int .i64 a0.Work.e5.Y), .d (.int .i64 a0.Work.e5.Z), .d (.list (List.map encR45Length a0.Lengths))], .d (.bool y110), .d (.bool (!y110)), .d (.bool (!y110)), U, U, U, U, U, U, U, U, U, U, U, U, U, U, U, U] ⟨[[.d (.int .i64 a0.Work.e0.X), .d (.int .i64 a0.Work.e0.Y), .d (.int .i64 a0.Work.e0.Z), .d (.int .i64 a0.Work.e1.X), .d (.int .i64 a0.Work.e1.Y), .d (.int .i64 a0.Work.e1.Z), .d (.int .i64 a0.Work.e2.X), .d (.int .i64 a0.Work.e2.Y), .d (.int .i64 a0.Work.e2.Z), .d (.int .i64 a0.Work.e3.X), .d (.int .i64 a0.Work.e3.Y), .d (.int .i64 a0.Work.e3.Z), .d (.int .i64 a0.Work.e4.X), .d (.int .i64 a0.Work.e4.Y), .d (.int .i64 a0.Work.e4.Z), .d (.int .i64 a0.Work.e5.X), .d (.int .i64 a0.Work.e5.Y), .d (.int .i64 a0.Work.e5.Z), .d (.list (List.map encR45Length a0.Lengths))], [.d (.int .i64 y105.Work.e0.X), .d (.int .i64 y105.Work.e0.Y), .d (.int .i64 y105.Work.e0.Z), .d (.int .i64 y105.Work.e1.X), .d (.int .i64 y105.Work.e1.Y), .d (.int .i64 y105.Work.e1.Z), .d (.int .i64 y105.Work.e2.X), .d (.int .i64 y105.Work.e2.Y), .d (.int .i64 y105.Work.e2.Z), .d (.int .i64 y105.Work.e3.X), .d (.int .i64 y105.Work.e3.Y), .d (.int .i64 y105.Work.e3.Z), .d (.int .i64 y105.Work.e4.X), .d (.int .i64 y105.Work.e4.Y), .d (.int .i64 y105.Work.e4.Z), .d (.int .i64 y105.Work.e5.X), .d (.int .i64 y105.Work.e5.Y), .d (.int .i64 y105.Work.e5.Z), .d (.list (List.map encTableLength y105.Lengths))], [.rowc 48 0 (List.map encTableLength y106.1.Lengths)], [.d (.int .i64 y106.1.Work.e0.X), .d (.int .i64 y106.1.Work.e0.Y), .d (.int .i64 y106.1.Work.e0.Z), .d (.int .i64 y106.1.Work.e1.X), .d (.int .i64 y106.1.Work.e1.Y), .d (.int .i64 y106.1.Work.e1.Z), .d (.int .i64 y106.1.Work.e2.X), .d (.int .i64 y106.1.Work.e2.Y), .d (.int .i64 y106.1.Work.e2.Z), .d (.int .i64 y106.1.Work.e3.X), .d (.int .i64 y106.1.Work.e3.Y), .d (.int .i64 y106.1.Work.e3.Z), .d (.int .i64 y106.1.Work.e4.X), .d (.int .i64 y106.1.Work.e4.Y), .d (.int .i64 y106.1.Work.e4.Z), .d (.int .i64 y106.1.Work.e5.X), .d (.int .i64 y106.1.Work.e5.Y), .d (.int .i64 y106.1.Work.e5.Z), .gr 2 0], [.d (.int .i64 y107.1.Work.e0.X), .d (.int .i64 y107.1.Work.e0.Y), .d (.int .i64 y107.1.Work.e0.Z), .d (.int .i64 y107.1.Work.e1.X), .d (.int .i64 y107.1.Work.e1.Y), .d (.int .i64 y107.1.Work.e1.Z), .d (.int .i64 y107.1.Work.e2.X), .d (.int .i64 y107.1.Work.e2.Y), .d (.int .i64 y107.1.Work.e2.Z), .d (.int .i64 y107.1.Work.e3.X), .d (.int .i64 y107.1.Work.e3.Y), .d (.int .i64 y107.1.Work.e3.Z), .d (.int .i64 y107.1.Work.e4.X), .d (.int .i64 y107.1.Work.e4.Y), .d (.int .i64 y107.1.Work.e4.Z), .d (.int .i64 y107.1.Work.e5.X), .d (.int .i64 y107.1.Work.e5.Y), .d (.int .i64 y107.1.Work.e5.Z), .d (.list (List.map encR45Length y107.1.Lengths))]], []⟩ (by kernel_rfl) (fun e h => ?_) (fun e h => ?_)
      ·simp only [↓reduceIte, reduceCtorEq, nA, nS, nM, nE, nL, nT, nB, iT, iN, iE, and_self, SR, SV, w_none, w_eq, and_true, true_and, tkS, tk0, tkN, dpS, dp0, sepL_nil, sepL_cons, sepV_ne, sepV_d, sepV_i, true_and, Bool.and_self, ag_33, sz_33, ag_27, sz_27, ENMB, hb11]
       refine regA.one (j := 4) (by kernel_rfl) rfl (regW.of ?_)
       simp only [↓reduceIte, reduceCtorEq, nA, nS, nM, nE, nL, nT, nB, iT, iN, iE, and_self, SR, SV, w_none, w_eq, and_true, true_and, tkS, tk0, tkN, dpS, dp0, ENMB, hb11]
       refine SpecS.byZ (l45_same_spec hy10) rfl rfl ?_
       simp only [↓reduceIte, reduceCtorEq, nA, nS, nM, nE, nL, nT, nB, iT, iN, iE, and_self, SR, SV, w_none, w_eq, and_true, true_and, tkS, tk0, tkN, dpS, dp0, ENMB, hb11]
       refine regA.one (j := 5) (by kernel_rfl) rfl (regW.of ?_)
       simp only [↓reduceIte, reduceCtorEq, nA, nS, nM, nE, nL, nT, nB, iT, iN, iE, and_self, SR, SV, w_none, w_eq, and_true, true_and, tkS, tk0, tkN, dpS, dp0, ENMB, hb11]
       refine regA.one (j := 6) (by kernel_rfl) rfl (regW.of ?_)
       simp only [↓reduceIte, reduceCtorEq, nA, nS, nM, nE, nL, nT, nB, iT, iN, iE, and_self, SR, SV, w_none, w_eq, and_true, true_and, tkS, tk0, tkN, dpS, dp0, ENMB, hb11]
       refine regA.two (j := 7) (k := 9) (by kernel_rfl) rfl rfl ?_ ?_
       ·refine regW.of ?_
        simp only [↓reduceIte, reduceCtorEq, nA, nS, nM, nE, nL, nT, nB, iT, iN, iE, and_self, SR, SV, w_none, w_eq, and_true, true_and, tkS, tk0, tkN, dpS, dp0, ag_33, sz_33, ENMB, hb11]
        refine regA.two (j := 8) (k := 9) (by kernel_rfl) rfl rfl ?_ ?_
        ·refine regW.of ?_
         simp only [↓reduceIte, reduceCtorEq, nA, nS, nM, nE, nL, nT, nB, iT, iN, iE, and_self, SR, SV, w_none, w_eq, and_true, true_and, tkS, tk0, tkN, dpS, dp0, ENMB, hb11]
         refine SpecS.by (l45_own_spec hy12) (by simp only [↓reduceIte, reduceCtorEq, nA, nE, nL, and_self, and_true, true_and, SL, ENMB, hb11]) ?_
         simp only [↓reduceIte, reduceCtorEq, nA, nS, nM, nE, nL, nT, nB, iT, iN, iE, and_self, SR, SV, w_none, w_eq, and_true, true_and, tkS, tk0, tkN, dpS, dp0, ENMB, hb11]
         refine regA.one (j := 9) (by kernel_rfl) rfl (regW.of ?_)
         simp only [↓reduceIte, reduceCtorEq, nA, nS, nM, nE, nL, nT, nB, iT, iN, iE, and_self, SR, SV, w_none, w_eq, and_true, true_and, tkS, tk0, tkN, dpS, dp0, ag_27, sz_27, ENMB, hb11]
         refine regA.one (j := 10) (by kernel_rfl) rfl (regW.of ?_)
         simp only [↓reduceIte, reduceCtorEq, nA, nS, nM, nE, nL, nT, nB, iT, iN, iE, and_self, SR, SV, w_none, w_eq, and_true, true_and, tkS, tk0, tkN, dpS, dp0, ENMB, hb11]
         refine SpecS.by (r45_Same_spec hy13) (by simp only [↓reduceIte, reduceCtorEq, nA, nE, nL, and_self, and_true, true_and, SL, ENMB, hb11]) ?_
         simp only [↓reduceIte, reduceCtorEq, nA, nS, nM, nE, nL, nT, nB, iT, iN, iE, and_self, SR, SV, w_none, w_eq, and_true, true_and, tkS, tk0, tkN, dpS, dp0, ENMB, hb11]
         refine regA.one (j := 11) (by kernel_rfl) rfl (regW.of ?_)
         simp only [↓reduceIte, reduceCtorEq, nA, nS, nM, nE, nL, nT, nB, iT, iN, iE, and_self, SR, SV, w_none, w_eq, and_true, true_and, tkS, tk0, tkN, dpS, dp0, ENMB, hb11]
         refine regA.one (j := 12) (by kernel_rfl) rfl (regW.of ?_)
         simp only [↓reduceIte, reduceCtorEq, nA, nS, nM, nE, nL, nT, nB, iT, iN, iE, and_self, SR, SV, w_none, w_eq, and_true, true_and, tkS, tk0, tkN, dpS, dp0, ENMB, hb11]
         exact regA.nil (by kernel_rfl) ⟨rfl, rfl⟩
        ·refine regW.of ?_
         simp only [↓reduceIte, reduceCtorEq, nA, nS, nM, nE, nL, nT, nB, iT, iN, iE, and_self, SR, SV, w_none, w_eq, and_true, true_and, tkS, tk0, tkN, dpS, dp0, ag_27, sz_27, ENMB, hb11]
         refine regA.one (j := 8) (by kernel_rfl) rfl (regW.of ?_)
         simp only [↓reduceIte, reduceCtorEq, nA, nS, nM, nE, nL, nT, nB, iT, iN, iE, and_self, SR, SV, w_none, w_eq, and_true, true_and, tkS, tk0, tkN, dpS, dp0, ENMB, hb11]
         refine SpecS.by (l45_own_spec hy12) (by simp only [↓reduceIte, reduceCtorEq, nA, nE, nL, and_self, and_true, true_and, SL, ENMB, hb11]) ?_
         simp only [↓reduceIte, reduceCtorEq, nA, nS, nM, nE, nL, nT, nB, iT, iN, iE, and_self, SR, SV, w_none, w_eq, and_true, true_and, tkS, tk0, tkN, dpS, dp0, ENMB, hb11]
         refine regA.one (j := 10) (by kernel_rfl) rfl (regW.of ?_)
         simp only [↓reduceIte, reduceCtorEq, nA, nS, nM, nE, nL, nT, nB, iT, iN, iE, and_self, SR, SV, w_none, w_eq, and_true, true_and, tkS, tk0, tkN, dpS, dp0, ENMB, hb11]
         refine SpecS.by (r45_Same_spec hy13) (by simp only [↓reduceIte, reduceCtorEq, nA, nE, nL, and_self, and_true, true_and, SL, ENMB, hb11]) ?_
         simp only [↓reduceIte, reduceCtorEq, nA, nS, nM, nE, nL, nT, nB, iT, iN, iE, and_self, SR, SV, w_none, w_eq, and_true, true_and, tkS, tk0, tkN, dpS, dp0, ENMB, hb11]
         refine regA.one (j := 11) (by kernel_rfl) rfl (regW.of ?_)
         simp only [↓reduceIte, reduceCtorEq, nA, nS, nM, nE, nL, nT, nB, iT, iN, iE, and_self, SR, SV, w_none, w_eq, and_true, true_and, tkS, tk0, tkN, dpS, dp0, ENMB, hb11]
         refine regA.one (j := 12) (by kernel_rfl) rfl (regW.of ?_)
         simp only [↓reduceIte, reduceCtorEq, nA, nS, nM, nE, nL, nT, nB, iT, iN, iE, and_self, SR, SV, w_none, w_eq, and_true, true_and, tkS, tk0, tkN, dpS, dp0, ENMB, hb11]
         exact regA.nil (by kernel_rfl) ⟨rfl, rfl⟩
       ·refine regW.of ?_
        simp only [↓reduceIte, reduceCtorEq, nA, nS, nM, nE, nL, nT, nB, iT, iN, iE, and_self, SR, SV, w_none, w_eq, and_true, true_and, tkS, tk0, tkN, dpS, dp0, ag_27, sz_27, ENMB, hb11]
        refine regA.one (j := 7) (by kernel_rfl) rfl (regW.of ?_)
        simp only [↓reduceIte, reduceCtorEq, nA, nS, nM, nE, nL, nT, nB, iT, iN, iE, and_self, SR, SV, w_none, w_eq, and_true, true_and, tkS, tk0, tkN, dpS, dp0, ag_33, sz_33, ENMB, hb11]
        refine regA.one (j := 8) (by kernel_rfl) rfl (regW.of ?_)
        simp only [↓reduceIte, reduceCtorEq, nA, nS, nM, nE, nL, nT, nB, iT, iN, iE, and_self, SR, SV, w_none, w_eq, and_true, true_and, tkS, tk0, tkN, dpS, dp0, ENMB, hb11]
        refine SpecS.by (l45_own_spec hy12) (by simp only [↓reduceIte, reduceCtorEq, nA, nE, nL, and_self, and_true, true_and, SL, ENMB, hb11]) ?_
        simp only [↓reduceIte, reduceCtorEq, nA, nS, nM, nE, nL, nT, nB, iT, iN, iE, and_self, SR, SV, w_none, w_eq, and_true, true_and, tkS, tk0, tkN, dpS, dp0, ENMB, hb11]
        refine regA.one (j := 10) (by kernel_rfl) rfl (regW.of ?_)
        simp only [↓reduceIte, reduceCtorEq, nA, nS, nM, nE, nL, nT, nB, iT, iN, iE, and_self, SR, SV, w_none, w_eq, and_true, true_and, tkS, tk0, tkN, dpS, dp0, ENMB, hb11]
        refine SpecS.by (r45_Same_spec hy13) (by simp only [↓reduceIte, reduceCtorEq, nA, nE, nL, and_self, and_true, true_and, SL, ENMB, hb11]) ?_
        simp only [↓reduceIte, reduceCtorEq, nA, nS, nM, nE, nL, nT, nB, iT, iN, iE, and_self, SR, SV, w_none, w_eq, and_true, true_and, tkS, tk0, tkN, dpS, dp0, ENMB, hb11]
        refine regA.one (j := 11) (by kernel_rfl) rfl (regW.of ?_)
        simp only [↓reduceIte, reduceCtorEq, nA, nS, nM, nE, nL, nT, nB, iT, iN, iE, and_self, SR, SV, w_none, w_eq, and_true, true_and, tkS, tk0, tkN, dpS, dp0, ENMB, hb11]
        refine regA.one (j := 12) (by kernel_rfl) rfl (regW.of ?_)
        simp only [↓reduceIte, reduceCtorEq, nA, nS, nM, nE, nL, nT, nB, iT, iN, iE, and_self, SR, SV, w_none, w_eq, and_true, true_and, tkS, tk0, tkN, dpS, dp0, ENMB, hb11]
        exact regA.nil (by kernel_rfl) ⟨rfl, rfl⟩
      ·cases h
       simp only [↓reduceIte, reduceCtorEq, nA, nE, nL, and_self, and_true, true_and, SL, ENMB, hb11]
     ·refine Mir.regionA 4 9 [] [U, .d (.int .i64 a1), .d (.int .i64 a2), .ptr 0 0, U, U, U, .ptr 1 0, .ptr 3 0, .d (.int .i64 y106.2), .ptr 4 0, .d (.int .i64 y107.2), U, U, U, U, U, U, U, U, .d (.bool v102), U, .agg [.d (.int .i64 a0.Work.e0.X), .d (.int .i64 a0.Work.e0.Y), .d (.int .i64 a0.Work.e0.Z), .d (.int .i64 a0.Work.e1.X), .d (.int .i64 a0.Work.e1.Y), .d (.int .i64 a0.Work.e1.Z), .d (.int .i64 a0.Work.e2.X), .d (.int .i64 a0.Work.e2.Y), .d (.int .i64 a0.Work.e2.Z), .d (.int .i64 a0.Work.e3.X), .d (.int .i64 a0.Work.e3.Y), .d (.int .i64 a0.Work.e3.Z), .d (.int .i64 a0.Work.e4.X), .d (.int .i64 a0.Work.e4.Y), .d (.int .i64 a0.Work.e4.Z), .d (.int .i64 a0.Work.e5.X), .d (.int .i64 a0.Work.e5.Y), .d (.int .i64 a0.Work.e5.Z), .d (.list (List.map encR45Length a0.Lengths))], .agg [.d (.int .i64 y105.Work.e0.X), .d (.int .i64 y105.Work.e0.Y), .d (.int .i64 y105.Work.e0.Z), .d (.int .i64 y105.Work.e1.X), .d (.int .i64 y105.Work.e1.Y), .d (.int .i64 y105.Work.e1.Z), .d (.int .i64 y105.Work.e2.X), .d (.int .i64 y105.Work.e2.Y), .d (.int .i64 y105.Work.e2.Z), .d (.int .i64 y105.Work.e3.X), .d (.int .i64 y105.Work.e3.Y), .d (.int .i64 y105.Work.e3.Z), .d (.int .i64 y105.Work.e4.X), .d (.int .i64 y105.Work.e4.Y), .d (.int .i64 y105.Work.e4.Z), .d (.int .i64 y105.Work.e5.X), .d (.int .i64 y105.Work.e5.Y), .d (.int .i64 y105.Work.e5.Z), .d (.list (List.map encTableLength y105.Lengths))], .tuple [.agg [.d (.int .i64 y106.1.Work.e0.X), .d (.int .i64 y106.1.Work.e0.Y), .d (.int .i64 y106.1.Work.e0.Z), .d (.int .i64 y106.1.Work.e1.X), .d (.int .i64 y106.1.Work.e1.Y), .d (.int .i64 y106.1.Work.e1.Z), .d (.int .i64 y106.1.Work.e2.X), .d (.int .i64 y106.1.Work.e2.Y), .d (.int .i64 y106.1.Work.e2.Z), .d (.int .i64 y106.1.Work.e3.X), .d (.int .i64 y106.1.Work.e3.Y), .d (.int .i64 y106.1.Work.e3.Z), .d (.int .i64 y106.1.Work.e4.X), .d (.int .i64 y106.1.Work.e4.Y), .d (.int .i64 y106.1.Work.e4.Z), .d (.int .i64 y106.1.Work.e5.X), .d (.int .i64 y106.1.Work.e5.Y), .d (.int .i64 y106.1.Work.e5.Z), .gr 2 0], .d (.int .i64 y106.2)], .agg [.d (.int .i64 y105.Work.e0.X), .d (.int .i64 y105.Work.e0.Y), .d (.int .i64 y105.Work.e0.Z), .d (.int .i64 y105.Work.e1.X), .d (.int .i64 y105.Work.e1.Y), .d (.int .i64 y105.Work.e1.Z), .d (.int .i64 y105.Work.e2.X), .d (.int .i64 y105.Work.e2.Y), .d (.int .i64 y105.Work.e2.Z), .d (.int .i64 y105.Work.e3.X), .d (.int .i64 y105.Work.e3.Y), .d (.int .i64 y105.Work.e3.Z), .d (.int .i64 y105.Work.e4.X), .d (.int .i64 y105.Work.e4.Y), .d (.int .i64 y105.Work.e4.Z), .d (.int .i64 y105.Work.e5.X), .d (.int .i64 y105.Work.e5.Y), .d (.int .i64 y105.Work.e5.Z), .d (.list (List.map encTableLength y105.Lengths))], .d (.int .i64 a1), .d (.int .i64 a2), .tuple [.agg [.d (.int .i64 y106.1.Work.e0.X), .d (.int .i64 y106.1.Work.e0.Y), .d (.int .i64 y106.1.Work.e0.Z), .d (.int .i64 y106.1.Work.e1.X), .d (.int .i64 y106.1.Work.e1.Y), .d (.int .i64 y106.1.Work.e1.Z), .d (.int .i64 y106.1.Work.e2.X), .d (.int .i64 y106.1.Work.e2.Y), .d (.int .i64 y106.1.Work.e2.Z), .d (.int .i64 y106.1.Work.e3.X), .d (.int .i64 y106.1.Work.e3.Y), .d (.int .i64 y106.1.Work.e3.Z), .d (.int .i64 y106.1.Work.e4.X), .d (.int .i64 y106.1.Work.e4.Y), .d (.int .i64 y106.1.Work.e4.Z), .d (.int .i64 y106.1.Work.e5.X), .d (.int .i64 y106.1.Work.e5.Y), .d (.int .i64 y106.1.Work.e5.Z), .gr 2 0], .d (.int .i64 y106.2)], .agg [.d (.int .i64 y106.1.Work.e0.X), .d (.int .i64 y106.1.Work.e0.Y), .d (.int .i64 y106.1.Work.e0.Z), .d (.int .i64 y106.1.Work.e1.X), .d (.int .i64 y106.1.Work.e1.Y), .d (.int .i64 y106.1.Work.e1.Z), .d (.int .i64 y106.1.Work.e2.X), .d (.int .i64 y106.1.Work.e2.Y), .d (.int .i64 y106.1.Work.e2.Z), .d (.int .i64 y106.1.Work.e3.X), .d (.int .i64 y106.1.Work.e3.Y), .d (.int .i64 y106.1.Work.e3.Z), .d (.int .i64 y106.1.Work.e4.X), .d (.int .i64 y106.1.Work.e4.Y), .d (.int .i64 y106.1.Work.e4.Z), .d (.int .i64 y106.1.Work.e5.X), .d (.int .i64 y106.1.Work.e5.Y), .d (.int .i64 y106.1.Work.e5.Z), .gr 2 0], .d (.int .i64 y106.2), .tuple [.agg [.d (.int .i64 y107.1.Work.e0.X), .d (.int .i64 y107.1.Work.e0.Y), .d (.int .i64 y107.1.Work.e0.Z), .d (.int .i64 y107.1.Work.e1.X), .d (.int .i64 y107.1.Work.e1.Y), .d (.int .i64 y107.1.Work.e1.Z), .d (.int .i64 y107.1.Work.e2.X), .d (.int .i64 y107.1.Work.e2.Y), .d (.int .i64 y107.1.Work.e2.Z), .d (.int .i64 y107.1.Work.e3.X), .d (.int .i64 y107.1.Work.e3.Y), .d (.int .i64 y107.1.Work.e3.Z), .d (.int .i64 y107.1.Work.e4.X), .d (.int .i64 y107.1.Work.e4.Y), .d (.int .i64 y107.1.Work.e4.Z), .d (.int .i64 y107.1.Work.e5.X), .d (.int .i64 y107.1.Work.e5.Y), .d (.int .i64 y107.1.Work.e5.Z), .d (.list (List.map encR45Length y107.1.Lengths))], .d (.int .i64 y107.2)], .agg [.d (.int .i64 a0.Work.e0.X), .d (.int .i64 a0.Work.e0.Y), .d (.int .i64 a0.Work.e0.Z), .d (.int .i64 a0.Work.e1.X), .d (.int .i64 a0.Work.e1.Y), .d (.int .i64 a0.Work.e1.Z), .d (.int .i64 a0.Work.e2.X), .d (.int .i64 a0.Work.e2.Y), .d (.int .i64 a0.Work.e2.Z), .d (.int .i64 a0.Work.e3.X), .d (.int .i64 a0.Work.e3.Y), .d (.int .i64 a0.Work.e3.Z), .d (.int .i64 a0.Work.e4.X), .d (.int .i64 a0.Work.e4.Y), .d (.int .i64 a0.Work.e4.Z), .d (.int .i64 a0.Work.e5.X), .d (.int .i64 a0.Work.e5.Y), .d (.int .i64 a0.Work.e5.Z), .d (.list (List.map encR45Length a0.Lengths))], .d (.int .i64 a1), .d (.int .i64 a2), .tuple [.agg [.d (.int .i64 y107.1.Work.e0.X), .d (.int .i64 y107.1.Work.e0.Y), .d (.int .i64 y107.1.Work.e0.Z), .d (.int .i64 y107.1.Work.e1.X), .d (.int .i64 y107.1.Work.e1.Y), .d (.int .i64 y107.1.Work.e1.Z), .d (.int .i64 y107.1.Work.e2.X), .d (.int .i64 y107.1.Work.e2.Y), .d (.int .i64 y107.1.Work.e2.Z), .d (.int .i64 y107.1.Work.e3.X), .d (.int .i64 y107.1.Work.e3.Y), .d (.int .i64 y107.1.Work.e3.Z), .d (.int .i64 y107.1.Work.e4.X), .d (.int .i64 y107.1.Work.e4.Y), .d (.int .i64 y107.1.Work.e4.Z), .d (.int .i64 y107.1.Work.e5.X), .d (.int .i64 y107.1.Work.e5.Y), .d (.int .i64 y107.1.Work.e5.Z), .d (.list (List.map encR45Length y107.1.Lengths))], .d (.int .i64 y107.2)], .agg [.d (.int .i64 y107.1.Work.e0.X), .d (.int .i64 y107.1.Work.e0.Y), .d (.int .i64 y107.1.Work.e0.Z), .d (.int .i64 y107.1.Work.e1.X), .d (.int .i64 y107.1.Work.e1.Y), .d (.int .i64 y107.1.Work.e1.Z), .d (.int .i64 y107.1.Work.e2.X), .d (.int .i64 y107.1.Work.e2.Y), .d (.int .i64 y107.1.Work.e2.Z), .d (.int .i64 y107.1.Work.e3.X), .d (.int .i64 y107.1.Work.e3.Y), .d (.int .i64 y107.1.Work.e3.Z), .d (.int .i64 y107.1.Work.e4.X), .d (.int .i64 y107.1.Work.e4.Y), .d (.int .i64 y107.1.Work.e4.Z), .d (.int .i64 y107.1.Work.e5.X), .d (.int .i64 y107.1.Work.e5.Y), .d (.int .i64 y107.1.Work.e5.Z), .d (.list (List.map encR45Length y107.1.Lengths))], .d (.int .i64 y107.2), .agg [.d (.int .i64 y106.1.Work.e0.X), .d (.int .i64 y106.1.Work.e0.Y), .d (.int .i64 y106.1.Work.e0.Z), .d (.int .i64 y106.1.Work.e1.X), .d (.int .i64 y106.1.Work.e1.Y), .d (.int .i64 y106.1.Work.e1.Z), .d (.int .i64 y106.1.Work.e2.X), .d (.int .i64 y106.1.Work.e2.Y), .d (.int .i64 y106.1.Work.e2.Z), .d (.int .i64 y106.1.Work.e3.X), .d (.int .i64 y106.1.Work.e3.Y), .d (.int .i64 y106.1.Work.e3.Z), .d (.int .i64 y106.1.Work.e4.X), .d (.int .i64 y106.1.Work.e4.Y), .d (.int .i64 y106.1.Work.e4.Z), .d (.int .i64 y106.1.Work.e5.X), .d (.int .i64 y106.1.Work.e5.Y), .d (.int .i64 y106.1.Work.e5.Z), .gr 2 0], .d (.int .i64 y106.2), .agg [.d (.int .i64 y107.1.Work.e0.X), .d (.int .i64 y107.1.Work.e0.Y), .d (.int .i64 y107.1.Work.e0.Z), .d (.int .i64 y107.1.Work.e1.X), .d (.int .i64 y107.1.Work.e1.Y), .d (.int .i64 y107.1.Work.e1.Z), .d (.int .i64 y107.1.Work.e2.X), .d (.int .i64 y107.1.Work.e2.Y), .d (.int .i64 y107.1.Work.e2.Z), .d (.int .i64 y107.1.Work.e3.X), .d (.int .i64 y107.1.Work.e3.Y), .d (.int .i64 y107.1.Work.e3.Z), .d (.int .i64 y107.1.Work.e4.X), .d (.int .i64 y107.1.Work.e4.Y), .d (.int .i64 y107.1.Work.e4.Z), .d (.int .i64 y107.1.Work.e5.X), .d (.int .i64 y107.1.Work.e5.Y), .d (.int .i64 y107.1.Work.e5.Z), .d (.list (List.map encR45Length y107.1.Lengths))], .d (.int .i64 y107.2), .d (.bool y108), .d (.bool (!y108)), .d (.bool (!y108)), .skip, .skip, .skip, .skip, .skip, .d (.bool true), U, U, U, U, U, U, U, U, U, U, U, U, U, U, U, U] ⟨[[.d (.int .i64 a0.Work.e0.X), .d (.int .i64 a0.Work.e0.Y), .d (.int .i64 a0.Work.e0.Z), .d (.int .i64 a0.Work.e1.X), .d (.int .i64 a0.Work.e1.Y), .d (.int .i64 a0.Work.e1.Z), .d (.int .i64 a0.Work.e2.X), .d (.int .i64 a0.Work.e2.Y), .d (.int .i64 a0.Work.e2.Z), .d (.int .i64 a0.Work.e3.X), .d (.int .i64 a0.Work.e3.Y), .d (.int .i64 a0.Work.e3.Z), .d (.int .i64 a0.Work.e4.X), .d (.int .i64 a0.Work.e4.Y), .d (.int .i64 a0.Work.e4.Z), .d (.int .i64 a0.Work.e5.X), .d (.int .i64 a0.Work.e5.Y), .d (.int .i64 a0.Work.e5.Z), .d (.list (List.map encR45Length a0.Lengths))], [.d (.int .i64 y105.Work.e0.X), .d (.int .i64 y105.Work.e0.Y), .d (.int .i64 y105.Work.e0.Z), .d (.int .i64 y105.Work.e1.X), .d (.int .i64 y105.Work.e1.Y), .d (.int .i64 y105.Work.e1.Z), .d (.int .i64 y105.Work.e2.X), .d (.int .i64 y105.Work.e2.Y), .d (.int .i64 y105.Work.e2.Z), .d (.int .i64 y105.Work.e3.X), .d (.int .i64 y105.Work.e3.Y), .d (.int .i64 y105.Work.e3.Z), .d (.int .i64 y105.Work.e4.X), .d (.int .i64 y105.Work.e4.Y), .d (.int .i64 y105.Work.e4.Z), .d (.int .i64 y105.Work.e5.X), .d (.int .i64 y105.Work.e5.Y), .d (.int .i64 y105.Work.e5.Z), .d (.list (List.map encTableLength y105.Lengths))], [.rowc 48 0 (List.map encTableLength y106.1.Lengths)], [.d (.int .i64 y106.1.Work.e0.X), .d (.int .i64 y106.1.Work.e0.Y), .d (.int .i64 y106.1.Work.e0.Z), .d (.int .i64 y106.1.Work.e1.X), .d (.int .i64 y106.1.Work.e1.Y), .d (.int .i64 y106.1.Work.e1.Z), .d (.int .i64 y106.1.Work.e2.X), .d (.int .i64 y106.1.Work.e2.Y), .d (.int .i64 y106.1.Work.e2.Z), .d (.int .i64 y106.1.Work.e3.X), .d (.int .i64 y106.1.Work.e3.Y), .d (.int .i64 y106.1.Work.e3.Z), .d (.int .i64 y106.1.Work.e4.X), .d (.int .i64 y106.1.Work.e4.Y), .d (.int .i64 y106.1.Work.e4.Z), .d (.int .i64 y106.1.Work.e5.X), .d (.int .i64 y106.1.Work.e5.Y), .d (.int .i64 y106.1.Work.e5.Z), .gr 2 0], [.d (.int .i64 y107.1.Work.e0.X), .d (.int .i64 y107.1.Work.e0.Y), .d (.int .i64 y107.1.Work.e0.Z), .d (.int .i64 y107.1.Work.e1.X), .d (.int .i64 y107.1.Work.e1.Y), .d (.int .i64 y107.1.Work.e1.Z), .d (.int .i64 y107.1.Work.e2.X), .d (.int .i64 y107.1.Work.e2.Y), .d (.int .i64 y107.1.Work.e2.Z), .d (.int .i64 y107.1.Work.e3.X), .d (.int .i64 y107.1.Work.e3.Y), .d (.int .i64 y107.1.Work.e3.Z), .d (.int .i64 y107.1.Work.e4.X), .d (.int .i64 y107.1.Work.e4.Y), .d (.int .i64 y107.1.Work.e4.Z), .d (.int .i64 y107.1.Work.e5.X), .d (.int .i64 y107.1.Work.e5.Y), .d (.int .i64 y107.1.Work.e5.Z), .d (.list (List.map encR45Length y107.1.Lengths))]], []⟩ (by kernel_rfl) (fun e h => ?_) (fun e h => ?_)
      ·simp only [↓reduceIte, reduceCtorEq, nA, nS, nM, nE, nL, nT, nB, iT, iN, iE, and_self, SR, SV, w_none, w_eq, and_true, true_and, tkS, tk0, tkN, dpS, dp0, sepL_nil, sepL_cons, sepV_ne, sepV_d, sepV_i, true_and, Bool.and_self, ag_33, sz_33, ag_27, sz_27, ENMB, hb11]
       refine regA.one (j := 4) (by kernel_rfl) rfl (regW.of ?_)
       simp only [↓reduceIte, reduceCtorEq, nA, nS, nM, nE, nL, nT, nB, iT, iN, iE, and_self, SR, SV, w_none, w_eq, and_true, true_and, tkS, tk0, tkN, dpS, dp0, ENMB, hb11]
       refine SpecS.byZ (l45_same_spec hy10) rfl rfl ?_
       simp only [↓reduceIte, reduceCtorEq, nA, nS, nM, nE, nL, nT, nB, iT, iN, iE, and_self, SR, SV, w_none, w_eq, and_true, true_and, tkS, tk0, tkN, dpS, dp0, ENMB, hb11]
       refine regA.one (j := 5) (by kernel_rfl) rfl (regW.of ?_)
       simp only [↓reduceIte, reduceCtorEq, nA, nS, nM, nE, nL, nT, nB, iT, iN, iE, and_self, SR, SV, w_none, w_eq, and_true, true_and, tkS, tk0, tkN, dpS, dp0, ENMB, hb11]
       refine regA.one (j := 6) (by kernel_rfl) rfl (regW.of ?_)
       simp only [↓reduceIte, reduceCtorEq, nA, nS, nM, nE, nL, nT, nB, iT, iN, iE, and_self, SR, SV, w_none, w_eq, and_true, true_and, tkS, tk0, tkN, dpS, dp0, ENMB, hb11]
       refine regA.two (j := 7) (k := 9) (by kernel_rfl) rfl rfl ?_ ?_
       ·refine regW.of ?_
        simp only [↓reduceIte, reduceCtorEq, nA, nS, nM, nE, nL, nT, nB, iT, iN, iE, and_self, SR, SV, w_none, w_eq, and_true, true_and, tkS, tk0, tkN, dpS, dp0, ENMB, hb11]
        refine regA.two (j := 8) (k := 9) (by kernel_rfl) rfl rfl ?_ ?_
        ·refine regW.of ?_
         simp only [↓reduceIte, reduceCtorEq, nA, nS, nM, nE, nL, nT, nB, iT, iN, iE, and_self, SR, SV, w_none, w_eq, and_true, true_and, tkS, tk0, tkN, dpS, dp0, ENMB, hb11]
         refine regA.one (j := 9) (by kernel_rfl) rfl (regW.of ?_)
         simp only [↓reduceIte, reduceCtorEq, nA, nS, nM, nE, nL, nT, nB, iT, iN, iE, and_self, SR, SV, w_none, w_eq, and_true, true_and, tkS, tk0, tkN, dpS, dp0, ENMB, hb11]
         refine regA.one (j := 10) (by kernel_rfl) rfl (regW.of ?_)
         simp only [↓reduceIte, reduceCtorEq, nA, nS, nM, nE, nL, nT, nB, iT, iN, iE, and_self, SR, SV, w_none, w_eq, and_true, true_and, tkS, tk0, tkN, dpS, dp0, ENMB, hb11]
         refine regA.one (j := 11) (by kernel_rfl) rfl (regW.of ?_)
         simp only [↓reduceIte, reduceCtorEq, nA, nS, nM, nE, nL, nT, nB, iT, iN, iE, and_self, SR, SV, w_none, w_eq, and_true, true_and, tkS, tk0, tkN, dpS, dp0, ENMB, hb11]
         refine regA.one (j := 12) (by kernel_rfl) rfl (regW.of ?_)
         simp only [↓reduceIte, reduceCtorEq, nA, nS, nM, nE, nL, nT, nB, iT, iN, iE, and_self, SR, SV, w_none, w_eq, and_true, true_and, tkS, tk0, tkN, dpS, dp0, ENMB, hb11]
         exact regA.nil (by kernel_rfl) ⟨rfl, rfl⟩
        ·refine regW.of ?_
         simp only [↓reduceIte, reduceCtorEq, nA, nS, nM, nE, nL, nT, nB, iT, iN, iE, and_self, SR, SV, w_none, w_eq, and_true, true_and, tkS, tk0, tkN, dpS, dp0, ENMB, hb11]
         refine regA.one (j := 8) (by kernel_rfl) rfl (regW.of ?_)
         simp only [↓reduceIte, reduceCtorEq, nA, nS, nM, nE, nL, nT, nB, iT, iN, iE, and_self, SR, SV, w_none, w_eq, and_true, true_and, tkS, tk0, tkN, dpS, dp0, ENMB, hb11]
         refine regA.one (j := 10) (by kernel_rfl) rfl (regW.of ?_)
         simp only [↓reduceIte, reduceCtorEq, nA, nS, nM, nE, nL, nT, nB, iT, iN, iE, and_self, SR, SV, w_none, w_eq, and_true, true_and, tkS, tk0, tkN, dpS, dp0, ENMB, hb11]
         refine regA.one (j := 11) (by kernel_rfl) rfl (regW.of ?_)
         simp only [↓reduceIte, reduceCtorEq, nA, nS, nM, nE, nL, nT, nB, iT, iN, iE, and_self, SR, SV, w_none, w_eq, and_true, true_and, tkS, tk0, tkN, dpS, dp0, ENMB, hb11]
         refine regA.one (j := 12) (by kernel_rfl) rfl (regW.of ?_)
         simp only [↓reduceIte, reduceCtorEq, nA, nS, nM, nE, nL, nT, nB, iT, iN, iE, and_self, SR, SV, w_none, w_eq, and_true, true_and, tkS, tk0, tkN, dpS, dp0, ENMB, hb11]
         exact regA.nil (by kernel_rfl) ⟨rfl, rfl⟩
       ·refine regW.of ?_
        simp only [↓reduceIte, reduceCtorEq, nA, nS, nM, nE, nL, nT, nB, iT, iN, iE, and_self, SR, SV, w_none, w_eq, and_true, true_and, tkS, tk0, tkN, dpS, dp0, ENMB, hb11]
        refine regA.one (j := 7) (by kernel_rfl) rfl (regW.of ?_)
        simp only [↓reduceIte, reduceCtorEq, nA, nS, nM, nE, nL, nT, nB, iT, iN, iE, and_self, SR, SV, w_none, w_eq, and_true, true_and, tkS, tk0, tkN, dpS, dp0, ENMB, hb11]
        refine regA.one (j := 8) (by kernel_rfl) rfl (regW.of ?_)
        simp only [↓reduceIte, reduceCtorEq, nA, nS, nM, nE, nL, nT, nB, iT, iN, iE, and_self, SR, SV, w_none, w_eq, and_true, true_and, tkS, tk0, tkN, dpS, dp0, ENMB, hb11]
        refine regA.one (j := 10) (by kernel_rfl) rfl (regW.of ?_)
        simp only [↓reduceIte, reduceCtorEq, nA, nS, nM, nE, nL, nT, nB, iT, iN, iE, and_self, SR, SV, w_none, w_eq, and_true, true_and, tkS, tk0, tkN, dpS, dp0, ENMB, hb11]
        refine regA.one (j := 11) (by kernel_rfl) rfl (regW.of ?_)
        simp only [↓reduceIte, reduceCtorEq, nA, nS, nM, nE, nL, nT, nB, iT, iN, iE, and_self, SR, SV, w_none, w_eq, and_true, true_and, tkS, tk0, tkN, dpS, dp0, ENMB, hb11]
        refine regA.one (j := 12) (by kernel_rfl) rfl (regW.of ?_)
        simp only [↓reduceIte, reduceCtorEq, nA, nS, nM, nE, nL, nT, nB, iT, iN, iE, and_self, SR, SV, w_none, w_eq, and_true, true_and, tkS, tk0, tkN, dpS, dp0, ENMB, hb11]
        exact regA.nil (by kernel_rfl) ⟨rfl, rfl⟩
      ·cases h
       simp only [↓reduceIte, reduceCtorEq, nA, nE, nL, and_self, and_true, true_and, SL, ENMB, hb11]
    ·intro v111
     refine Mir.toK (Mir.cond rfl (fun hb15 => ?_) (fun hb15 => ?_))
     ·refine Mir.seqK (Mir.region fun e h => ?_)
      simp only [↓reduceIte, reduceCtorEq, nA, nS, nM, nE, nL, nT, nB, iT, iN, iE, and_self, SR, SV, ENMB]
      refine Mir.use (e := e) ?_ h
      refine Mir.ret fun e h => ?_
      cases h
      simp only [↓reduceIte, reduceCtorEq, nA, nE, nL, and_self, and_true, true_and, SL, ENMB, Tryd.results5]
     ·refine Mir.skip (Mir.toK (Mir.seqK (Mir.seqK (Mir.regionW fun e h => regW.alt 2 rfl ?_))))
      simp only [↓reduceIte, reduceCtorEq, nA, nS, nM, nE, nL, nT, nB, iT, iN, iE, and_self, SR, SV, w_none, w_eq, and_true, true_and, tkS, tk0, tkN, dpS, dp0, fld_33_1, sz_31, ag_31, ENMB, rmap_set, spD]
      refine alt_lenR rfl rfl und_31 (regW.of ?_)
      simp only [↓reduceIte, reduceCtorEq, nA, nS, nM, nE, nL, nT, nB, iT, iN, iE, and_self, SR, SV, w_none, w_eq, and_true, true_and, tkS, tk0, tkN, dpS, dp0, und_31, ENMB, rmap_set, spD]
      refine Mir.use (e := e) ?_ h
      refine Mir.joinO (fun v128 : (List TableLength) => [U, U, U, .ptr 0 0, U, U, U, .ptr 1 0, U, U, U, U, U, U, U, U, U, U, U, U, U, U, U, U, U, U, U, U, U, U, U, U, U, U, U, U, U, U, U, U, U, U, U, U, U, U, U, U, U, U, U, U, U, U, U, U, U, U, U, U, U, U, U, U, U, U, U]) (fun v128 : (List TableLength) => ⟨[[.d (.int .i64 a0.Work.e0.X), .d (.int .i64 a0.Work.e0.Y), .d (.int .i64 a0.Work.e0.Z), .d (.int .i64 a0.Work.e1.X), .d (.int .i64 a0.Work.e1.Y), .d (.int .i64 a0.Work.e1.Z), .d (.int .i64 a0.Work.e2.X), .d (.int .i64 a0.Work.e2.Y), .d (.int .i64 a0.Work.e2.Z), .d (.int .i64 a0.Work.e3.X), .d (.int .i64 a0.Work.e3.Y), .d (.int .i64 a0.Work.e3.Z), .d (.int .i64 a0.Work.e4.X), .d (.int .i64 a0.Work.e4.Y), .d (.int .i64 a0.Work.e4.Z), .d (.int .i64 a0.Work.e5.X), .d (.int .i64 a0.Work.e5.Y), .d (.int .i64 a0.Work.e5.Z), .d (.list (List.map encR45Length a0.Lengths))], [.d (.int .i64 y105.Work.e0.X), .d (.int .i64 y105.Work.e0.Y), .d (.int .i64 y105.Work.e0.Z), .d (.int .i64 y105.Work.e1.X), .d (.int .i64 y105.Work.e1.Y), .d (.int .i64 y105.Work.e1.Z), .d (.int .i64 y105.Work.e2.X), .d (.int .i64 y105.Work.e2.Y), .d (.int .i64 y105.Work.e2.Z), .d (.int .i64 y105.Work.e3.X), .d (.int .i64 y105.Work.e3.Y), .d (.int .i64 y105.Work.e3.Z), .d (.int .i64 y105.Work.e4.X), .d (.int .i64 y105.Work.e4.Y), .d (.int .i64 y105.Work.e4.Z), .d (.int .i64 y105.Work.e5.X), .d (.int .i64 y105.Work.e5.Y), .d (.int .i64 y105.Work.e5.Z), .d (.list (List.map encTableLength y105.Lengths))], [.rowc 48 0 (List.map encTableLength v128)], [.d (.int .i64 y106.1.Work.e0.X), .d (.int .i64 y106.1.Work.e0.Y), .d (.int .i64 y106.1.Work.e0.Z), .d (.int .i64 y106.1.Work.e1.X), .d (.int .i64 y106.1.Work.e1.Y), .d (.int .i64 y106.1.Work.e1.Z), .d (.int .i64 y106.1.Work.e2.X), .d (.int .i64 y106.1.Work.e2.Y), .d (.int .i64 y106.1.Work.e2.Z), .d (.int .i64 y106.1.Work.e3.X), .d (.int .i64 y106.1.Work.e3.Y), .d (.int .i64 y106.1.Work.e3.Z), .d (.int .i64 y106.1.Work.e4.X), .d (.int .i64 y106.1.Work.e4.Y), .d (.int .i64 y106.1.Work.e4.Z), .d (.int .i64 y106.1.Work.e5.X), .d (.int .i64 y106.1.Work.e5.Y), .d (.int .i64 y106.1.Work.e5.Z), .gr 2 0], [.d (.int .i64 y107.1.Work.e0.X), .d (.int .i64 y107.1.Work.e0.Y), .d (.int .i64 y107.1.Work.e0.Z), .d (.int .i64 y107.1.Work.e1.X), .d (.int .i64 y107.1.Work.e1.Y), .d (.int .i64 y107.1.Work.e1.Z), .d (.int .i64 y107.1.Work.e2.X), .d (.int .i64 y107.1.Work.e2.Y), .d (.int .i64 y107.1.Work.e2.Z), .d (.int .i64 y107.1.Work.e3.X), .d (.int .i64 y107.1.Work.e3.Y), .d (.int .i64 y107.1.Work.e3.Z), .d (.int .i64 y107.1.Work.e4.X), .d (.int .i64 y107.1.Work.e4.Y), .d (.int .i64 y107.1.Work.e4.Z), .d (.int .i64 y107.1.Work.e5.X), .d (.int .i64 y107.1.Work.e5.Y), .d (.int .i64 y107.1.Work.e5.Z), .d (.list (List.map encR45Length y107.1.Lengths))]], []⟩) (fun _ => rfl) ?_ ?_
      ·refine Mir.block (Mir.guard fun qg47 => Mir.range (fun (i140 : Nat) (v141 : (List TableLength)) => [U, U, U, .ptr 0 0, U, U, U, .ptr 1 0, .ptr 3 0, U, U, U, U, U, U, U, U, U, U, U, U, U, U, U, U, U, U, U, U, U, U, U, U, U, U, U, U, U, U, U, U, U, U, U, U, U, U, U, U, U, U, U, U, .d (.int .i64 (y106.1.Lengths.length : Int)), .d (.int .i64 (i140 : Int)), U, U, U, U, U, U, U, U, U, U, U, U]) (fun (i140 : Nat) (v141 : (List TableLength)) => ⟨[[.d (.int .i64 a0.Work.e0.X), .d (.int .i64 a0.Work.e0.Y), .d (.int .i64 a0.Work.e0.Z), .d (.int .i64 a0.Work.e1.X), .d (.int .i64 a0.Work.e1.Y), .d (.int .i64 a0.Work.e1.Z), .d (.int .i64 a0.Work.e2.X), .d (.int .i64 a0.Work.e2.Y), .d (.int .i64 a0.Work.e2.Z), .d (.int .i64 a0.Work.e3.X), .d (.int .i64 a0.Work.e3.Y), .d (.int .i64 a0.Work.e3.Z), .d (.int .i64 a0.Work.e4.X), .d (.int .i64 a0.Work.e4.Y), .d (.int .i64 a0.Work.e4.Z), .d (.int .i64 a0.Work.e5.X), .d (.int .i64 a0.Work.e5.Y), .d (.int .i64 a0.Work.e5.Z), .d (.list (List.map encR45Length a0.Lengths))], [.d (.int .i64 y105.Work.e0.X), .d (.int .i64 y105.Work.e0.Y), .d (.int .i64 y105.Work.e0.Z), .d (.int .i64 y105.Work.e1.X), .d (.int .i64 y105.Work.e1.Y), .d (.int .i64 y105.Work.e1.Z), .d (.int .i64 y105.Work.e2.X), .d (.int .i64 y105.Work.e2.Y), .d (.int .i64 y105.Work.e2.Z), .d (.int .i64 y105.Work.e3.X), .d (.int .i64 y105.Work.e3.Y), .d (.int .i64 y105.Work.e3.Z), .d (.int .i64 y105.Work.e4.X), .d (.int .i64 y105.Work.e4.Y), .d (.int .i64 y105.Work.e4.Z), .d (.int .i64 y105.Work.e5.X), .d (.int .i64 y105.Work.e5.Y), .d (.int .i64 y105.Work.e5.Z), .d (.list (List.map encTableLength y105.Lengths))], [.rowc 48 0 (List.map encTableLength v141)], [.d (.int .i64 y106.1.Work.e0.X), .d (.int .i64 y106.1.Work.e0.Y), .d (.int .i64 y106.1.Work.e0.Z), .d (.int .i64 y106.1.Work.e1.X), .d (.int .i64 y106.1.Work.e1.Y), .d (.int .i64 y106.1.Work.e1.Z), .d (.int .i64 y106.1.Work.e2.X), .d (.int .i64 y106.1.Work.e2.Y), .d (.int .i64 y106.1.Work.e2.Z), .d (.int .i64 y106.1.Work.e3.X), .d (.int .i64 y106.1.Work.e3.Y), .d (.int .i64 y106.1.Work.e3.Z), .d (.int .i64 y106.1.Work.e4.X), .d (.int .i64 y106.1.Work.e4.Y), .d (.int .i64 y106.1.Work.e4.Z), .d (.int .i64 y106.1.Work.e5.X), .d (.int .i64 y106.1.Work.e5.Y), .d (.int .i64 y106.1.Work.e5.Z), .gr 2 0], [.d (.int .i64 y107.1.Work.e0.X), .d (.int .i64 y107.1.Work.e0.Y), .d (.int .i64 y107.1.Work.e0.Z), .d (.int .i64 y107.1.Work.e1.X), .d (.int .i64 y107.1.Work.e1.Y), .d (.int .i64 y107.1.Work.e1.Z), .d (.int .i64 y107.1.Work.e2.X), .d (.int .i64 y107.1.Work.e2.Y), .d (.int .i64 y107.1.Work.e2.Z), .d (.int .i64 y107.1.Work.e3.X), .d (.int .i64 y107.1.Work.e3.Y), .d (.int .i64 y107.1.Work.e3.Z), .d (.int .i64 y107.1.Work.e4.X), .d (.int .i64 y107.1.Work.e4.Y), .d (.int .i64 y107.1.Work.e4.Z), .d (.int .i64 y107.1.Work.e5.X), .d (.int .i64 y107.1.Work.e5.Y), .d (.int .i64 y107.1.Work.e5.Z), .d (.list (List.map encR45Length y107.1.Lengths))]], []⟩) qg47 (fun _ _ => rfl) (by simp only [↓reduceIte, reduceCtorEq, nA, nE, nL, and_self, and_true, true_and, SL, ENMB, rmap_set, spD, (nr rfl : ((0 : Nat) : Int) = 0)]) (by simp only [↓reduceIte, reduceCtorEq, nA, nE, nL, and_self, and_true, true_and, SL, ENMB, rmap_set, spD, (nr rfl : ((0 : Nat) : Int) = 0)]) ?_ ?_)
       ·intro i140 e142 v141 qr45
        refine Mir.seqK (Mir.region fun e h => ?_)
        simp only [↓reduceIte, reduceCtorEq, nA, nS, nM, nE, nL, nT, nB, iT, iN, iE, and_self, SR, SV, qr45, ENMB, rmap_set, spD]
        refine Mir.use (e := e) ?_ h
        refine Mir.seqK (Mir.condT rfl (Mir.skip (Mir.toK (Mir.seqK (Mir.block (Mir.seqK (Mir.region fun e h => ?_)))))))
        simp only [↓reduceIte, reduceCtorEq, nA, nS, nM, nE, nL, nT, nB, iT, iN, iE, and_self, SR, SV, ENMB, rmap_set, spD]
        refine Mir.use (e := e) ?_ h
        refine Mir.bind fun e144 q49 => ?_
        replace q49 := gt_ok q49
        refine Mir.regionW fun e h => regW.alt 3 rfl ?_
        simp only [↓reduceIte, reduceCtorEq, nA, nS, nM, nE, nL, nT, nB, iT, iN, iE, and_self, SR, SV, w_none, w_eq, and_true, true_and, tkS, tk0, tkN, dpS, dp0, fld_33_1, sz_31, ag_31, ENMB, rmap_set, spD]
        refine alt_indexR rfl rfl rfl und_31 sz_48 (row_lo q49.1) (row_hi q49.2 q49.1) (regW.alt 0 rfl ?_)
        simp only [↓reduceIte, reduceCtorEq, nA, nS, nM, nE, nL, nT, nB, iT, iN, iE, and_self, SR, SV, w_none, w_eq, and_true, true_and, tkS, tk0, tkN, dpS, dp0, und_31, sz_48, ENMB, rmap_set, spD]
        refine alt_fieldR rfl rfl fld_48_1 sz_2 (by decide) (regW.alt 0 rfl ?_)
        simp only [↓reduceIte, reduceCtorEq, nA, nS, nM, nE, nL, nT, nB, iT, iN, iE, and_self, SR, SV, w_none, w_eq, and_true, true_and, tkS, tk0, tkN, dpS, dp0, fld_48_1, sz_2, ENMB, rmap_set, spD]
        refine alt_storeR rfl rfl (row_at q49.2) rfl rfl sz_2 rfl (Nat.le_of_ble_eq_true rfl) (regW.of ?_)
        simp only [↓reduceIte, reduceCtorEq, nA, nS, nM, nE, nL, nT, nB, iT, iN, iE, and_self, SR, SV, w_none, w_eq, and_true, true_and, tkS, tk0, tkN, dpS, dp0, sz_2, ENMB, rmap_set, spD]
        refine Mir.use (e := e) ?_ h
        refine Mir.region fun e h => ?_
        simp only [↓reduceIte, reduceCtorEq, nA, nS, nM, nE, nL, nT, nB, iT, iN, iE, and_self, SR, SV, ENMB, rmap_set, spD]
        cases h
        simp only [↓reduceIte, reduceCtorEq, nA, nE, nL, and_self, and_true, true_and, SL, ENMB, rmap_set, spD, Tryd.results5, qr45]
       ·intro v141 qd46
        refine Mir.seqK (Mir.region fun e h => ?_)
        simp only [↓reduceIte, reduceCtorEq, nA, nS, nM, nE, nL, nT, nB, iT, iN, iE, and_self, SR, SV, qd46, ENMB, rmap_set, spD]
        refine Mir.use (e := e) ?_ h
        refine Mir.seqK (Mir.condF rfl (Mir.exit fun e h => ?_))
        cases h
        simp only [↓reduceIte, reduceCtorEq, nA, nE, nL, and_self, and_true, true_and, SL, ENMB, rmap_set, spD, Tryd.results5]
      ·intro v128
       refine Mir.toK (Mir.seqK (Mir.bind fun y145 hy50 => Mir.bind fun y146 hy51 => Mir.regionD [] (by kernel_rfl) fun e h => ?_))
       simp only [↓reduceIte, reduceCtorEq, nA, nS, nM, nE, nL, nT, nB, iT, iN, iE, and_self, SR, SV, sepL_nil, sepL_cons, sepV_ne, sepV_d, sepV_i, true_and, Bool.and_self, ag_33, sz_33, ENMB, rmap_set, spD]
       refine Spec.by (l45_own_spec hy50) (by simp only [↓reduceIte, reduceCtorEq, nA, nE, nL, and_self, and_true, true_and, SL, ENMB, rmap_set, spD]) ?_
       simp only [↓reduceIte, reduceCtorEq, nA, nS, nM, nE, nL, nT, nB, iT, iN, iE, and_self, SR, SV, sepL_nil, sepL_cons, sepV_ne, sepV_d, sepV_i, true_and, Bool.and_self, ag_27, sz_27, ENMB, rmap_set, spD]
       refine Spec.by (r45_Same_spec hy51) (by simp only [↓reduceIte, reduceCtorEq, nA, nE, nL, and_self, and_true, true_and, SL, ENMB, rmap_set, spD]) ?_
       simp only [↓reduceIte, reduceCtorEq, nA, nS, nM, nE, nL, nT, nB, iT, iN, iE, and_self, SR, SV, sepL_nil, sepL_cons, sepV_ne, sepV_d, sepV_i, true_and, Bool.and_self, ENMB, rmap_set, spD]
       refine Mir.use (e := e) ?_ h
       refine Mir.ret fun e h => ?_
       cases h
       simp only [↓reduceIte, reduceCtorEq, nA, nE, nL, and_self, and_true, true_and, SL, ENMB, rmap_set, spD, Tryd.results5]

theorem co_2 : Tryd.prog.cellsOf 2 = 1 := by kernel_rfl
theorem opn_2 : Opn Tryd.prog 2 (eInt .i64) (inInt .i64) := Opn.int Tryd.underlying2
def inApiPos (x : ApiPos) : Prop := (inInt .i64) x.X ∧ (inInt .i64) x.Y ∧ (inInt .i64) x.Z
theorem co_23 : Tryd.prog.cellsOf 23 = 3 := by kernel_rfl
theorem opn_23 : Opn Tryd.prog 23 encApiPos inApiPos := by
  intro w H enc fuel cs x h
  obtain ⟨xs, n, _, _, hl, hxl, hf⟩ := DataW.trod_struct Tryd.underlying23 h
  have hxl' : xs.length = 3 := hxl
  obtain ⟨s0, r0, o0⟩ := Opn.field hf 0 2 0 1 rfl co_2 (by omega) opn_2
  obtain ⟨s1, r1, o1⟩ := Opn.field hf 1 2 1 1 rfl co_2 (by omega) opn_2
  obtain ⟨s2, r2, o2⟩ := Opn.field hf 2 2 2 1 rfl co_2 (by omega) opn_2
  refine ⟨⟨s0, s1, s2⟩, ?_, o0, o1, o2⟩
  exact (RelC.cut 0 1 r0 rfl (RelC.cut 1 1 r1 rfl (RelC.cut 2 1 r2 rfl (RelC.nil (n := 3) (by rw [hl, co_23]; exact Nat.le_refl _)))))
def inArr6ApiPos (x : Arr6ApiPos) : Prop := inApiPos x.e0 ∧ inApiPos x.e1 ∧ inApiPos x.e2 ∧ inApiPos x.e3 ∧ inApiPos x.e4 ∧ inApiPos x.e5
theorem co_24 : Tryd.prog.cellsOf 24 = 18 := by kernel_rfl
theorem opn_24 : Opn Tryd.prog 24 encArr6ApiPos inArr6ApiPos := by
  intro w H enc fuel cs x h
  obtain ⟨xs, n, _, _, hl, hxl, hf⟩ := DataW.trod_array Tryd.underlying24 h
  obtain ⟨s0, r0, o0⟩ := Opn.elem hf 0 3 co_23 (by omega) hxl opn_23
  obtain ⟨s1, r1, o1⟩ := Opn.elem hf 1 3 co_23 (by omega) hxl opn_23
  obtain ⟨s2, r2, o2⟩ := Opn.elem hf 2 3 co_23 (by omega) hxl opn_23
  obtain ⟨s3, r3, o3⟩ := Opn.elem hf 3 3 co_23 (by omega) hxl opn_23
  obtain ⟨s4, r4, o4⟩ := Opn.elem hf 4 3 co_23 (by omega) hxl opn_23
  obtain ⟨s5, r5, o5⟩ := Opn.elem hf 5 3 co_23 (by omega) hxl opn_23
  refine ⟨⟨s0, s1, s2, s3, s4, s5⟩, ?_, o0, o1, o2, o3, o4, o5⟩
  exact (RelC.cut 0 3 r0 rfl (RelC.cut 3 3 r1 rfl (RelC.cut 6 3 r2 rfl (RelC.cut 9 3 r3 rfl (RelC.cut 12 3 r4 rfl (RelC.cut 15 3 r5 rfl (RelC.nil (n := 18) (by rw [hl, co_24]; exact Nat.le_refl _))))))))
def inR45Length (x : R45Length) : Prop := (inInt .i64) x.Number ∧ (inInt .i64) x.Length
theorem co_61 : Tryd.prog.cellsOf 61 = 2 := by kernel_rfl
theorem opn_61 : Opn Tryd.prog 61 encR45Length inR45Length := by
  intro w H enc fuel cs x h
  obtain ⟨xs, n, _, _, hl, hxl, hf⟩ := DataW.trod_struct Tryd.underlying61 h
  have hxl' : xs.length = 2 := hxl
  obtain ⟨s0, r0, o0⟩ := Opn.field hf 0 2 0 1 rfl co_2 (by omega) opn_2
  obtain ⟨s1, r1, o1⟩ := Opn.field hf 1 2 1 1 rfl co_2 (by omega) opn_2
  refine ⟨⟨s0, s1⟩, ?_, o0, o1⟩
  exact (RelC.cut 0 1 r0 rfl (RelC.cut 1 1 r1 rfl (RelC.nil (n := 2) (by rw [hl, co_61]; exact Nat.le_refl _))))
theorem co_25 : Tryd.prog.cellsOf 25 = 1 := by kernel_rfl
theorem opn_25 : Opn Tryd.prog 25 (eList encR45Length) (inList inR45Length) := Opn.slice Tryd.underlying25 opn_61 (fun _ => (rfl : _ = 2).trans co_61.symm) (by rw [co_61]; decide)
def inR45Table (x : R45Table) : Prop := inArr6ApiPos x.Work ∧ (inList inR45Length) x.Lengths
theorem co_27 : Tryd.prog.cellsOf 27 = 19 := by kernel_rfl
theorem opn_27 : Opn Tryd.prog 27 encR45Table inR45Table := by
  intro w H enc fuel cs x h
  obtain ⟨xs, n, _, _, hl, hxl, hf⟩ := DataW.trod_struct Tryd.underlying27 h
  have hxl' : xs.length = 2 := hxl
  obtain ⟨s0, r0, o0⟩ := Opn.field hf 0 24 0 18 rfl co_24 (by omega) opn_24
  obtain ⟨s1, r1, o1⟩ := Opn.field hf 1 25 18 1 rfl co_25 (by omega) opn_25
  refine ⟨⟨s0, s1⟩, ?_, o0, o1⟩
  exact (RelC.cut 0 18 r0 rfl (RelC.cut 18 1 r1 rfl (RelC.nil (n := 19) (by rw [hl, co_27]; exact Nat.le_refl _))))
end Go.Proofs.YtiiglghanajfcaaDoor
