/-
  Mirrors of functions, written by wip/mir.py.
-/
import Derived.Test.YtlcfgpjgjdjpoaaDoorGf
import Derived.Test.YtlcfgpjgjdjpoaaDoorTy
import Derived.Test.YtlcfgpjgjdjpoaaDoorGo
import Derived.Test.YtlcfgpjgjdjpoaaDoorMB
import Derived.Test.YtlcfgpjgjdjpoaaDoorMH
namespace Go.Proofs.YtlcfgpjgjdjpoaaDoor
open Go.RowKit
open Nat renaming reduceAdd → nA, reduceSub → nS, reduceMul → nM, reduceEqDiff → nE, reduceLeDiff → nL, reduceLT → nT, reduceBEq → nB
open Int renaming reduceLT → iT, reduceToNat → iN, reduceEq → iE
set_option linter.unusedVariables false
set_option linter.unusedSimpArgs false
set_option maxRecDepth 100000

def slices_Clone_api_Block_api_Block (a0 : List ApiBlock) : Option (List ApiBlock) := guardO (okLen a0.length) (some a0)
theorem slices_Clone_api_Block_api_Block_n {c0 : Nat} {y : List ApiBlock} (h : (some []) = some y) : Spec gP 19 [.d (.other (.slice none 0 c0))] (.d (.list (List.map encApiBlock y))) := by
  refine spec_mir Tryd.func19 rfl (by kernel_rfl) (by kernel_rfl) (fun y : List ApiBlock => .d (.list (List.map encApiBlock y))) ?_ h
  simp only [List.replicate, List.length, nS, nA, Tryd.ntmps19, SV]
  refine Mir.seqK ?_
  refine Mir.region fun e h => ?_
  simp only [↓reduceIte, reduceCtorEq, nA, nS, nM, nE, nL, nT, nB, iT, iN, iE, and_self, SR, SV, encApiBlock]
  refine Mir.use (e := e) ?_ h
  refine Mir.seqK ?_
  refine Mir.seqK ?_
  refine Mir.region fun e h => ?_
  simp only [↓reduceIte, reduceCtorEq, nA, nS, nM, nE, nL, nT, nB, iT, iN, iE, and_self, SR, SV, und_43, encApiBlock]
  refine Mir.use (e := e) ?_ h
  refine Mir.condT rfl ?_
  refine Mir.seqK ?_
  refine Mir.region fun e h => ?_
  simp only [↓reduceIte, reduceCtorEq, nA, nS, nM, nE, nL, nT, nB, iT, iN, iE, and_self, SR, SV, encApiBlock]
  refine Mir.use (e := e) ?_ h
  refine Mir.ret fun e h => ?_
  cases h
  simp only [↓reduceIte, reduceCtorEq, nA, nE, nL, and_self, and_true, true_and, SL, encApiBlock, Tryd.results19]
theorem slices_Clone_api_Block_api_Block_o {p0 : Addr} {c0 : Nat} {y : List ApiBlock} (h : (some []) = some y) : Spec gP 19 [.d (.other (.slice (some p0) 0 c0))] (.d (.list (List.map encApiBlock y))) := by
  refine spec_mir Tryd.func19 rfl (by kernel_rfl) (by kernel_rfl) (fun y : List ApiBlock => .d (.list (List.map encApiBlock y))) ?_ h
  simp only [List.replicate, List.length, nS, nA, Tryd.ntmps19, SV]
  refine Mir.seqK ?_
  refine Mir.region fun e h => ?_
  simp only [↓reduceIte, reduceCtorEq, nA, nS, nM, nE, nL, nT, nB, iT, iN, iE, and_self, SR, SV, encApiBlock]
  refine Mir.use (e := e) ?_ h
  refine Mir.seqK ?_
  refine Mir.seqK ?_
  refine Mir.region fun e h => ?_
  simp only [↓reduceIte, reduceCtorEq, nA, nS, nM, nE, nL, nT, nB, iT, iN, iE, and_self, SR, SV, und_43, encApiBlock]
  refine Mir.use (e := e) ?_ h
  refine Mir.condF rfl ?_
  refine Mir.skip ?_
  refine Mir.toK ?_
  refine Mir.seqK ?_
  refine Mir.region fun e h => ?_
  simp only [↓reduceIte, reduceCtorEq, nA, nS, nM, nE, nL, nT, nB, iT, iN, iE, and_self, SR, SV, und_43, sz_42, zero_42, (nr rfl : okLen 0 = true), app_43, al_ApiBlock, encApiBlock]
  refine Mir.use (e := e) ?_ h
  refine Mir.ret fun e h => ?_
  cases h
  simp only [↓reduceIte, reduceCtorEq, nA, nE, nL, and_self, and_true, true_and, SL, encApiBlock, Tryd.results19]
theorem slices_Clone_api_Block_api_Block_c {x0 : ApiBlock} {l0 : List ApiBlock} {y : List ApiBlock} (h : (guardO (okLen ((x0 :: l0).length)) (   some (x0 :: l0))) = some y) : Spec gP 19 [.d (.list (List.map encApiBlock (x0 :: l0)))] (.d (.list (List.map encApiBlock y))) := by
  refine spec_mir Tryd.func19 rfl (by kernel_rfl) (by kernel_rfl) (fun y : List ApiBlock => .d (.list (List.map encApiBlock y))) ?_ h
  simp only [List.replicate, List.length, nS, nA, Tryd.ntmps19, SV]
  refine Mir.seqK ?_
  refine Mir.region fun e h => ?_
  simp only [↓reduceIte, reduceCtorEq, nA, nS, nM, nE, nL, nT, nB, iT, iN, iE, and_self, SR, SV, encApiBlock]
  refine Mir.use (e := e) ?_ h
  refine Mir.seqK ?_
  refine Mir.seqK ?_
  refine Mir.region fun e h => ?_
  simp only [↓reduceIte, reduceCtorEq, nA, nS, nM, nE, nL, nT, nB, iT, iN, iE, and_self, SR, SV, und_43, encApiBlock]
  refine Mir.use (e := e) ?_ h
  refine Mir.condF rfl ?_
  refine Mir.skip ?_
  refine Mir.toK ?_
  refine Mir.seqK ?_
  refine Mir.guard fun q1 => ?_
  refine Mir.region fun e h => ?_
  simp only [↓reduceIte, reduceCtorEq, nA, nS, nM, nE, nL, nT, nB, iT, iN, iE, and_self, SR, SV, und_43, sz_42, zero_42, (nr rfl : okLen 0 = true), app_43, al_ApiBlock, Nat.zero_lt_succ, Nat.add_eq_zero_iff, q1, encApiBlock]
  refine Mir.use (e := e) ?_ h
  refine Mir.ret fun e h => ?_
  cases h
  simp only [↓reduceIte, reduceCtorEq, nA, nE, nL, and_self, and_true, true_and, SL, encApiBlock, Tryd.results19]
theorem slices_Clone_api_Block_api_Block_spec {a0 : List ApiBlock} {y : List ApiBlock} (h : slices_Clone_api_Block_api_Block a0 = some y) : Spec gP 19 [.d (.list (List.map encApiBlock a0))] (.d (.list (List.map encApiBlock y))) := by
  obtain ⟨hl, h⟩ := guardO_some h
  cases h
  cases a0 with
  | nil =>
    refine Spec.nilcase fun A c => ?_
    cases A with
    | none => exact slices_Clone_api_Block_api_Block_n rfl
    | some p => exact slices_Clone_api_Block_api_Block_o rfl
  | cons x l => exact slices_Clone_api_Block_api_Block_c (by simp only [guardO, hl])

def l47_InterpreterParts (a0 : (List ApiBlock)) (a1 : L47Setting) : Option Bool :=
  bindO (bindO (l47_awake ) fun (y101 : Bool) =>
      if y101 = true then
        bindO (l47_few a0 a1) fun (y102 : Bool) =>
        if y102 = true then
          bindO (r45_Valid a1.Table) fun (y103 : Int) =>
          if (y103 != 0) = true then
            some true
          else
            bindO (r47_InRange a1.From) fun (y104 : Bool) =>
            some (!y104)
        else
          some true
      else
        some true) fun (v105 : Bool) =>
  if v105 = true then
    bindO (l47_awake ) fun (y107 : Bool) =>
    some y107
  else
    bindO (slices_Clone_api_Block_api_Block a0) fun (y108 : (List ApiBlock)) =>
    bindO (l47_theirs a1.Table) fun (y109 : TableTable) =>
    bindO (inp_Blocks y108 y109 a1.From) fun (y110 : (List ApiMotion) × InterpreterAlarm) =>
    bindO (md_New ) fun (y111 : ModalState) =>
    bindX (guardO (okIdx a0) (
        rangeX (fun (i1260 : Nat) (e1262 : ApiBlock) (v1261 : (List ApiMotion) × ApiPos × ModalState × CycleCycle) =>
          bindX (bindO (l47_theirs a1.Table) fun (y1307 : TableTable) =>
              bindO (inp_Step v1261.2.2.1 v1261.2.2.2 e1262 y1307 v1261.2.1) fun (y1308 : (List ApiMotion) × ModalState × CycleCycle × Int) =>
              if (y1308.2.2.2 != 0) = true then
                bindO (if ((y110.2.Block == (i1260 : Int)) && (y110.2.Code == y1308.2.2.2)) = true then
                      bindO (r47_Same y110.1 v1261.1) fun (y1311 : Bool) =>
                      some y1311
                    else
                      some false) fun (v1312 : Bool) =>
                some (.ret (.ret (.ret v1312)))
              else
                if (decide ((IntKind.i64.wrap ((v1261.1.length : Int) + (y1308.1.length : Int))) > 20000)) = true then
                  bindO (if ((y110.2.Block == (i1260 : Int)) && (y110.2.Code == 3)) = true then
                        bindO (r47_Same y110.1 v1261.1) fun (y1315 : Bool) =>
                        some y1315
                      else
                        some false) fun (v1316 : Bool) =>
                  some (.ret (.ret (.ret v1316)))
                else
                  bindO (guardO (okIdx y1308.1) (
                      rangeX (fun (i1343 : Nat) (e1345 : ApiMotion) (v1344 : (List ApiMotion)) =>
                        guardO (okLen (v1344.length + 1)) (
                        some (.go (v1344 ++ [ApiMotion.mk e1345.From e1345.To e1345.Rate e1345.Tool (i1260 : Int)])))) (fun (v1344 : (List ApiMotion)) => some v1344) y1308.1 0 v1261.1)) fun (v1331 : (List ApiMotion)) =>
                  bindO (inp_End v1261.2.1 y1308.1) fun (y1346 : ApiPos) =>
                  bindO (r41_Find e1262 77) fun (y1347 : Int × Bool) =>
                  if (y1347.2 && (y1347.1 == 30000)) = true then
                    bindO (if ((y110.2.Block == (-1)) && (y110.2.Code == 0)) = true then
                          bindO (r47_Same y110.1 v1331) fun (y1348 : Bool) =>
                          some y1348
                        else
                          some false) fun (v1349 : Bool) =>
                    some (.ret (.ret (.ret v1349)))
                  else
                    some (.go (v1331, y1346, y1308.2.1, y1308.2.2.1))) fun (v1306 : (List ApiMotion) × ApiPos × ModalState × CycleCycle) =>
          some (.go (v1306.1, v1306.2.1, v1306.2.2.1, v1306.2.2.2))) (fun (v1261 : (List ApiMotion) × ApiPos × ModalState × CycleCycle) => some (.go (v1261.1, v1261.2.1, v1261.2.2.1, v1261.2.2.2))) a0 0 ([], a1.From, y111, CycleCycle.mk 0 0 0 0 0 0 false))) fun (v987 : (List ApiMotion) × ApiPos × ModalState × CycleCycle) =>
    bindO (if ((y110.2.Block == (a0.length : Int)) && (y110.2.Code == 13)) = true then
          bindO (r47_Same y110.1 v987.1) fun (y1350 : Bool) =>
          some y1350
        else
          some false) fun (v1351 : Bool) =>
    some v1351
set_option maxHeartbeats 8000000 in
theorem l47_InterpreterParts_spec {a0 : (List ApiBlock)} {a1 : L47Setting} {y : Bool} (h : l47_InterpreterParts a0 a1 = some y) : Spec gP 5 [.d (.list (List.map encApiBlock a0)), .agg [.d (.int .i64 a1.Table.Work.e0.X), .d (.int .i64 a1.Table.Work.e0.Y), .d (.int .i64 a1.Table.Work.e0.Z), .d (.int .i64 a1.Table.Work.e1.X), .d (.int .i64 a1.Table.Work.e1.Y), .d (.int .i64 a1.Table.Work.e1.Z), .d (.int .i64 a1.Table.Work.e2.X), .d (.int .i64 a1.Table.Work.e2.Y), .d (.int .i64 a1.Table.Work.e2.Z), .d (.int .i64 a1.Table.Work.e3.X), .d (.int .i64 a1.Table.Work.e3.Y), .d (.int .i64 a1.Table.Work.e3.Z), .d (.int .i64 a1.Table.Work.e4.X), .d (.int .i64 a1.Table.Work.e4.Y), .d (.int .i64 a1.Table.Work.e4.Z), .d (.int .i64 a1.Table.Work.e5.X), .d (.int .i64 a1.Table.Work.e5.Y), .d (.int .i64 a1.Table.Work.e5.Z), .d (.list (List.map encR45Length a1.Table.Lengths)), .d (.int .i64 a1.From.X), .d (.int .i64 a1.From.Y), .d (.int .i64 a1.From.Z)]] (.d (.bool y)) := by
  refine spec_mir Tryd.func5 rfl (by kernel_rfl) (by kernel_rfl) (fun y : Bool => .d (.bool y)) ?_ h
  unfold l47_InterpreterParts
  simp only [List.replicate, List.length, nS, nA, Tryd.ntmps5, SV]
  refine Mir.seqK ?_
  refine Mir.region fun e h => ?_
  simp only [↓reduceIte, reduceCtorEq, nA, nS, nM, nE, nL, nT, nB, iT, iN, iE, and_self, SR, SV, encApiBlock, encApiMotion, encR45Length]
  refine Mir.use (e := e) ?_ h
  refine Mir.seqK ?_
  refine Mir.seqK ?_
  refine Mir.joinO (fun v105 : Bool => [.d (.list (List.map encApiBlock a0)), U, U, .ptr 0 0, U, U, U, U, U, U, U, U, U, U, U, U, U, U, U, U, U, U, U, U, U, U, U, U, U, U, U, U, U, U, U, U, U, U, U, U, .d (.bool v105), U, U, U, U, U, U, U, U, U, U, U, U, U, U, U, U, U, U, U, U, U, U, U, U, U, U, U, U, U, U, U, U, U, U, U, U, U, U, U, U, U, U, U, U, U, U, U, U, U, U, U, U, U, U, U, U, U, U, U, U, U, U, U, U, U, U, U, U, U, U, U, U, U, U, U, U, U, U, U, U, U, U, U, U, U, U, U, U, U, U, U, U, U, U, U, U, U, U, U, U, U, U, U, U, U, U, U, U, U, U]) (fun v105 : Bool => ⟨[[.d (.int .i64 a1.Table.Work.e0.X), .d (.int .i64 a1.Table.Work.e0.Y), .d (.int .i64 a1.Table.Work.e0.Z), .d (.int .i64 a1.Table.Work.e1.X), .d (.int .i64 a1.Table.Work.e1.Y), .d (.int .i64 a1.Table.Work.e1.Z), .d (.int .i64 a1.Table.Work.e2.X), .d (.int .i64 a1.Table.Work.e2.Y), .d (.int .i64 a1.Table.Work.e2.Z), .d (.int .i64 a1.Table.Work.e3.X), .d (.int .i64 a1.Table.Work.e3.Y), .d (.int .i64 a1.Table.Work.e3.Z), .d (.int .i64 a1.Table.Work.e4.X), .d (.int .i64 a1.Table.Work.e4.Y), .d (.int .i64 a1.Table.Work.e4.Z), .d (.int .i64 a1.Table.Work.e5.X), .d (.int .i64 a1.Table.Work.e5.Y), .d (.int .i64 a1.Table.Work.e5.Z), .d (.list (List.map encR45Length a1.Table.Lengths)), .d (.int .i64 a1.From.X), .d (.int .i64 a1.From.Y), .d (.int .i64 a1.From.Z)]], []⟩) (fun _ => rfl) ?_ ?_
  ·refine Mir.bind fun y101 hy1 => ?_
   refine Mir.ite (fun hb2 => ?_) (fun hb2 => ?_)
   ·refine Mir.bind fun y102 hy3 => ?_
    refine Mir.ite (fun hb4 => ?_) (fun hb4 => ?_)
    ·refine Mir.bind fun y103 hy5 => ?_
     refine Mir.ite (fun hb6 => ?_) (fun hb6 => ?_)
     ·refine Mir.region fun e h => ?_
      simp only [↓reduceIte, reduceCtorEq, nA, nS, nM, nE, nL, nT, nB, iT, iN, iE, and_self, SR, SV, encApiBlock, encR45Length, hb2, hb4, hb6]
      refine SpecS.by (l47_awake_spec hy1) (rfl) ?_
      simp only [↓reduceIte, reduceCtorEq, nA, nS, nM, nE, nL, nT, nB, iT, iN, iE, and_self, SR, SV, ag_30, sz_30, encApiBlock, encR45Length, hb2, hb4, hb6]
      refine SpecS.by (l47_few_spec hy3) (by simp only [↓reduceIte, reduceCtorEq, nA, nE, nL, and_self, and_true, true_and, SL, encApiBlock, encR45Length, hb2, hb4, hb6]) ?_
      simp only [↓reduceIte, reduceCtorEq, nA, nS, nM, nE, nL, nT, nB, iT, iN, iE, and_self, SR, SV, fld_30_0, sz_28, ag_28, encApiBlock, encR45Length, hb2, hb4, hb6]
      refine SpecS.by (r45_Valid_spec hy5) (by simp only [↓reduceIte, reduceCtorEq, nA, nE, nL, and_self, and_true, true_and, SL, encApiBlock, encR45Length, hb2, hb4, hb6]) ?_
      simp only [↓reduceIte, reduceCtorEq, nA, nS, nM, nE, nL, nT, nB, iT, iN, iE, and_self, SR, SV, encApiBlock, encR45Length, hb2, hb4, hb6]
      cases h
      simp only [↓reduceIte, reduceCtorEq, nA, nE, nL, and_self, and_true, true_and, SL, encApiBlock, encR45Length, hb2, hb4, hb6]
     ·refine Mir.bind fun y104 hy7 => ?_
      refine Mir.region fun e h => ?_
      simp only [↓reduceIte, reduceCtorEq, nA, nS, nM, nE, nL, nT, nB, iT, iN, iE, and_self, SR, SV, encApiBlock, encR45Length, hb2, hb4, hb6]
      refine SpecS.by (l47_awake_spec hy1) (rfl) ?_
      simp only [↓reduceIte, reduceCtorEq, nA, nS, nM, nE, nL, nT, nB, iT, iN, iE, and_self, SR, SV, ag_30, sz_30, encApiBlock, encR45Length, hb2, hb4, hb6]
      refine SpecS.by (l47_few_spec hy3) (by simp only [↓reduceIte, reduceCtorEq, nA, nE, nL, and_self, and_true, true_and, SL, encApiBlock, encR45Length, hb2, hb4, hb6]) ?_
      simp only [↓reduceIte, reduceCtorEq, nA, nS, nM, nE, nL, nT, nB, iT, iN, iE, and_self, SR, SV, fld_30_0, sz_28, ag_28, encApiBlock, encR45Length, hb2, hb4, hb6]
      refine SpecS.by (r45_Valid_spec hy5) (by simp only [↓reduceIte, reduceCtorEq, nA, nE, nL, and_self, and_true, true_and, SL, encApiBlock, encR45Length, hb2, hb4, hb6]) ?_
      simp only [↓reduceIte, reduceCtorEq, nA, nS, nM, nE, nL, nT, nB, iT, iN, iE, and_self, SR, SV, fld_30_1, sz_24, ag_24, encApiBlock, encR45Length, hb2, hb4, hb6]
      refine SpecS.by (r47_InRange_spec hy7) (by simp only [↓reduceIte, reduceCtorEq, nA, nE, nL, and_self, and_true, true_and, SL, encApiBlock, encR45Length, hb2, hb4, hb6]) ?_
      simp only [↓reduceIte, reduceCtorEq, nA, nS, nM, nE, nL, nT, nB, iT, iN, iE, and_self, SR, SV, encApiBlock, encR45Length, hb2, hb4, hb6]
      cases h
      simp only [↓reduceIte, reduceCtorEq, nA, nE, nL, and_self, and_true, true_and, SL, encApiBlock, encR45Length, hb2, hb4, hb6]
    ·refine Mir.region fun e h => ?_
     simp only [↓reduceIte, reduceCtorEq, nA, nS, nM, nE, nL, nT, nB, iT, iN, iE, and_self, SR, SV, encApiBlock, encR45Length, hb2, hb4]
     refine SpecS.by (l47_awake_spec hy1) (rfl) ?_
     simp only [↓reduceIte, reduceCtorEq, nA, nS, nM, nE, nL, nT, nB, iT, iN, iE, and_self, SR, SV, ag_30, sz_30, encApiBlock, encR45Length, hb2, hb4]
     refine SpecS.by (l47_few_spec hy3) (by simp only [↓reduceIte, reduceCtorEq, nA, nE, nL, and_self, and_true, true_and, SL, encApiBlock, encR45Length, hb2, hb4]) ?_
     simp only [↓reduceIte, reduceCtorEq, nA, nS, nM, nE, nL, nT, nB, iT, iN, iE, and_self, SR, SV, encApiBlock, encR45Length, hb2, hb4]
     cases h
     simp only [↓reduceIte, reduceCtorEq, nA, nE, nL, and_self, and_true, true_and, SL, encApiBlock, encR45Length, hb2, hb4]
   ·refine Mir.region fun e h => ?_
    simp only [↓reduceIte, reduceCtorEq, nA, nS, nM, nE, nL, nT, nB, iT, iN, iE, and_self, SR, SV, encApiBlock, encR45Length, hb2]
    refine SpecS.by (l47_awake_spec hy1) (rfl) ?_
    simp only [↓reduceIte, reduceCtorEq, nA, nS, nM, nE, nL, nT, nB, iT, iN, iE, and_self, SR, SV, encApiBlock, encR45Length, hb2]
    cases h
    simp only [↓reduceIte, reduceCtorEq, nA, nE, nL, and_self, and_true, true_and, SL, encApiBlock, encR45Length, hb2]
  ·intro v105
   refine Mir.toK ?_
   refine Mir.cond rfl (fun hb10 => ?_) (fun hb10 => ?_)
   ·refine Mir.seqK ?_
    refine Mir.bind fun y107 hy11 => ?_
    refine Mir.region fun e h => ?_
    simp only [↓reduceIte, reduceCtorEq, nA, nS, nM, nE, nL, nT, nB, iT, iN, iE, and_self, SR, SV, encApiBlock, encR45Length]
    refine SpecS.by (l47_awake_spec hy11) (rfl) ?_
    simp only [↓reduceIte, reduceCtorEq, nA, nS, nM, nE, nL, nT, nB, iT, iN, iE, and_self, SR, SV, encApiBlock, encR45Length]
    refine Mir.use (e := e) ?_ h
    refine Mir.ret fun e h => ?_
    cases h
    simp only [↓reduceIte, reduceCtorEq, nA, nE, nL, and_self, and_true, true_and, SL, encApiBlock, encR45Length, Tryd.results5]
   ·refine Mir.skip ?_
    refine Mir.toK ?_
    refine Mir.seqK ?_
    refine Mir.bind fun y108 hy12 => ?_
    refine Mir.bind fun y109 hy13 => ?_
    refine Mir.bind fun y110 hy14 => ?_
    refine Mir.regionD [] (by kernel_rfl) fun e h => ?_
    simp only [↓reduceIte, reduceCtorEq, nA, nS, nM, nE, nL, nT, nB, iT, iN, iE, and_self, SR, SV, sepL_nil, sepL_cons, sepV_ne, sepV_d, sepV_i, true_and, Bool.and_self, encApiBlock, encApiMotion, encR45Length]
    refine Spec.by (slices_Clone_api_Block_api_Block_spec hy12) (by simp only [↓reduceIte, reduceCtorEq, nA, nE, nL, and_self, and_true, true_and, SL, encApiBlock, encApiMotion, encR45Length]) ?_
    simp only [↓reduceIte, reduceCtorEq, nA, nS, nM, nE, nL, nT, nB, iT, iN, iE, and_self, SR, SV, sepL_nil, sepL_cons, sepV_ne, sepV_d, sepV_i, true_and, Bool.and_self, fld_30_0, sz_28, ag_28, encApiBlock, encApiMotion, encR45Length]
    refine Spec.by (l47_theirs_spec hy13) (by simp only [↓reduceIte, reduceCtorEq, nA, nE, nL, and_self, and_true, true_and, SL, encApiBlock, encApiMotion, encR45Length]) ?_
    simp only [↓reduceIte, reduceCtorEq, nA, nS, nM, nE, nL, nT, nB, iT, iN, iE, and_self, SR, SV, sepL_nil, sepL_cons, sepV_ne, sepV_d, sepV_i, true_and, Bool.and_self, fld_30_1, sz_24, ag_24, encApiBlock, encApiMotion, encR45Length]
    refine Spec.by (inp_Blocks_spec hy14) (by simp only [↓reduceIte, reduceCtorEq, nA, nE, nL, and_self, and_true, true_and, SL, encApiBlock, encApiMotion, encR45Length]) ?_
    simp only [↓reduceIte, reduceCtorEq, nA, nS, nM, nE, nL, nT, nB, iT, iN, iE, and_self, SR, SV, sepL_nil, sepL_cons, sepV_ne, sepV_d, sepV_i, true_and, Bool.and_self, zero_49, sz_49, encApiBlock, encApiMotion, encR45Length]
    refine Mir.use (e := e) ?_ h
    refine Mir.seqK ?_
    refine Mir.bind fun y111 hy15 => ?_
    refine Mir.regionD [] (by kernel_rfl) fun e h => ?_
    simp only [↓reduceIte, reduceCtorEq, nA, nS, nM, nE, nL, nT, nB, iT, iN, iE, and_self, SR, SV, sepL_nil, sepL_cons, sepV_ne, sepV_d, sepV_i, true_and, Bool.and_self, fld_30_1, sz_24, ag_24, encApiBlock, encApiMotion, encR45Length]
    refine Spec.by (md_New_spec hy15) (rfl) ?_
    simp only [↓reduceIte, reduceCtorEq, nA, nS, nM, nE, nL, nT, nB, iT, iN, iE, and_self, SR, SV, sepL_nil, sepL_cons, sepV_ne, sepV_d, sepV_i, true_and, Bool.and_self, zero_68, pl_68, zero_24, zero_65, sz_24, sz_65, sz_68, encApiBlock, encApiMotion, encR45Length]
    refine Mir.use (e := e) ?_ h
    refine Mir.seqK ?_
    refine Mir.region fun e h => ?_
    simp only [↓reduceIte, reduceCtorEq, nA, nS, nM, nE, nL, nT, nB, iT, iN, iE, and_self, SR, SV, encApiBlock, encApiMotion, encR45Length]
    refine Mir.use (e := e) ?_ h
    refine Mir.seqK ?_
    refine Mir.seqK ?_
    refine Mir.region fun e h => ?_
    simp only [↓reduceIte, reduceCtorEq, nA, nS, nM, nE, nL, nT, nB, iT, iN, iE, and_self, SR, SV, und_43, encApiBlock, encApiMotion, encR45Length]
    refine Mir.use (e := e) ?_ h
    refine Mir.gh [.slot 10 62] rfl ?_
    refine Mir.join (fun v987 : (List ApiMotion) × ApiPos × ModalState × CycleCycle => [.d (.list (List.map encApiBlock a0)), U, U, U, U, .d (.list (List.map encApiMotion y110.1)), .ptr 1 0, U, U, U, .own 0 (List.map encApiMotion v987.1), U, U, U, U, U, U, U, U, U, U, U, U, U, U, U, U, U, U, U, U, U, U, U, U, U, U, U, U, U, U, U, U, U, U, U, U, U, U, U, U, U, U, U, U, U, U, U, U, U, U, U, U, U, U, U, U, U, U, U, U, U, U, U, U, U, U, U, U, U, U, U, U, U, U, U, U, U, U, U, U, U, U, U, U, U, U, U, U, U, U, U, U, U, U, U, U, U, U, U, U, U, U, U, U, U, U, U, U, U, U, U, U, U, U, U, U, U, U, U, U, U, U, U, U, U, U, U, U, U, U, U, U, U, U, U, U, U, U, U, U]) (fun v987 : (List ApiMotion) × ApiPos × ModalState × CycleCycle => ⟨[[.d (.int .i64 a1.Table.Work.e0.X), .d (.int .i64 a1.Table.Work.e0.Y), .d (.int .i64 a1.Table.Work.e0.Z), .d (.int .i64 a1.Table.Work.e1.X), .d (.int .i64 a1.Table.Work.e1.Y), .d (.int .i64 a1.Table.Work.e1.Z), .d (.int .i64 a1.Table.Work.e2.X), .d (.int .i64 a1.Table.Work.e2.Y), .d (.int .i64 a1.Table.Work.e2.Z), .d (.int .i64 a1.Table.Work.e3.X), .d (.int .i64 a1.Table.Work.e3.Y), .d (.int .i64 a1.Table.Work.e3.Z), .d (.int .i64 a1.Table.Work.e4.X), .d (.int .i64 a1.Table.Work.e4.Y), .d (.int .i64 a1.Table.Work.e4.Z), .d (.int .i64 a1.Table.Work.e5.X), .d (.int .i64 a1.Table.Work.e5.Y), .d (.int .i64 a1.Table.Work.e5.Z), .d (.list (List.map encR45Length a1.Table.Lengths)), .d (.int .i64 a1.From.X), .d (.int .i64 a1.From.Y), .d (.int .i64 a1.From.Z)], [.d (.int .i64 y110.2.Block), .d (.int .i64 y110.2.Code)], [.d (.int .i64 v987.2.1.X), .d (.int .i64 v987.2.1.Y), .d (.int .i64 v987.2.1.Z)], [.d (.int .i64 v987.2.2.1.Motion), .d (.int .i64 v987.2.2.1.Distance), .d (.int .i64 v987.2.2.1.Work), .d (.int .i64 v987.2.2.1.Length), .d (.int .i64 v987.2.2.1.Return), .d (.int .i64 v987.2.2.1.Feed), .d (.int .i64 v987.2.2.1.Tool), .d (.int .i64 v987.2.2.1.Offset)], [.d (.int .i64 v987.2.2.2.Code), .d (.int .i64 v987.2.2.2.R), .d (.int .i64 v987.2.2.2.Z), .d (.int .i64 v987.2.2.2.Q), .d (.int .i64 v987.2.2.2.Rate), .d (.int .i64 v987.2.2.2.Initial), .d (.bool v987.2.2.2.High)]], [(62, v987.1.length)]⟩) (fun _ => rfl) ?_ ?_
    ·refine Mir.block ?_
     refine Mir.guard fun qg1704 => ?_
     refine Mir.range (fun (i1260 : Nat) (v1261 : (List ApiMotion) × ApiPos × ModalState × CycleCycle) => [.d (.list (List.map encApiBlock a0)), U, U, .ptr 0 0, U, .d (.list (List.map encApiMotion y110.1)), .ptr 1 0, .ptr 2 0, .ptr 3 0, .ptr 4 0, .own 0 (List.map encApiMotion v1261.1), U, U, U, U, U, U, U, U, U, U, U, U, U, U, U, U, U, U, U, U, U, U, U, U, U, U, U, U, U, U, U, U, U, U, U, U, U, U, U, U, U, U, U, U, U, U, .d (.list (List.map encApiBlock a0)), .d (.int .i64 (a0.length : Int)), .d (.int .i64 (i1260 : Int)), U, U, U, U, U, U, U, U, U, U, U, U, U, U, U, U, U, U, U, U, U, U, U, U, U, U, U, U, U, U, U, U, U, U, U, U, U, U, U, U, U, U, U, U, U, U, U, U, U, U, U, U, U, U, U, U, U, U, U, U, U, U, U, U, U, U, U, U, U, U, U, U, U, U, U, U, U, U, U, U, U, U, U, U, U, U, U, U, U, U, U]) (fun (i1260 : Nat) (v1261 : (List ApiMotion) × ApiPos × ModalState × CycleCycle) => ⟨[[.d (.int .i64 a1.Table.Work.e0.X), .d (.int .i64 a1.Table.Work.e0.Y), .d (.int .i64 a1.Table.Work.e0.Z), .d (.int .i64 a1.Table.Work.e1.X), .d (.int .i64 a1.Table.Work.e1.Y), .d (.int .i64 a1.Table.Work.e1.Z), .d (.int .i64 a1.Table.Work.e2.X), .d (.int .i64 a1.Table.Work.e2.Y), .d (.int .i64 a1.Table.Work.e2.Z), .d (.int .i64 a1.Table.Work.e3.X), .d (.int .i64 a1.Table.Work.e3.Y), .d (.int .i64 a1.Table.Work.e3.Z), .d (.int .i64 a1.Table.Work.e4.X), .d (.int .i64 a1.Table.Work.e4.Y), .d (.int .i64 a1.Table.Work.e4.Z), .d (.int .i64 a1.Table.Work.e5.X), .d (.int .i64 a1.Table.Work.e5.Y), .d (.int .i64 a1.Table.Work.e5.Z), .d (.list (List.map encR45Length a1.Table.Lengths)), .d (.int .i64 a1.From.X), .d (.int .i64 a1.From.Y), .d (.int .i64 a1.From.Z)], [.d (.int .i64 y110.2.Block), .d (.int .i64 y110.2.Code)], [.d (.int .i64 v1261.2.1.X), .d (.int .i64 v1261.2.1.Y), .d (.int .i64 v1261.2.1.Z)], [.d (.int .i64 v1261.2.2.1.Motion), .d (.int .i64 v1261.2.2.1.Distance), .d (.int .i64 v1261.2.2.1.Work), .d (.int .i64 v1261.2.2.1.Length), .d (.int .i64 v1261.2.2.1.Return), .d (.int .i64 v1261.2.2.1.Feed), .d (.int .i64 v1261.2.2.1.Tool), .d (.int .i64 v1261.2.2.1.Offset)], [.d (.int .i64 v1261.2.2.2.Code), .d (.int .i64 v1261.2.2.2.R), .d (.int .i64 v1261.2.2.2.Z), .d (.int .i64 v1261.2.2.2.Q), .d (.int .i64 v1261.2.2.2.Rate), .d (.int .i64 v1261.2.2.2.Initial), .d (.bool v1261.2.2.2.High)]], [(62, v1261.1.length)]⟩) qg1704 (fun _ _ => rfl) (by simp only [↓reduceIte, reduceCtorEq, nA, nE, nL, and_self, and_true, true_and, SL, encApiBlock, encApiMotion, encR45Length, (nr rfl : ((0 : Nat) : Int) = 0)]) (by simp only [↓reduceIte, reduceCtorEq, nA, nE, nL, and_self, and_true, true_and, SL, encApiBlock, encApiMotion, encR45Length, (nr rfl : ((0 : Nat) : Int) = 0)]) ?_ ?_
     ·intro i1260 e1262 v1261 qr1702
      refine Mir.seqK ?_
      refine Mir.region fun e h => ?_
      simp only [↓reduceIte, reduceCtorEq, nA, nS, nM, nE, nL, nT, nB, iT, iN, iE, and_self, SR, SV, qr1702, encApiBlock, encApiMotion, encR45Length]
      refine Mir.use (e := e) ?_ h
      refine Mir.seqK ?_
      refine Mir.condT rfl ?_
      refine Mir.skip ?_
      refine Mir.toK ?_
      refine Mir.seqK ?_
      refine Mir.join (fun v1306 : (List ApiMotion) × ApiPos × ModalState × CycleCycle => [.d (.list (List.map encApiBlock a0)), U, U, .ptr 0 0, U, .d (.list (List.map encApiMotion y110.1)), .ptr 1 0, .ptr 2 0, .ptr 3 0, .ptr 4 0, .own 0 (List.map encApiMotion v1306.1), U, U, U, U, U, U, U, U, U, U, U, U, U, U, U, U, U, U, U, U, U, U, U, U, U, U, U, U, U, U, U, U, U, U, U, U, U, U, U, U, U, U, U, U, U, U, .d (.list (List.map encApiBlock a0)), .d (.int .i64 (a0.length : Int)), .d (.int .i64 (i1260 : Int)), U, U, U, U, U, U, U, U, U, U, U, U, U, U, U, U, U, U, U, U, U, U, U, U, U, U, U, U, U, U, U, U, U, U, U, U, U, U, U, U, U, U, U, U, U, U, U, U, U, U, U, U, U, U, U, U, U, U, U, U, U, U, U, U, U, U, U, U, U, U, U, U, U, U, U, U, U, U, U, U, U, U, U, U, U, U, U, U, U, U, U]) (fun v1306 : (List ApiMotion) × ApiPos × ModalState × CycleCycle => ⟨[[.d (.int .i64 a1.Table.Work.e0.X), .d (.int .i64 a1.Table.Work.e0.Y), .d (.int .i64 a1.Table.Work.e0.Z), .d (.int .i64 a1.Table.Work.e1.X), .d (.int .i64 a1.Table.Work.e1.Y), .d (.int .i64 a1.Table.Work.e1.Z), .d (.int .i64 a1.Table.Work.e2.X), .d (.int .i64 a1.Table.Work.e2.Y), .d (.int .i64 a1.Table.Work.e2.Z), .d (.int .i64 a1.Table.Work.e3.X), .d (.int .i64 a1.Table.Work.e3.Y), .d (.int .i64 a1.Table.Work.e3.Z), .d (.int .i64 a1.Table.Work.e4.X), .d (.int .i64 a1.Table.Work.e4.Y), .d (.int .i64 a1.Table.Work.e4.Z), .d (.int .i64 a1.Table.Work.e5.X), .d (.int .i64 a1.Table.Work.e5.Y), .d (.int .i64 a1.Table.Work.e5.Z), .d (.list (List.map encR45Length a1.Table.Lengths)), .d (.int .i64 a1.From.X), .d (.int .i64 a1.From.Y), .d (.int .i64 a1.From.Z)], [.d (.int .i64 y110.2.Block), .d (.int .i64 y110.2.Code)], [.d (.int .i64 v1306.2.1.X), .d (.int .i64 v1306.2.1.Y), .d (.int .i64 v1306.2.1.Z)], [.d (.int .i64 v1306.2.2.1.Motion), .d (.int .i64 v1306.2.2.1.Distance), .d (.int .i64 v1306.2.2.1.Work), .d (.int .i64 v1306.2.2.1.Length), .d (.int .i64 v1306.2.2.1.Return), .d (.int .i64 v1306.2.2.1.Feed), .d (.int .i64 v1306.2.2.1.Tool), .d (.int .i64 v1306.2.2.1.Offset)], [.d (.int .i64 v1306.2.2.2.Code), .d (.int .i64 v1306.2.2.2.R), .d (.int .i64 v1306.2.2.2.Z), .d (.int .i64 v1306.2.2.2.Q), .d (.int .i64 v1306.2.2.2.Rate), .d (.int .i64 v1306.2.2.2.Initial), .d (.bool v1306.2.2.2.High)]], [(62, v1306.1.length)]⟩) (fun _ => rfl) ?_ ?_
      ·refine Mir.block ?_
       refine Mir.seqK ?_
       refine Mir.region fun e h => ?_
       simp only [↓reduceIte, reduceCtorEq, nA, nS, nM, nE, nL, nT, nB, iT, iN, iE, and_self, SR, SV, und_43, sz_42, qr1702, Int.toNat_natCast, ag_42, zero_42, encApiBlock, encApiMotion, encR45Length]
       refine Mir.use (e := e) ?_ h
       refine Mir.seqK ?_
       refine Mir.bind fun y1307 hy1771 => ?_
       refine Mir.bind fun y1308 hy1772 => ?_
       refine Mir.regionD [] (by kernel_rfl) fun e h => ?_
       simp only [↓reduceIte, reduceCtorEq, nA, nS, nM, nE, nL, nT, nB, iT, iN, iE, and_self, SR, SV, sepL_nil, sepL_cons, sepV_ne, sepV_d, sepV_i, true_and, Bool.and_self, ag_65, sz_65, ag_68, sz_68, ag_42, sz_42, fld_30_0, sz_28, ag_28, encApiBlock, encApiMotion, encR45Length]
       refine Spec.by (l47_theirs_spec hy1771) (by simp only [↓reduceIte, reduceCtorEq, nA, nE, nL, and_self, and_true, true_and, SL, encApiBlock, encApiMotion, encR45Length]) ?_
       simp only [↓reduceIte, reduceCtorEq, nA, nS, nM, nE, nL, nT, nB, iT, iN, iE, and_self, SR, SV, sepL_nil, sepL_cons, sepV_ne, sepV_d, sepV_i, true_and, Bool.and_self, ag_24, sz_24, encApiBlock, encApiMotion, encR45Length]
       refine Spec.by (inp_Step_spec hy1772) (by simp only [↓reduceIte, reduceCtorEq, nA, nE, nL, and_self, and_true, true_and, SL, encApiBlock, encApiMotion, encR45Length]) ?_
       simp only [↓reduceIte, reduceCtorEq, nA, nS, nM, nE, nL, nT, nB, iT, iN, iE, and_self, SR, SV, sepL_nil, sepL_cons, sepV_ne, sepV_d, sepV_i, true_and, Bool.and_self, zero_65, zero_68, sz_65, sz_68, encApiBlock, encApiMotion, encR45Length]
       refine Mir.use (e := e) ?_ h
       refine Mir.seqK ?_
       refine Mir.seqK ?_
       refine Mir.region fun e h => ?_
       simp only [↓reduceIte, reduceCtorEq, nA, nS, nM, nE, nL, nT, nB, iT, iN, iE, and_self, SR, SV, encApiBlock, encApiMotion, encR45Length]
       refine Mir.use (e := e) ?_ h
       refine Mir.cond rfl (fun hb1776 => ?_) (fun hb1776 => ?_)
       ·refine Mir.seqK ?_
        refine Mir.joinO (fun v1312 : Bool => [U, U, U, U, .d (.bool v1312), U, U, U, U, U, U, U, U, U, U, U, U, U, U, U, U, U, U, U, U, U, U, U, U, U, U, U, U, U, U, U, U, U, U, U, U, U, U, U, U, U, U, U, U, U, U, U, U, U, U, U, U, U, U, U, U, U, U, U, U, U, U, U, U, U, U, U, U, U, U, U, U, U, U, U, U, U, U, U, U, U, U, U, U, U, U, U, U, U, U, U, U, U, U, U, U, U, U, U, U, U, U, U, U, U, U, U, U, U, U, U, U, U, U, U, U, U, U, U, U, U, U, U, U, U, U, U, U, U, U, U, U, U, U, U, U, U, U, U, U, U, U, U, U, U, U]) (fun v1312 : Bool => ⟨[[.d (.int .i64 a1.Table.Work.e0.X), .d (.int .i64 a1.Table.Work.e0.Y), .d (.int .i64 a1.Table.Work.e0.Z), .d (.int .i64 a1.Table.Work.e1.X), .d (.int .i64 a1.Table.Work.e1.Y), .d (.int .i64 a1.Table.Work.e1.Z), .d (.int .i64 a1.Table.Work.e2.X), .d (.int .i64 a1.Table.Work.e2.Y), .d (.int .i64 a1.Table.Work.e2.Z), .d (.int .i64 a1.Table.Work.e3.X), .d (.int .i64 a1.Table.Work.e3.Y), .d (.int .i64 a1.Table.Work.e3.Z), .d (.int .i64 a1.Table.Work.e4.X), .d (.int .i64 a1.Table.Work.e4.Y), .d (.int .i64 a1.Table.Work.e4.Z), .d (.int .i64 a1.Table.Work.e5.X), .d (.int .i64 a1.Table.Work.e5.Y), .d (.int .i64 a1.Table.Work.e5.Z), .d (.list (List.map encR45Length a1.Table.Lengths)), .d (.int .i64 a1.From.X), .d (.int .i64 a1.From.Y), .d (.int .i64 a1.From.Z)], [.d (.int .i64 y110.2.Block), .d (.int .i64 y110.2.Code)], [.d (.int .i64 v1261.2.1.X), .d (.int .i64 v1261.2.1.Y), .d (.int .i64 v1261.2.1.Z)], [.d (.int .i64 v1261.2.2.1.Motion), .d (.int .i64 v1261.2.2.1.Distance), .d (.int .i64 v1261.2.2.1.Work), .d (.int .i64 v1261.2.2.1.Length), .d (.int .i64 v1261.2.2.1.Return), .d (.int .i64 v1261.2.2.1.Feed), .d (.int .i64 v1261.2.2.1.Tool), .d (.int .i64 v1261.2.2.1.Offset)], [.d (.int .i64 v1261.2.2.2.Code), .d (.int .i64 v1261.2.2.2.R), .d (.int .i64 v1261.2.2.2.Z), .d (.int .i64 v1261.2.2.2.Q), .d (.int .i64 v1261.2.2.2.Rate), .d (.int .i64 v1261.2.2.2.Initial), .d (.bool v1261.2.2.2.High)], [.d (.bool e1262.Skip), .d (.list (List.map encApiWord e1262.Words)), .d (.str e1262.Comment)], [.d (.int .i64 y1308.2.1.Motion), .d (.int .i64 y1308.2.1.Distance), .d (.int .i64 y1308.2.1.Work), .d (.int .i64 y1308.2.1.Length), .d (.int .i64 y1308.2.1.Return), .d (.int .i64 y1308.2.1.Feed), .d (.int .i64 y1308.2.1.Tool), .d (.int .i64 y1308.2.1.Offset)], [.d (.int .i64 y1308.2.2.1.Code), .d (.int .i64 y1308.2.2.1.R), .d (.int .i64 y1308.2.2.1.Z), .d (.int .i64 y1308.2.2.1.Q), .d (.int .i64 y1308.2.2.1.Rate), .d (.int .i64 y1308.2.2.1.Initial), .d (.bool y1308.2.2.1.High)]], [(62, v1261.1.length)]⟩) (fun _ => rfl) ?_ ?_
        ·refine Mir.ite (fun hb1777 => ?_) (fun hb1777 => ?_)
         ·refine Mir.bind fun y1311 hy1778 => ?_
          refine Mir.region fun e h => ?_
          simp only [↓reduceIte, reduceCtorEq, nA, nS, nM, nE, nL, nT, nB, iT, iN, iE, and_self, SR, SV, ag_49, sz_49, zero_49, pl_49, gE_49, encApiBlock, encApiMotion, encR45Length, hb1777]
          refine SpecS.by (r47_Same_spec hy1778) (by simp only [↓reduceIte, reduceCtorEq, nA, nE, nL, and_self, and_true, true_and, SL, encApiBlock, encApiMotion, encR45Length, hb1777]) ?_
          simp only [↓reduceIte, reduceCtorEq, nA, nS, nM, nE, nL, nT, nB, iT, iN, iE, and_self, SR, SV, encApiBlock, encApiMotion, encR45Length, hb1777]
          cases h
          simp only [↓reduceIte, reduceCtorEq, nA, nE, nL, and_self, and_true, true_and, SL, encApiBlock, encApiMotion, encR45Length, hb1777]
         ·refine Mir.region fun e h => ?_
          simp only [↓reduceIte, reduceCtorEq, nA, nS, nM, nE, nL, nT, nB, iT, iN, iE, and_self, SR, SV, ag_49, sz_49, zero_49, pl_49, gE_49, encApiBlock, encApiMotion, encR45Length, hb1777]
          cases h
          simp only [↓reduceIte, reduceCtorEq, nA, nE, nL, and_self, and_true, true_and, SL, encApiBlock, encApiMotion, encR45Length, hb1777]
        ·intro v1312
         refine Mir.toK ?_
         refine Mir.ret fun e h => ?_
         cases h
         simp only [↓reduceIte, reduceCtorEq, nA, nE, nL, and_self, and_true, true_and, SL, encApiBlock, encApiMotion, encR45Length, Tryd.results5]
       ·refine Mir.skip ?_
        refine Mir.toK ?_
        refine Mir.seqK ?_
        refine Mir.seqK ?_
        refine Mir.region fun e h => ?_
        simp only [↓reduceIte, reduceCtorEq, nA, nS, nM, nE, nL, nT, nB, iT, iN, iE, and_self, SR, SV, und_47, encApiBlock, encApiMotion, encR45Length]
        refine Mir.use (e := e) ?_ h
        refine Mir.cond rfl (fun hb1782 => ?_) (fun hb1782 => ?_)
        ·refine Mir.seqK ?_
         refine Mir.joinO (fun v1316 : Bool => [U, U, U, U, .d (.bool v1316), U, U, U, U, U, U, U, U, U, U, U, U, U, U, U, U, U, U, U, U, U, U, U, U, U, U, U, U, U, U, U, U, U, U, U, U, U, U, U, U, U, U, U, U, U, U, U, U, U, U, U, U, U, U, U, U, U, U, U, U, U, U, U, U, U, U, U, U, U, U, U, U, U, U, U, U, U, U, U, U, U, U, U, U, U, U, U, U, U, U, U, U, U, U, U, U, U, U, U, U, U, U, U, U, U, U, U, U, U, U, U, U, U, U, U, U, U, U, U, U, U, U, U, U, U, U, U, U, U, U, U, U, U, U, U, U, U, U, U, U, U, U, U, U, U, U]) (fun v1316 : Bool => ⟨[[.d (.int .i64 a1.Table.Work.e0.X), .d (.int .i64 a1.Table.Work.e0.Y), .d (.int .i64 a1.Table.Work.e0.Z), .d (.int .i64 a1.Table.Work.e1.X), .d (.int .i64 a1.Table.Work.e1.Y), .d (.int .i64 a1.Table.Work.e1.Z), .d (.int .i64 a1.Table.Work.e2.X), .d (.int .i64 a1.Table.Work.e2.Y), .d (.int .i64 a1.Table.Work.e2.Z), .d (.int .i64 a1.Table.Work.e3.X), .d (.int .i64 a1.Table.Work.e3.Y), .d (.int .i64 a1.Table.Work.e3.Z), .d (.int .i64 a1.Table.Work.e4.X), .d (.int .i64 a1.Table.Work.e4.Y), .d (.int .i64 a1.Table.Work.e4.Z), .d (.int .i64 a1.Table.Work.e5.X), .d (.int .i64 a1.Table.Work.e5.Y), .d (.int .i64 a1.Table.Work.e5.Z), .d (.list (List.map encR45Length a1.Table.Lengths)), .d (.int .i64 a1.From.X), .d (.int .i64 a1.From.Y), .d (.int .i64 a1.From.Z)], [.d (.int .i64 y110.2.Block), .d (.int .i64 y110.2.Code)], [.d (.int .i64 v1261.2.1.X), .d (.int .i64 v1261.2.1.Y), .d (.int .i64 v1261.2.1.Z)], [.d (.int .i64 v1261.2.2.1.Motion), .d (.int .i64 v1261.2.2.1.Distance), .d (.int .i64 v1261.2.2.1.Work), .d (.int .i64 v1261.2.2.1.Length), .d (.int .i64 v1261.2.2.1.Return), .d (.int .i64 v1261.2.2.1.Feed), .d (.int .i64 v1261.2.2.1.Tool), .d (.int .i64 v1261.2.2.1.Offset)], [.d (.int .i64 v1261.2.2.2.Code), .d (.int .i64 v1261.2.2.2.R), .d (.int .i64 v1261.2.2.2.Z), .d (.int .i64 v1261.2.2.2.Q), .d (.int .i64 v1261.2.2.2.Rate), .d (.int .i64 v1261.2.2.2.Initial), .d (.bool v1261.2.2.2.High)], [.d (.bool e1262.Skip), .d (.list (List.map encApiWord e1262.Words)), .d (.str e1262.Comment)], [.d (.int .i64 y1308.2.1.Motion), .d (.int .i64 y1308.2.1.Distance), .d (.int .i64 y1308.2.1.Work), .d (.int .i64 y1308.2.1.Length), .d (.int .i64 y1308.2.1.Return), .d (.int .i64 y1308.2.1.Feed), .d (.int .i64 y1308.2.1.Tool), .d (.int .i64 y1308.2.1.Offset)], [.d (.int .i64 y1308.2.2.1.Code), .d (.int .i64 y1308.2.2.1.R), .d (.int .i64 y1308.2.2.1.Z), .d (.int .i64 y1308.2.2.1.Q), .d (.int .i64 y1308.2.2.1.Rate), .d (.int .i64 y1308.2.2.1.Initial), .d (.bool y1308.2.2.1.High)]], [(62, v1261.1.length)]⟩) (fun _ => rfl) ?_ ?_
         ·refine Mir.ite (fun hb1783 => ?_) (fun hb1783 => ?_)
          ·refine Mir.bind fun y1315 hy1784 => ?_
           refine Mir.region fun e h => ?_
           simp only [↓reduceIte, reduceCtorEq, nA, nS, nM, nE, nL, nT, nB, iT, iN, iE, and_self, SR, SV, ag_49, sz_49, zero_49, pl_49, gE_49, encApiBlock, encApiMotion, encR45Length, hb1783]
           refine SpecS.by (r47_Same_spec hy1784) (by simp only [↓reduceIte, reduceCtorEq, nA, nE, nL, and_self, and_true, true_and, SL, encApiBlock, encApiMotion, encR45Length, hb1783]) ?_
           simp only [↓reduceIte, reduceCtorEq, nA, nS, nM, nE, nL, nT, nB, iT, iN, iE, and_self, SR, SV, encApiBlock, encApiMotion, encR45Length, hb1783]
           cases h
           simp only [↓reduceIte, reduceCtorEq, nA, nE, nL, and_self, and_true, true_and, SL, encApiBlock, encApiMotion, encR45Length, hb1783]
          ·refine Mir.region fun e h => ?_
           simp only [↓reduceIte, reduceCtorEq, nA, nS, nM, nE, nL, nT, nB, iT, iN, iE, and_self, SR, SV, ag_49, sz_49, zero_49, pl_49, gE_49, encApiBlock, encApiMotion, encR45Length, hb1783]
           cases h
           simp only [↓reduceIte, reduceCtorEq, nA, nE, nL, and_self, and_true, true_and, SL, encApiBlock, encApiMotion, encR45Length, hb1783]
         ·intro v1316
          refine Mir.toK ?_
          refine Mir.ret fun e h => ?_
          cases h
          simp only [↓reduceIte, reduceCtorEq, nA, nE, nL, and_self, and_true, true_and, SL, encApiBlock, encApiMotion, encR45Length, Tryd.results5]
        ·refine Mir.skip ?_
         refine Mir.toK ?_
         refine Mir.seqK ?_
         refine Mir.seqK ?_
         refine Mir.region fun e h => ?_
         simp only [↓reduceIte, reduceCtorEq, nA, nS, nM, nE, nL, nT, nB, iT, iN, iE, and_self, SR, SV, und_47, encApiBlock, encApiMotion, encR45Length]
         refine Mir.use (e := e) ?_ h
         refine Mir.joinO (fun v1331 : (List ApiMotion) => [.d (.list (List.map encApiBlock a0)), U, U, .ptr 0 0, U, .d (.list (List.map encApiMotion y110.1)), .ptr 1 0, .ptr 2 0, .ptr 3 0, .ptr 4 0, .own 0 (List.map encApiMotion v1331), U, .ptr 5 0, .d (.list (List.map encApiMotion y1308.1)), .ptr 6 0, .ptr 7 0, U, U, U, U, U, U, U, U, U, U, U, U, U, U, U, U, U, U, U, U, U, U, U, U, U, U, U, U, U, U, U, U, U, U, U, U, U, U, U, U, U, .d (.list (List.map encApiBlock a0)), .d (.int .i64 (a0.length : Int)), .d (.int .i64 (i1260 : Int)), U, U, U, U, U, U, U, U, U, U, U, U, U, U, U, U, U, U, U, U, U, U, U, U, U, U, U, U, U, U, U, U, U, U, U, U, U, U, U, U, U, U, U, U, U, U, U, U, U, U, U, U, U, U, U, U, U, U, U, U, U, U, U, U, U, U, U, U, U, U, U, U, U, U, U, U, U, U, U, U, U, U, U, U, U, U, U, U, U, U, U]) (fun v1331 : (List ApiMotion) => ⟨[[.d (.int .i64 a1.Table.Work.e0.X), .d (.int .i64 a1.Table.Work.e0.Y), .d (.int .i64 a1.Table.Work.e0.Z), .d (.int .i64 a1.Table.Work.e1.X), .d (.int .i64 a1.Table.Work.e1.Y), .d (.int .i64 a1.Table.Work.e1.Z), .d (.int .i64 a1.Table.Work.e2.X), .d (.int .i64 a1.Table.Work.e2.Y), .d (.int .i64 a1.Table.Work.e2.Z), .d (.int .i64 a1.Table.Work.e3.X), .d (.int .i64 a1.Table.Work.e3.Y), .d (.int .i64 a1.Table.Work.e3.Z), .d (.int .i64 a1.Table.Work.e4.X), .d (.int .i64 a1.Table.Work.e4.Y), .d (.int .i64 a1.Table.Work.e4.Z), .d (.int .i64 a1.Table.Work.e5.X), .d (.int .i64 a1.Table.Work.e5.Y), .d (.int .i64 a1.Table.Work.e5.Z), .d (.list (List.map encR45Length a1.Table.Lengths)), .d (.int .i64 a1.From.X), .d (.int .i64 a1.From.Y), .d (.int .i64 a1.From.Z)], [.d (.int .i64 y110.2.Block), .d (.int .i64 y110.2.Code)], [.d (.int .i64 v1261.2.1.X), .d (.int .i64 v1261.2.1.Y), .d (.int .i64 v1261.2.1.Z)], [.d (.int .i64 v1261.2.2.1.Motion), .d (.int .i64 v1261.2.2.1.Distance), .d (.int .i64 v1261.2.2.1.Work), .d (.int .i64 v1261.2.2.1.Length), .d (.int .i64 v1261.2.2.1.Return), .d (.int .i64 v1261.2.2.1.Feed), .d (.int .i64 v1261.2.2.1.Tool), .d (.int .i64 v1261.2.2.1.Offset)], [.d (.int .i64 v1261.2.2.2.Code), .d (.int .i64 v1261.2.2.2.R), .d (.int .i64 v1261.2.2.2.Z), .d (.int .i64 v1261.2.2.2.Q), .d (.int .i64 v1261.2.2.2.Rate), .d (.int .i64 v1261.2.2.2.Initial), .d (.bool v1261.2.2.2.High)], [.d (.bool e1262.Skip), .d (.list (List.map encApiWord e1262.Words)), .d (.str e1262.Comment)], [.d (.int .i64 y1308.2.1.Motion), .d (.int .i64 y1308.2.1.Distance), .d (.int .i64 y1308.2.1.Work), .d (.int .i64 y1308.2.1.Length), .d (.int .i64 y1308.2.1.Return), .d (.int .i64 y1308.2.1.Feed), .d (.int .i64 y1308.2.1.Tool), .d (.int .i64 y1308.2.1.Offset)], [.d (.int .i64 y1308.2.2.1.Code), .d (.int .i64 y1308.2.2.1.R), .d (.int .i64 y1308.2.2.1.Z), .d (.int .i64 y1308.2.2.1.Q), .d (.int .i64 y1308.2.2.1.Rate), .d (.int .i64 y1308.2.2.1.Initial), .d (.bool y1308.2.2.1.High)]], [(62, v1331.length)]⟩) (fun _ => rfl) ?_ ?_
         ·refine Mir.block ?_
          refine Mir.guard fun qg1828 => ?_
          refine Mir.range (fun (i1343 : Nat) (v1344 : (List ApiMotion)) => [.d (.list (List.map encApiBlock a0)), U, U, .ptr 0 0, U, .d (.list (List.map encApiMotion y110.1)), .ptr 1 0, .ptr 2 0, .ptr 3 0, .ptr 4 0, .own 0 (List.map encApiMotion v1344), .d (.int .i64 (i1260 : Int)), .ptr 5 0, .d (.list (List.map encApiMotion y1308.1)), .ptr 6 0, .ptr 7 0, U, U, U, U, U, U, U, U, U, U, U, U, U, U, U, U, U, U, U, U, U, U, U, U, U, U, U, U, U, U, U, U, U, U, U, U, U, U, U, U, U, .d (.list (List.map encApiBlock a0)), .d (.int .i64 (a0.length : Int)), .d (.int .i64 (i1260 : Int)), U, U, U, U, U, U, U, U, U, U, U, U, U, U, U, U, U, U, U, U, U, U, U, U, U, U, U, U, U, U, U, U, U, U, U, U, U, U, U, U, U, U, U, U, .d (.list (List.map encApiMotion y1308.1)), .d (.int .i64 (y1308.1.length : Int)), .d (.int .i64 (i1343 : Int)), U, U, U, U, U, U, U, U, U, U, U, U, U, U, U, U, U, U, U, U, U, U, U, U, U, U, U, U, U, U, U, U, U, U, U, U, U, U, U, U, U, U, U, U]) (fun (i1343 : Nat) (v1344 : (List ApiMotion)) => ⟨[[.d (.int .i64 a1.Table.Work.e0.X), .d (.int .i64 a1.Table.Work.e0.Y), .d (.int .i64 a1.Table.Work.e0.Z), .d (.int .i64 a1.Table.Work.e1.X), .d (.int .i64 a1.Table.Work.e1.Y), .d (.int .i64 a1.Table.Work.e1.Z), .d (.int .i64 a1.Table.Work.e2.X), .d (.int .i64 a1.Table.Work.e2.Y), .d (.int .i64 a1.Table.Work.e2.Z), .d (.int .i64 a1.Table.Work.e3.X), .d (.int .i64 a1.Table.Work.e3.Y), .d (.int .i64 a1.Table.Work.e3.Z), .d (.int .i64 a1.Table.Work.e4.X), .d (.int .i64 a1.Table.Work.e4.Y), .d (.int .i64 a1.Table.Work.e4.Z), .d (.int .i64 a1.Table.Work.e5.X), .d (.int .i64 a1.Table.Work.e5.Y), .d (.int .i64 a1.Table.Work.e5.Z), .d (.list (List.map encR45Length a1.Table.Lengths)), .d (.int .i64 a1.From.X), .d (.int .i64 a1.From.Y), .d (.int .i64 a1.From.Z)], [.d (.int .i64 y110.2.Block), .d (.int .i64 y110.2.Code)], [.d (.int .i64 v1261.2.1.X), .d (.int .i64 v1261.2.1.Y), .d (.int .i64 v1261.2.1.Z)], [.d (.int .i64 v1261.2.2.1.Motion), .d (.int .i64 v1261.2.2.1.Distance), .d (.int .i64 v1261.2.2.1.Work), .d (.int .i64 v1261.2.2.1.Length), .d (.int .i64 v1261.2.2.1.Return), .d (.int .i64 v1261.2.2.1.Feed), .d (.int .i64 v1261.2.2.1.Tool), .d (.int .i64 v1261.2.2.1.Offset)], [.d (.int .i64 v1261.2.2.2.Code), .d (.int .i64 v1261.2.2.2.R), .d (.int .i64 v1261.2.2.2.Z), .d (.int .i64 v1261.2.2.2.Q), .d (.int .i64 v1261.2.2.2.Rate), .d (.int .i64 v1261.2.2.2.Initial), .d (.bool v1261.2.2.2.High)], [.d (.bool e1262.Skip), .d (.list (List.map encApiWord e1262.Words)), .d (.str e1262.Comment)], [.d (.int .i64 y1308.2.1.Motion), .d (.int .i64 y1308.2.1.Distance), .d (.int .i64 y1308.2.1.Work), .d (.int .i64 y1308.2.1.Length), .d (.int .i64 y1308.2.1.Return), .d (.int .i64 y1308.2.1.Feed), .d (.int .i64 y1308.2.1.Tool), .d (.int .i64 y1308.2.1.Offset)], [.d (.int .i64 y1308.2.2.1.Code), .d (.int .i64 y1308.2.2.1.R), .d (.int .i64 y1308.2.2.1.Z), .d (.int .i64 y1308.2.2.1.Q), .d (.int .i64 y1308.2.2.1.Rate), .d (.int .i64 y1308.2.2.1.Initial), .d (.bool y1308.2.2.1.High)]], [(62, v1344.length)]⟩) qg1828 (fun _ _ => rfl) (by simp only [↓reduceIte, reduceCtorEq, nA, nE, nL, and_self, and_true, true_and, SL, encApiBlock, encApiMotion, encR45Length, (nr rfl : ((0 : Nat) : Int) = 0)]) (by simp only [↓reduceIte, reduceCtorEq, nA, nE, nL, and_self, and_true, true_and, SL, encApiBlock, encApiMotion, encR45Length, (nr rfl : ((0 : Nat) : Int) = 0)]) ?_ ?_
          ·intro i1343 e1345 v1344 qr1826
           refine Mir.seqK ?_
           refine Mir.region fun e h => ?_
           simp only [↓reduceIte, reduceCtorEq, nA, nS, nM, nE, nL, nT, nB, iT, iN, iE, and_self, SR, SV, qr1826, encApiBlock, encApiMotion, encR45Length]
           refine Mir.use (e := e) ?_ h
           refine Mir.seqK ?_
           refine Mir.condT rfl ?_
           refine Mir.skip ?_
           refine Mir.toK ?_
           refine Mir.seqK ?_
           refine Mir.block ?_
           refine Mir.seqK ?_
           refine Mir.region fun e h => ?_
           simp only [↓reduceIte, reduceCtorEq, nA, nS, nM, nE, nL, nT, nB, iT, iN, iE, and_self, SR, SV, und_47, sz_62, qr1826, Int.toNat_natCast, ag_62, zero_62, encApiBlock, encApiMotion, encR45Length]
           refine Mir.use (e := e) ?_ h
           refine Mir.seqK ?_
           refine Mir.region fun e h => ?_
           simp only [↓reduceIte, reduceCtorEq, nA, nS, nM, nE, nL, nT, nB, iT, iN, iE, and_self, SR, SV, fld_62_4, sz_3, encApiBlock, encApiMotion, encR45Length]
           refine Mir.use (e := e) ?_ h
           refine Mir.guard fun q1830 => ?_
           refine Mir.region fun e h => ?_
           simp only [↓reduceIte, reduceCtorEq, nA, nS, nM, nE, nL, nT, nB, iT, iN, iE, and_self, SR, SV, ag_62, sz_62, und_47, zero_62, (nr rfl : okLen 9 = true), app_47, al_ApiMotion, q1830, encApiBlock, encApiMotion, encR45Length]
           refine Mir.use (e := e) ?_ h
           refine Mir.region fun e h => ?_
           simp only [↓reduceIte, reduceCtorEq, nA, nS, nM, nE, nL, nT, nB, iT, iN, iE, and_self, SR, SV, encApiBlock, encApiMotion, encR45Length]
           cases h
           simp only [↓reduceIte, reduceCtorEq, nA, nE, nL, and_self, and_true, true_and, SL, encApiBlock, encApiMotion, encR45Length, Tryd.results5, qr1826]
          ·intro v1344 qd1827
           refine Mir.seqK ?_
           refine Mir.region fun e h => ?_
           simp only [↓reduceIte, reduceCtorEq, nA, nS, nM, nE, nL, nT, nB, iT, iN, iE, and_self, SR, SV, qd1827, encApiBlock, encApiMotion, encR45Length]
           refine Mir.use (e := e) ?_ h
           refine Mir.seqK ?_
           refine Mir.condF rfl ?_
           refine Mir.exit fun e h => ?_
           cases h
           simp only [↓reduceIte, reduceCtorEq, nA, nE, nL, and_self, and_true, true_and, SL, encApiBlock, encApiMotion, encR45Length, Tryd.results5]
         ·intro v1331
          refine Mir.toK ?_
          refine Mir.seqK ?_
          refine Mir.bind fun y1346 hy1831 => ?_
          refine Mir.regionD [(14, 7), (15, 7), (15, 8)] (by kernel_rfl) fun e h => ?_
          simp only [↓reduceIte, reduceCtorEq, nA, nS, nM, nE, nL, nT, nB, iT, iN, iE, and_self, SR, SV, sepL_nil, sepL_cons, sepV_ne, sepV_d, sepV_i, true_and, Bool.and_self, ag_24, sz_24, encApiBlock, encApiMotion, encR45Length]
          refine Spec.by (inp_End_spec hy1831) (by simp only [↓reduceIte, reduceCtorEq, nA, nE, nL, and_self, and_true, true_and, SL, encApiBlock, encApiMotion, encR45Length]) ?_
          simp only [↓reduceIte, reduceCtorEq, nA, nS, nM, nE, nL, nT, nB, iT, iN, iE, and_self, SR, SV, sepL_nil, sepL_cons, sepV_ne, sepV_d, sepV_i, true_and, Bool.and_self, ag_65, sz_65, ag_68, sz_68, sz_24, encApiBlock, encApiMotion, encR45Length]
          refine Mir.use (e := e) ?_ h
          refine Mir.seqK ?_
          refine Mir.bind fun y1347 hy1832 => ?_
          refine Mir.region fun e h => ?_
          simp only [↓reduceIte, reduceCtorEq, nA, nS, nM, nE, nL, nT, nB, iT, iN, iE, and_self, SR, SV, ag_42, sz_42, encApiBlock, encApiMotion, encR45Length]
          refine SpecS.by (r41_Find_spec hy1832) (by simp only [↓reduceIte, reduceCtorEq, nA, nE, nL, and_self, and_true, true_and, SL, encApiBlock, encApiMotion, encR45Length]) ?_
          simp only [↓reduceIte, reduceCtorEq, nA, nS, nM, nE, nL, nT, nB, iT, iN, iE, and_self, SR, SV, encApiBlock, encApiMotion, encR45Length]
          refine Mir.use (e := e) ?_ h
          refine Mir.seqK ?_
          refine Mir.joinV [.d (.list (List.map encApiBlock a0)), U, U, .ptr 0 0, U, .d (.list (List.map encApiMotion y110.1)), .ptr 1 0, .ptr 2 0, .ptr 3 0, .ptr 4 0, .own 0 (List.map encApiMotion v1331), U, U, U, U, U, U, U, U, U, U, U, U, U, U, U, U, U, U, U, U, U, U, U, U, U, U, U, U, U, U, U, U, U, U, U, U, U, U, U, U, U, U, U, U, U, U, .d (.list (List.map encApiBlock a0)), .d (.int .i64 (a0.length : Int)), .d (.int .i64 (i1260 : Int)), U, U, U, U, U, U, U, U, U, U, U, U, U, U, U, U, U, U, U, U, U, U, U, U, U, U, U, U, U, U, U, U, U, U, U, U, U, U, U, U, U, U, U, U, U, U, U, U, U, U, U, U, U, U, U, U, U, U, U, U, U, U, U, U, U, U, U, U, U, U, U, .d (.bool (y1347.2 && (y1347.1 == 30000))), U, U, U, U, U, U, U, U, U, U, U, U, U, U, U, U, U, U, U] ⟨[[.d (.int .i64 a1.Table.Work.e0.X), .d (.int .i64 a1.Table.Work.e0.Y), .d (.int .i64 a1.Table.Work.e0.Z), .d (.int .i64 a1.Table.Work.e1.X), .d (.int .i64 a1.Table.Work.e1.Y), .d (.int .i64 a1.Table.Work.e1.Z), .d (.int .i64 a1.Table.Work.e2.X), .d (.int .i64 a1.Table.Work.e2.Y), .d (.int .i64 a1.Table.Work.e2.Z), .d (.int .i64 a1.Table.Work.e3.X), .d (.int .i64 a1.Table.Work.e3.Y), .d (.int .i64 a1.Table.Work.e3.Z), .d (.int .i64 a1.Table.Work.e4.X), .d (.int .i64 a1.Table.Work.e4.Y), .d (.int .i64 a1.Table.Work.e4.Z), .d (.int .i64 a1.Table.Work.e5.X), .d (.int .i64 a1.Table.Work.e5.Y), .d (.int .i64 a1.Table.Work.e5.Z), .d (.list (List.map encR45Length a1.Table.Lengths)), .d (.int .i64 a1.From.X), .d (.int .i64 a1.From.Y), .d (.int .i64 a1.From.Z)], [.d (.int .i64 y110.2.Block), .d (.int .i64 y110.2.Code)], [.d (.int .i64 y1346.X), .d (.int .i64 y1346.Y), .d (.int .i64 y1346.Z)], [.d (.int .i64 y1308.2.1.Motion), .d (.int .i64 y1308.2.1.Distance), .d (.int .i64 y1308.2.1.Work), .d (.int .i64 y1308.2.1.Length), .d (.int .i64 y1308.2.1.Return), .d (.int .i64 y1308.2.1.Feed), .d (.int .i64 y1308.2.1.Tool), .d (.int .i64 y1308.2.1.Offset)], [.d (.int .i64 y1308.2.2.1.Code), .d (.int .i64 y1308.2.2.1.R), .d (.int .i64 y1308.2.2.1.Z), .d (.int .i64 y1308.2.2.1.Q), .d (.int .i64 y1308.2.2.1.Rate), .d (.int .i64 y1308.2.2.1.Initial), .d (.bool y1308.2.2.1.High)], [.d (.bool e1262.Skip), .d (.list (List.map encApiWord e1262.Words)), .d (.str e1262.Comment)], [.d (.int .i64 y1308.2.1.Motion), .d (.int .i64 y1308.2.1.Distance), .d (.int .i64 y1308.2.1.Work), .d (.int .i64 y1308.2.1.Length), .d (.int .i64 y1308.2.1.Return), .d (.int .i64 y1308.2.1.Feed), .d (.int .i64 y1308.2.1.Tool), .d (.int .i64 y1308.2.1.Offset)], [.d (.int .i64 y1308.2.2.1.Code), .d (.int .i64 y1308.2.2.1.R), .d (.int .i64 y1308.2.2.1.Z), .d (.int .i64 y1308.2.2.1.Q), .d (.int .i64 y1308.2.2.1.Rate), .d (.int .i64 y1308.2.2.1.Initial), .d (.bool y1308.2.2.1.High)]], [(62, v1331.length)]⟩ rfl ?_ ?_
          ·refine SWs.region ?_
           rcases Bool.eq_false_or_eq_true (y1347.2) with hb1833 | hb1833
           ·simp only [↓reduceIte, reduceCtorEq, nA, nS, nM, nE, nL, nT, nB, iT, iN, iE, and_self, SR, SV, SL, Bool.true_and, Bool.false_and, Bool.true_or, Bool.false_or, Bool.or_true, Bool.or_false, Bool.and_true, Bool.and_false, Bool.not_true, Bool.not_false, hb1833, encApiBlock, encApiMotion, encR45Length]
           ·simp only [↓reduceIte, reduceCtorEq, nA, nS, nM, nE, nL, nT, nB, iT, iN, iE, and_self, SR, SV, SL, Bool.true_and, Bool.false_and, Bool.true_or, Bool.false_or, Bool.or_true, Bool.or_false, Bool.and_true, Bool.and_false, Bool.not_true, Bool.not_false, hb1833, encApiBlock, encApiMotion, encR45Length]
          ·refine Mir.toK ?_
           refine Mir.cond rfl (fun hb1834 => ?_) (fun hb1834 => ?_)
           ·refine Mir.seqK ?_
            refine Mir.joinO (fun v1349 : Bool => [U, U, U, U, .d (.bool v1349), U, U, U, U, U, U, U, U, U, U, U, U, U, U, U, U, U, U, U, U, U, U, U, U, U, U, U, U, U, U, U, U, U, U, U, U, U, U, U, U, U, U, U, U, U, U, U, U, U, U, U, U, U, U, U, U, U, U, U, U, U, U, U, U, U, U, U, U, U, U, U, U, U, U, U, U, U, U, U, U, U, U, U, U, U, U, U, U, U, U, U, U, U, U, U, U, U, U, U, U, U, U, U, U, U, U, U, U, U, U, U, U, U, U, U, U, U, U, U, U, U, U, U, U, U, U, U, U, U, U, U, U, U, U, U, U, U, U, U, U, U, U, U, U, U, U]) (fun v1349 : Bool => ⟨[[.d (.int .i64 a1.Table.Work.e0.X), .d (.int .i64 a1.Table.Work.e0.Y), .d (.int .i64 a1.Table.Work.e0.Z), .d (.int .i64 a1.Table.Work.e1.X), .d (.int .i64 a1.Table.Work.e1.Y), .d (.int .i64 a1.Table.Work.e1.Z), .d (.int .i64 a1.Table.Work.e2.X), .d (.int .i64 a1.Table.Work.e2.Y), .d (.int .i64 a1.Table.Work.e2.Z), .d (.int .i64 a1.Table.Work.e3.X), .d (.int .i64 a1.Table.Work.e3.Y), .d (.int .i64 a1.Table.Work.e3.Z), .d (.int .i64 a1.Table.Work.e4.X), .d (.int .i64 a1.Table.Work.e4.Y), .d (.int .i64 a1.Table.Work.e4.Z), .d (.int .i64 a1.Table.Work.e5.X), .d (.int .i64 a1.Table.Work.e5.Y), .d (.int .i64 a1.Table.Work.e5.Z), .d (.list (List.map encR45Length a1.Table.Lengths)), .d (.int .i64 a1.From.X), .d (.int .i64 a1.From.Y), .d (.int .i64 a1.From.Z)], [.d (.int .i64 y110.2.Block), .d (.int .i64 y110.2.Code)], [.d (.int .i64 y1346.X), .d (.int .i64 y1346.Y), .d (.int .i64 y1346.Z)], [.d (.int .i64 y1308.2.1.Motion), .d (.int .i64 y1308.2.1.Distance), .d (.int .i64 y1308.2.1.Work), .d (.int .i64 y1308.2.1.Length), .d (.int .i64 y1308.2.1.Return), .d (.int .i64 y1308.2.1.Feed), .d (.int .i64 y1308.2.1.Tool), .d (.int .i64 y1308.2.1.Offset)], [.d (.int .i64 y1308.2.2.1.Code), .d (.int .i64 y1308.2.2.1.R), .d (.int .i64 y1308.2.2.1.Z), .d (.int .i64 y1308.2.2.1.Q), .d (.int .i64 y1308.2.2.1.Rate), .d (.int .i64 y1308.2.2.1.Initial), .d (.bool y1308.2.2.1.High)], [.d (.bool e1262.Skip), .d (.list (List.map encApiWord e1262.Words)), .d (.str e1262.Comment)], [.d (.int .i64 y1308.2.1.Motion), .d (.int .i64 y1308.2.1.Distance), .d (.int .i64 y1308.2.1.Work), .d (.int .i64 y1308.2.1.Length), .d (.int .i64 y1308.2.1.Return), .d (.int .i64 y1308.2.1.Feed), .d (.int .i64 y1308.2.1.Tool), .d (.int .i64 y1308.2.1.Offset)], [.d (.int .i64 y1308.2.2.1.Code), .d (.int .i64 y1308.2.2.1.R), .d (.int .i64 y1308.2.2.1.Z), .d (.int .i64 y1308.2.2.1.Q), .d (.int .i64 y1308.2.2.1.Rate), .d (.int .i64 y1308.2.2.1.Initial), .d (.bool y1308.2.2.1.High)]], [(62, v1331.length)]⟩) (fun _ => rfl) ?_ ?_
            ·refine Mir.ite (fun hb1835 => ?_) (fun hb1835 => ?_)
             ·refine Mir.bind fun y1348 hy1836 => ?_
              refine Mir.region fun e h => ?_
              simp only [↓reduceIte, reduceCtorEq, nA, nS, nM, nE, nL, nT, nB, iT, iN, iE, and_self, SR, SV, ag_49, sz_49, zero_49, pl_49, gE_49, encApiBlock, encApiMotion, encR45Length, hb1835]
              refine SpecS.by (r47_Same_spec hy1836) (by simp only [↓reduceIte, reduceCtorEq, nA, nE, nL, and_self, and_true, true_and, SL, encApiBlock, encApiMotion, encR45Length, hb1835]) ?_
              simp only [↓reduceIte, reduceCtorEq, nA, nS, nM, nE, nL, nT, nB, iT, iN, iE, and_self, SR, SV, encApiBlock, encApiMotion, encR45Length, hb1835]
              cases h
              simp only [↓reduceIte, reduceCtorEq, nA, nE, nL, and_self, and_true, true_and, SL, encApiBlock, encApiMotion, encR45Length, hb1835]
             ·refine Mir.region fun e h => ?_
              simp only [↓reduceIte, reduceCtorEq, nA, nS, nM, nE, nL, nT, nB, iT, iN, iE, and_self, SR, SV, ag_49, sz_49, zero_49, pl_49, gE_49, encApiBlock, encApiMotion, encR45Length, hb1835]
              cases h
              simp only [↓reduceIte, reduceCtorEq, nA, nE, nL, and_self, and_true, true_and, SL, encApiBlock, encApiMotion, encR45Length, hb1835]
            ·intro v1349
             refine Mir.toK ?_
             refine Mir.ret fun e h => ?_
             cases h
             simp only [↓reduceIte, reduceCtorEq, nA, nE, nL, and_self, and_true, true_and, SL, encApiBlock, encApiMotion, encR45Length, Tryd.results5]
           ·refine Mir.skip fun e h => ?_
            cases h
            simp only [↓reduceIte, reduceCtorEq, nA, nE, nL, and_self, and_true, true_and, SL, encApiBlock, encApiMotion, encR45Length, Tryd.results5]
      ·intro v1306
       refine Mir.toK ?_
       refine Mir.region fun e h => ?_
       simp only [↓reduceIte, reduceCtorEq, nA, nS, nM, nE, nL, nT, nB, iT, iN, iE, and_self, SR, SV, encApiBlock, encApiMotion, encR45Length]
       cases h
       simp only [↓reduceIte, reduceCtorEq, nA, nE, nL, and_self, and_true, true_and, SL, encApiBlock, encApiMotion, encR45Length, Tryd.results5, qr1702]
     ·intro v1261 qd1703
      refine Mir.seqK ?_
      refine Mir.region fun e h => ?_
      simp only [↓reduceIte, reduceCtorEq, nA, nS, nM, nE, nL, nT, nB, iT, iN, iE, and_self, SR, SV, qd1703, encApiBlock, encApiMotion, encR45Length]
      refine Mir.use (e := e) ?_ h
      refine Mir.seqK ?_
      refine Mir.condF rfl ?_
      refine Mir.exit fun e h => ?_
      cases h
      simp only [↓reduceIte, reduceCtorEq, nA, nE, nL, and_self, and_true, true_and, SL, encApiBlock, encApiMotion, encR45Length, Tryd.results5]
    ·intro v987
     refine Mir.toK ?_
     refine Mir.seqK ?_
     refine Mir.joinO (fun v1351 : Bool => [U, U, U, U, .d (.bool v1351), U, U, U, U, U, U, U, U, U, U, U, U, U, U, U, U, U, U, U, U, U, U, U, U, U, U, U, U, U, U, U, U, U, U, U, U, U, U, U, U, U, U, U, U, U, U, U, U, U, U, U, U, U, U, U, U, U, U, U, U, U, U, U, U, U, U, U, U, U, U, U, U, U, U, U, U, U, U, U, U, U, U, U, U, U, U, U, U, U, U, U, U, U, U, U, U, U, U, U, U, U, U, U, U, U, U, U, U, U, U, U, U, U, U, U, U, U, U, U, U, U, U, U, U, U, U, U, U, U, U, U, U, U, U, U, U, U, U, U, U, U, U, U, U, U, U]) (fun v1351 : Bool => ⟨[[.d (.int .i64 a1.Table.Work.e0.X), .d (.int .i64 a1.Table.Work.e0.Y), .d (.int .i64 a1.Table.Work.e0.Z), .d (.int .i64 a1.Table.Work.e1.X), .d (.int .i64 a1.Table.Work.e1.Y), .d (.int .i64 a1.Table.Work.e1.Z), .d (.int .i64 a1.Table.Work.e2.X), .d (.int .i64 a1.Table.Work.e2.Y), .d (.int .i64 a1.Table.Work.e2.Z), .d (.int .i64 a1.Table.Work.e3.X), .d (.int .i64 a1.Table.Work.e3.Y), .d (.int .i64 a1.Table.Work.e3.Z), .d (.int .i64 a1.Table.Work.e4.X), .d (.int .i64 a1.Table.Work.e4.Y), .d (.int .i64 a1.Table.Work.e4.Z), .d (.int .i64 a1.Table.Work.e5.X), .d (.int .i64 a1.Table.Work.e5.Y), .d (.int .i64 a1.Table.Work.e5.Z), .d (.list (List.map encR45Length a1.Table.Lengths)), .d (.int .i64 a1.From.X), .d (.int .i64 a1.From.Y), .d (.int .i64 a1.From.Z)], [.d (.int .i64 y110.2.Block), .d (.int .i64 y110.2.Code)], [.d (.int .i64 v987.2.1.X), .d (.int .i64 v987.2.1.Y), .d (.int .i64 v987.2.1.Z)], [.d (.int .i64 v987.2.2.1.Motion), .d (.int .i64 v987.2.2.1.Distance), .d (.int .i64 v987.2.2.1.Work), .d (.int .i64 v987.2.2.1.Length), .d (.int .i64 v987.2.2.1.Return), .d (.int .i64 v987.2.2.1.Feed), .d (.int .i64 v987.2.2.1.Tool), .d (.int .i64 v987.2.2.1.Offset)], [.d (.int .i64 v987.2.2.2.Code), .d (.int .i64 v987.2.2.2.R), .d (.int .i64 v987.2.2.2.Z), .d (.int .i64 v987.2.2.2.Q), .d (.int .i64 v987.2.2.2.Rate), .d (.int .i64 v987.2.2.2.Initial), .d (.bool v987.2.2.2.High)]], [(62, v987.1.length)]⟩) (fun _ => rfl) ?_ ?_
     ·refine Mir.ite (fun hb1837 => ?_) (fun hb1837 => ?_)
      ·refine Mir.bind fun y1350 hy1838 => ?_
       refine Mir.region fun e h => ?_
       simp only [↓reduceIte, reduceCtorEq, nA, nS, nM, nE, nL, nT, nB, iT, iN, iE, and_self, SR, SV, ag_49, sz_49, und_43, zero_49, pl_49, gE_49, encApiBlock, encApiMotion, encR45Length, hb1837]
       refine SpecS.by (r47_Same_spec hy1838) (by simp only [↓reduceIte, reduceCtorEq, nA, nE, nL, and_self, and_true, true_and, SL, encApiBlock, encApiMotion, encR45Length, hb1837]) ?_
       simp only [↓reduceIte, reduceCtorEq, nA, nS, nM, nE, nL, nT, nB, iT, iN, iE, and_self, SR, SV, encApiBlock, encApiMotion, encR45Length, hb1837]
       cases h
       simp only [↓reduceIte, reduceCtorEq, nA, nE, nL, and_self, and_true, true_and, SL, encApiBlock, encApiMotion, encR45Length, hb1837]
      ·refine Mir.region fun e h => ?_
       simp only [↓reduceIte, reduceCtorEq, nA, nS, nM, nE, nL, nT, nB, iT, iN, iE, and_self, SR, SV, ag_49, sz_49, und_43, zero_49, pl_49, gE_49, encApiBlock, encApiMotion, encR45Length, hb1837]
       cases h
       simp only [↓reduceIte, reduceCtorEq, nA, nE, nL, and_self, and_true, true_and, SL, encApiBlock, encApiMotion, encR45Length, hb1837]
     ·intro v1351
      refine Mir.toK ?_
      refine Mir.ret fun e h => ?_
      cases h
      simp only [↓reduceIte, reduceCtorEq, nA, nE, nL, and_self, and_true, true_and, SL, encApiBlock, encApiMotion, encR45Length, Tryd.results5]

theorem co_4 : Tryd.prog.cellsOf 4 = 1 := by kernel_rfl
theorem opn_4 : Opn Tryd.prog 4 eBool inBool := Opn.bool Tryd.underlying4
theorem co_5 : Tryd.prog.cellsOf 5 = 1 := by kernel_rfl
theorem opn_5 : Opn Tryd.prog 5 (eInt .u8) (inInt .u8) := Opn.int Tryd.underlying5
theorem co_2 : Tryd.prog.cellsOf 2 = 1 := by kernel_rfl
theorem opn_2 : Opn Tryd.prog 2 (eInt .i64) (inInt .i64) := Opn.int Tryd.underlying2
def inApiWord (x : ApiWord) : Prop := (inInt .u8) x.Letter ∧ (inInt .i64) x.Value
theorem co_38 : Tryd.prog.cellsOf 38 = 2 := by kernel_rfl
theorem opn_38 : Opn Tryd.prog 38 encApiWord inApiWord := by
  intro w H enc fuel cs x h
  obtain ⟨xs, n, _, _, hl, hxl, hf⟩ := DataW.trod_struct Tryd.underlying38 h
  have hxl' : xs.length = 2 := hxl
  obtain ⟨s0, r0, o0⟩ := Opn.field hf 0 5 0 1 rfl co_5 (by omega) opn_5
  obtain ⟨s1, r1, o1⟩ := Opn.field hf 1 2 1 1 rfl co_2 (by omega) opn_2
  refine ⟨⟨s0, s1⟩, ?_, o0, o1⟩
  exact (RelC.cut 0 1 r0 rfl (RelC.cut 1 1 r1 rfl (RelC.nil (n := 2) (by rw [hl, co_38]; exact Nat.le_refl _))))
theorem co_40 : Tryd.prog.cellsOf 40 = 1 := by kernel_rfl
theorem opn_40 : Opn Tryd.prog 40 (eList encApiWord) (inList inApiWord) := Opn.slice Tryd.underlying40 opn_38 (fun _ => (rfl : _ = 2).trans co_38.symm) (by rw [co_38]; decide)
theorem co_9 : Tryd.prog.cellsOf 9 = 1 := by kernel_rfl
theorem opn_9 : Opn Tryd.prog 9 eStr inStr := Opn.str Tryd.underlying9
def inApiBlock (x : ApiBlock) : Prop := inBool x.Skip ∧ (inList inApiWord) x.Words ∧ inStr x.Comment
theorem co_42 : Tryd.prog.cellsOf 42 = 3 := by kernel_rfl
theorem opn_42 : Opn Tryd.prog 42 encApiBlock inApiBlock := by
  intro w H enc fuel cs x h
  obtain ⟨xs, n, _, _, hl, hxl, hf⟩ := DataW.trod_struct Tryd.underlying42 h
  have hxl' : xs.length = 3 := hxl
  obtain ⟨s0, r0, o0⟩ := Opn.field hf 0 4 0 1 rfl co_4 (by omega) opn_4
  obtain ⟨s1, r1, o1⟩ := Opn.field hf 1 40 1 1 rfl co_40 (by omega) opn_40
  obtain ⟨s2, r2, o2⟩ := Opn.field hf 2 9 2 1 rfl co_9 (by omega) opn_9
  refine ⟨⟨s0, s1, s2⟩, ?_, o0, o1, o2⟩
  exact (RelC.cut 0 1 r0 rfl (RelC.cut 1 1 r1 rfl (RelC.cut 2 1 r2 rfl (RelC.nil (n := 3) (by rw [hl, co_42]; exact Nat.le_refl _)))))
theorem co_43 : Tryd.prog.cellsOf 43 = 1 := by kernel_rfl
theorem opn_43 : Opn Tryd.prog 43 (eList encApiBlock) (inList inApiBlock) := Opn.slice Tryd.underlying43 opn_42 (fun _ => (rfl : _ = 3).trans co_42.symm) (by rw [co_42]; decide)
def inApiPos (x : ApiPos) : Prop := (inInt .i64) x.X ∧ (inInt .i64) x.Y ∧ (inInt .i64) x.Z
theorem co_24 : Tryd.prog.cellsOf 24 = 3 := by kernel_rfl
theorem opn_24 : Opn Tryd.prog 24 encApiPos inApiPos := by
  intro w H enc fuel cs x h
  obtain ⟨xs, n, _, _, hl, hxl, hf⟩ := DataW.trod_struct Tryd.underlying24 h
  have hxl' : xs.length = 3 := hxl
  obtain ⟨s0, r0, o0⟩ := Opn.field hf 0 2 0 1 rfl co_2 (by omega) opn_2
  obtain ⟨s1, r1, o1⟩ := Opn.field hf 1 2 1 1 rfl co_2 (by omega) opn_2
  obtain ⟨s2, r2, o2⟩ := Opn.field hf 2 2 2 1 rfl co_2 (by omega) opn_2
  refine ⟨⟨s0, s1, s2⟩, ?_, o0, o1, o2⟩
  exact (RelC.cut 0 1 r0 rfl (RelC.cut 1 1 r1 rfl (RelC.cut 2 1 r2 rfl (RelC.nil (n := 3) (by rw [hl, co_24]; exact Nat.le_refl _)))))
def inArr6ApiPos (x : Arr6ApiPos) : Prop := inApiPos x.e0 ∧ inApiPos x.e1 ∧ inApiPos x.e2 ∧ inApiPos x.e3 ∧ inApiPos x.e4 ∧ inApiPos x.e5
theorem co_25 : Tryd.prog.cellsOf 25 = 18 := by kernel_rfl
theorem opn_25 : Opn Tryd.prog 25 encArr6ApiPos inArr6ApiPos := by
  intro w H enc fuel cs x h
  obtain ⟨xs, n, _, _, hl, hxl, hf⟩ := DataW.trod_array Tryd.underlying25 h
  obtain ⟨s0, r0, o0⟩ := Opn.elem hf 0 3 co_24 (by omega) hxl opn_24
  obtain ⟨s1, r1, o1⟩ := Opn.elem hf 1 3 co_24 (by omega) hxl opn_24
  obtain ⟨s2, r2, o2⟩ := Opn.elem hf 2 3 co_24 (by omega) hxl opn_24
  obtain ⟨s3, r3, o3⟩ := Opn.elem hf 3 3 co_24 (by omega) hxl opn_24
  obtain ⟨s4, r4, o4⟩ := Opn.elem hf 4 3 co_24 (by omega) hxl opn_24
  obtain ⟨s5, r5, o5⟩ := Opn.elem hf 5 3 co_24 (by omega) hxl opn_24
  refine ⟨⟨s0, s1, s2, s3, s4, s5⟩, ?_, o0, o1, o2, o3, o4, o5⟩
  exact (RelC.cut 0 3 r0 rfl (RelC.cut 3 3 r1 rfl (RelC.cut 6 3 r2 rfl (RelC.cut 9 3 r3 rfl (RelC.cut 12 3 r4 rfl (RelC.cut 15 3 r5 rfl (RelC.nil (n := 18) (by rw [hl, co_25]; exact Nat.le_refl _))))))))
def inR45Length (x : R45Length) : Prop := (inInt .i64) x.Number ∧ (inInt .i64) x.Length
theorem co_93 : Tryd.prog.cellsOf 93 = 2 := by kernel_rfl
theorem opn_93 : Opn Tryd.prog 93 encR45Length inR45Length := by
  intro w H enc fuel cs x h
  obtain ⟨xs, n, _, _, hl, hxl, hf⟩ := DataW.trod_struct Tryd.underlying93 h
  have hxl' : xs.length = 2 := hxl
  obtain ⟨s0, r0, o0⟩ := Opn.field hf 0 2 0 1 rfl co_2 (by omega) opn_2
  obtain ⟨s1, r1, o1⟩ := Opn.field hf 1 2 1 1 rfl co_2 (by omega) opn_2
  refine ⟨⟨s0, s1⟩, ?_, o0, o1⟩
  exact (RelC.cut 0 1 r0 rfl (RelC.cut 1 1 r1 rfl (RelC.nil (n := 2) (by rw [hl, co_93]; exact Nat.le_refl _))))
theorem co_26 : Tryd.prog.cellsOf 26 = 1 := by kernel_rfl
theorem opn_26 : Opn Tryd.prog 26 (eList encR45Length) (inList inR45Length) := Opn.slice Tryd.underlying26 opn_93 (fun _ => (rfl : _ = 2).trans co_93.symm) (by rw [co_93]; decide)
def inR45Table (x : R45Table) : Prop := inArr6ApiPos x.Work ∧ (inList inR45Length) x.Lengths
theorem co_28 : Tryd.prog.cellsOf 28 = 19 := by kernel_rfl
theorem opn_28 : Opn Tryd.prog 28 encR45Table inR45Table := by
  intro w H enc fuel cs x h
  obtain ⟨xs, n, _, _, hl, hxl, hf⟩ := DataW.trod_struct Tryd.underlying28 h
  have hxl' : xs.length = 2 := hxl
  obtain ⟨s0, r0, o0⟩ := Opn.field hf 0 25 0 18 rfl co_25 (by omega) opn_25
  obtain ⟨s1, r1, o1⟩ := Opn.field hf 1 26 18 1 rfl co_26 (by omega) opn_26
  refine ⟨⟨s0, s1⟩, ?_, o0, o1⟩
  exact (RelC.cut 0 18 r0 rfl (RelC.cut 18 1 r1 rfl (RelC.nil (n := 19) (by rw [hl, co_28]; exact Nat.le_refl _))))
def inL47Setting (x : L47Setting) : Prop := inR45Table x.Table ∧ inApiPos x.From
theorem co_30 : Tryd.prog.cellsOf 30 = 22 := by kernel_rfl
theorem opn_30 : Opn Tryd.prog 30 encL47Setting inL47Setting := by
  intro w H enc fuel cs x h
  obtain ⟨xs, n, _, _, hl, hxl, hf⟩ := DataW.trod_struct Tryd.underlying30 h
  have hxl' : xs.length = 2 := hxl
  obtain ⟨s0, r0, o0⟩ := Opn.field hf 0 28 0 19 rfl co_28 (by omega) opn_28
  obtain ⟨s1, r1, o1⟩ := Opn.field hf 1 24 19 3 rfl co_24 (by omega) opn_24
  refine ⟨⟨s0, s1⟩, ?_, o0, o1⟩
  exact (RelC.cut 0 19 r0 rfl (RelC.cut 19 3 r1 rfl (RelC.nil (n := 22) (by rw [hl, co_30]; exact Nat.le_refl _))))
end Go.Proofs.YtlcfgpjgjdjpoaaDoor
