/-
  Mirrors of functions, written by wip/mir.py.
-/
import Derived.Test.YtlcfgpjgjdjpoaaDoorGf
import Derived.Test.YtlcfgpjgjdjpoaaDoorTy
import Derived.Test.YtlcfgpjgjdjpoaaDoorGo
import Derived.Test.YtlcfgpjgjdjpoaaDoorMB
import Derived.Test.YtlcfgpjgjdjpoaaDoorMH
namespace Go.Proofs.YtlcfgpjgjdjpoaaDoor
open Go.RowKit
open Nat renaming reduceAdd → nA, reduceSub → nS, reduceMul → nM, reduceEqDiff → nE, reduceLeDiff → nL, reduceLT → nT, reduceBEq → nB
open Int renaming reduceLT → iT, reduceToNat → iN, reduceEq → iE
set_option linter.unusedVariables false
set_option linter.unusedSimpArgs false
set_option maxRecDepth 100000

def slices_Clone_api_Block_api_Block (a0 : List ApiBlock) : Option (List ApiBlock) := guardO (okLen a0.length) (some a0)
theorem slices_Clone_api_Block_api_Block_n {c0 : Nat} {y : List ApiBlock} (h : (some []) = some y) : Spec gP 19 [.d (.other (.slice none 0 c0))] (.d (.list (List.map encApiBlock y))) := by
  refine spec_mir Tryd.func19 rfl (by kernel_rfl) (by kernel_rfl) (fun y : List ApiBlock => .d (.list (List.map encApiBlock y))) ?_ h
  simp only [List.replicate, List.length, nS, nA, Tryd.ntmps19, SV]
  refine Mir.seqK ?_
  refine Mir.region fun e h => ?_
  simp only [↓reduceIte, reduceCtorEq, nA, nS, nM, nE, nL, nT, nB, iT, iN, iE, and_self, SR, SV, encApiBlock]
  refine Mir.use (e := e) ?_ h
  refine Mir.seqK ?_
  refine Mir.seqK ?_
  refine Mir.region fun e h => ?_
  simp only [↓reduceIte, reduceCtorEq, nA, nS, nM, nE, nL, nT, nB, iT, iN, iE, and_self, SR, SV, und_43, encApiBlock]
  refine Mir.use (e := e) ?_ h
  refine Mir.condT rfl ?_
  refine Mir.seqK ?_
  refine Mir.region fun e h => ?_
  simp only [↓reduceIte, reduceCtorEq, nA, nS, nM, nE, nL, nT, nB, iT, iN, iE, and_self, SR, SV, encApiBlock]
  refine Mir.use (e := e) ?_ h
  refine Mir.ret fun e h => ?_
  cases h
  simp only [↓reduceIte, reduceCtorEq, nA, nE, nL, and_self, and_true, true_and, SL, encApiBlock, Tryd.results19]
theorem slices_Clone_api_Block_api_Block_o {p0 : Addr} {c0 : Nat} {y : List ApiBlock} (h : (some []) = some y) : Spec gP 19 [.d (.other (.slice (some p0) 0 c0))] (.d (.list (List.map encApiBlock y))) := by
  refine spec_mir Tryd.func19 rfl (by kernel_rfl) (by kernel_rfl) (fun y : List ApiBlock => .d (.list (List.map encApiBlock y))) ?_ h
  simp only [List.replicate, List.length, nS, nA, Tryd.ntmps19, SV]
  refine Mir.seqK ?_
  refine Mir.region fun e h => ?_
  simp only [↓reduceIte, reduceCtorEq, nA, nS, nM, nE, nL, nT, nB, iT, iN, iE, and_self, SR, SV, encApiBlock]
  refine Mir.use (e := e) ?_ h
  refine Mir.seqK ?_
  refine Mir.seqK ?_
  refine Mir.region fun e h => ?_
  simp only [↓reduceIte, reduceCtorEq, nA, nS, nM, nE, nL, nT, nB, iT, iN, iE, and_self, SR, SV, und_43, encApiBlock]
  refine Mir.use (e := e) ?_ h
  refine Mir.condF rfl ?_
  refine Mir.skip ?_
  refine Mir.toK ?_
  refine Mir.seqK ?_
  refine Mir.region fun e h => ?_
  simp only [↓reduceIte, reduceCtorEq, nA, nS, nM, nE, nL, nT, nB, iT, iN, iE, and_self, SR, SV, und_43, sz_42, zero_42, (nr rfl : okLen 0 = true), app_43, al_ApiBlock, encApiBlock]
  refine Mir.use (e := e) ?_ h
  refine Mir.ret fun e h => ?_
  cases h
  simp only [↓reduceIte, reduceCtorEq, nA, nE, nL, and_self, and_true, true_and, SL, encApiBlock, Tryd.results19]
theorem slices_Clone_api_Block_api_Block_c {x0 : ApiBlock} {l0 : List ApiBlock} {y : List ApiBlock} (h : (guardO (okLen ((x0 :: l0).length)) (   some (x0 :: l0))) = some y) : Spec gP 19 [.d (.list (List.map encApiBlock (x0 :: l0)))] (.d (.list (List.map encApiBlock y))) := by
  refine spec_mir Tryd.func19 rfl (by kernel_rfl) (by kernel_rfl) (fun y : List ApiBlock => .d (.list (List.map encApiBlock y))) ?_ h
  simp only [List.replicate, List.length, nS, nA, Tryd.ntmps19, SV]
  refine Mir.seqK ?_
  refine Mir.region fun e h => ?_
  simp only [↓reduceIte, reduceCtorEq, nA, nS, nM, nE, nL, nT, nB, iT, iN, iE, and_self, SR, SV, encApiBlock]
  refine Mir.use (e := e) ?_ h
  refine Mir.seqK ?_
  refine Mir.seqK ?_
  refine Mir.region fun e h => ?_
  simp only [↓reduceIte, reduceCtorEq, nA, nS, nM, nE, nL, nT, nB, iT, iN, iE, and_self, SR, SV, und_43, encApiBlock]
  refine Mir.use (e := e) ?_ h
  refine Mir.condF rfl ?_
  refine Mir.skip ?_
  refine Mir.toK ?_
  refine Mir.seqK ?_
  refine Mir.guard fun q1 => ?_
  refine Mir.region fun e h => ?_
  simp only [↓reduceIte, reduceCtorEq, nA, nS, nM, nE, nL, nT, nB, iT, iN, iE, and_self, SR, SV, und_43, sz_42, zero_42, (nr rfl : okLen 0 = true), app_43, al_ApiBlock, Nat.zero_lt_succ, Nat.add_eq_zero_iff, q1, encApiBlock]
  refine Mir.use (e := e) ?_ h
  refine Mir.ret fun e h => ?_
  cases h
  simp only [↓reduceIte, reduceCtorEq, nA, nE, nL, and_self, and_true, true_and, SL, encApiBlock, Tryd.results19]
theorem slices_Clone_api_Block_api_Block_spec {a0 : List ApiBlock} {y : List ApiBlock} (h : slices_Clone_api_Block_api_Block a0 = some y) : Spec gP 19 [.d (.list (List.map encApiBlock a0))] (.d (.list (List.map encApiBlock y))) := by
  obtain ⟨hl, h⟩ := guardO_some h
  cases h
  cases a0 with
  | nil =>
    refine Spec.nilcase fun A c => ?_
    cases A with
    | none => exact slices_Clone_api_Block_api_Block_n rfl
    | some p => exact slices_Clone_api_Block_api_Block_o rfl
  | cons x l => exact slices_Clone_api_Block_api_Block_c (by simp only [guardO, hl])

def l47_InterpreterRange (a0 : (List ApiBlock)) (a1 : L47Setting) : Option Bool :=
  bindO (bindO (l47_awake ) fun (y101 : Bool) =>
      if y101 = true then
        bindO (l47_few a0 a1) fun (y102 : Bool) =>
        some (!y102)
      else
        some true) fun (v103 : Bool) =>
  if v103 = true then
    bindO (l47_awake ) fun (y105 : Bool) =>
    some y105
  else
    bindO (slices_Clone_api_Block_api_Block a0) fun (y106 : (List ApiBlock)) =>
    bindO (l47_theirs a1.Table) fun (y107 : TableTable) =>
    bindO (inp_Blocks y106 y107 a1.From) fun (y108 : (List ApiMotion) × InterpreterAlarm) =>
    bindX (guardO (okIdx y108.1) (
        rangeX (fun (i177 : Nat) (e179 : ApiMotion) (v178 : Int) =>
          bindO (bindO (r47_InRange e179.From) fun (y183 : Bool) =>
              if y183 = true then
                bindO (r47_InRange e179.To) fun (y184 : Bool) =>
                if y184 = true then
                  if ((e179.From.X == e179.To.X) && ((e179.From.Y == e179.To.Y) && (e179.From.Z == e179.To.Z))) = true then
                    some true
                  else
                    if (decide (e179.Block < v178)) = true then
                      some true
                    else
                      if (decide (e179.Block ≥ (a0.length : Int))) = true then
                        some true
                      else
                        if (y108.2.Code != 0) = true then
                          some (decide (e179.Block ≥ y108.2.Block))
                        else
                          some false
                else
                  some true
              else
                some true) fun (v185 : Bool) =>
          if v185 = true then
            some (.ret (.ret false))
          else
            some (.go e179.Block)) (fun (v178 : Int) => some (.go ())) y108.1 0 0)) fun (v147 : Unit) =>
    bindO (bindO (inp_Connected a1.From y108.1) fun (y186 : Bool) =>
        if y186 = true then
          if (decide ((y108.1.length : Int) > 0)) = true then
            some true
          else
            bindO (inp_End a1.From y108.1) fun (y187 : ApiPos) =>
            some ((y187.X == a1.From.X) && ((y187.Y == a1.From.Y) && (y187.Z == a1.From.Z)))
        else
          some false) fun (v188 : Bool) =>
    some v188
set_option maxHeartbeats 8000000 in
theorem l47_InterpreterRange_spec {a0 : (List ApiBlock)} {a1 : L47Setting} {y : Bool} (h : l47_InterpreterRange a0 a1 = some y) : Spec gP 6 [.d (.list (List.map encApiBlock a0)), .agg [.d (.int .i64 a1.Table.Work.e0.X), .d (.int .i64 a1.Table.Work.e0.Y), .d (.int .i64 a1.Table.Work.e0.Z), .d (.int .i64 a1.Table.Work.e1.X), .d (.int .i64 a1.Table.Work.e1.Y), .d (.int .i64 a1.Table.Work.e1.Z), .d (.int .i64 a1.Table.Work.e2.X), .d (.int .i64 a1.Table.Work.e2.Y), .d (.int .i64 a1.Table.Work.e2.Z), .d (.int .i64 a1.Table.Work.e3.X), .d (.int .i64 a1.Table.Work.e3.Y), .d (.int .i64 a1.Table.Work.e3.Z), .d (.int .i64 a1.Table.Work.e4.X), .d (.int .i64 a1.Table.Work.e4.Y), .d (.int .i64 a1.Table.Work.e4.Z), .d (.int .i64 a1.Table.Work.e5.X), .d (.int .i64 a1.Table.Work.e5.Y), .d (.int .i64 a1.Table.Work.e5.Z), .d (.list (List.map encR45Length a1.Table.Lengths)), .d (.int .i64 a1.From.X), .d (.int .i64 a1.From.Y), .d (.int .i64 a1.From.Z)]] (.d (.bool y)) := by
  refine spec_mir Tryd.func6 rfl (by kernel_rfl) (by kernel_rfl) (fun y : Bool => .d (.bool y)) ?_ h
  unfold l47_InterpreterRange
  simp only [List.replicate, List.length, nS, nA, Tryd.ntmps6, SV]
  refine Mir.seqK ?_
  refine Mir.region fun e h => ?_
  simp only [↓reduceIte, reduceCtorEq, nA, nS, nM, nE, nL, nT, nB, iT, iN, iE, and_self, SR, SV, encApiBlock, encApiMotion, encR45Length]
  refine Mir.use (e := e) ?_ h
  refine Mir.seqK ?_
  refine Mir.seqK ?_
  refine Mir.joinO (fun v103 : Bool => [.d (.list (List.map encApiBlock a0)), U, U, .ptr 0 0, U, U, U, U, U, U, U, U, U, U, U, U, U, .d (.bool v103), U, U, U, U, U, U, U, U, U, U, U, U, U, U, U, U, U, U, U, U, U, U, U, U, U, U, U, U, U, U, U, U, U, U, U, U, U, U, U, U, U, U, U, U, U, U, U, U, U, U, U, U, U, U, U, U, U, U, U, U, U, U, U, U, U, U, U, U, U, U, U, U, U, U, U, U, U, U, U, U, U]) (fun v103 : Bool => ⟨[[.d (.int .i64 a1.Table.Work.e0.X), .d (.int .i64 a1.Table.Work.e0.Y), .d (.int .i64 a1.Table.Work.e0.Z), .d (.int .i64 a1.Table.Work.e1.X), .d (.int .i64 a1.Table.Work.e1.Y), .d (.int .i64 a1.Table.Work.e1.Z), .d (.int .i64 a1.Table.Work.e2.X), .d (.int .i64 a1.Table.Work.e2.Y), .d (.int .i64 a1.Table.Work.e2.Z), .d (.int .i64 a1.Table.Work.e3.X), .d (.int .i64 a1.Table.Work.e3.Y), .d (.int .i64 a1.Table.Work.e3.Z), .d (.int .i64 a1.Table.Work.e4.X), .d (.int .i64 a1.Table.Work.e4.Y), .d (.int .i64 a1.Table.Work.e4.Z), .d (.int .i64 a1.Table.Work.e5.X), .d (.int .i64 a1.Table.Work.e5.Y), .d (.int .i64 a1.Table.Work.e5.Z), .d (.list (List.map encR45Length a1.Table.Lengths)), .d (.int .i64 a1.From.X), .d (.int .i64 a1.From.Y), .d (.int .i64 a1.From.Z)]], []⟩) (fun _ => rfl) ?_ ?_
  · refine Mir.bind fun y101 hy1 => ?_
    refine Mir.ite (fun hb2 => ?_) (fun hb2 => ?_)
    · refine Mir.bind fun y102 hy3 => ?_
      refine Mir.region fun e h => ?_
      simp only [↓reduceIte, reduceCtorEq, nA, nS, nM, nE, nL, nT, nB, iT, iN, iE, and_self, SR, SV, encApiBlock, encR45Length, hb2]
      refine SpecS.by (l47_awake_spec hy1) (rfl) ?_
      simp only [↓reduceIte, reduceCtorEq, nA, nS, nM, nE, nL, nT, nB, iT, iN, iE, and_self, SR, SV, ag_30, sz_30, encApiBlock, encR45Length, hb2]
      refine SpecS.by (l47_few_spec hy3) (by simp only [↓reduceIte, reduceCtorEq, nA, nE, nL, and_self, and_true, true_and, SL, encApiBlock, encR45Length, hb2]) ?_
      simp only [↓reduceIte, reduceCtorEq, nA, nS, nM, nE, nL, nT, nB, iT, iN, iE, and_self, SR, SV, encApiBlock, encR45Length, hb2]
      cases h
      simp only [↓reduceIte, reduceCtorEq, nA, nE, nL, and_self, and_true, true_and, SL, encApiBlock, encR45Length, hb2]
    · refine Mir.region fun e h => ?_
      simp only [↓reduceIte, reduceCtorEq, nA, nS, nM, nE, nL, nT, nB, iT, iN, iE, and_self, SR, SV, encApiBlock, encR45Length, hb2]
      refine SpecS.by (l47_awake_spec hy1) (rfl) ?_
      simp only [↓reduceIte, reduceCtorEq, nA, nS, nM, nE, nL, nT, nB, iT, iN, iE, and_self, SR, SV, encApiBlock, encR45Length, hb2]
      cases h
      simp only [↓reduceIte, reduceCtorEq, nA, nE, nL, and_self, and_true, true_and, SL, encApiBlock, encR45Length, hb2]
  · intro v103
    refine Mir.toK ?_
    refine Mir.cond rfl (fun hb6 => ?_) (fun hb6 => ?_)
    · refine Mir.seqK ?_
      refine Mir.bind fun y105 hy7 => ?_
      refine Mir.region fun e h => ?_
      simp only [↓reduceIte, reduceCtorEq, nA, nS, nM, nE, nL, nT, nB, iT, iN, iE, and_self, SR, SV, encApiBlock, encR45Length]
      refine SpecS.by (l47_awake_spec hy7) (rfl) ?_
      simp only [↓reduceIte, reduceCtorEq, nA, nS, nM, nE, nL, nT, nB, iT, iN, iE, and_self, SR, SV, encApiBlock, encR45Length]
      refine Mir.use (e := e) ?_ h
      refine Mir.ret fun e h => ?_
      cases h
      simp only [↓reduceIte, reduceCtorEq, nA, nE, nL, and_self, and_true, true_and, SL, encApiBlock, encR45Length, Tryd.results6]
    · refine Mir.skip ?_
      refine Mir.toK ?_
      refine Mir.seqK ?_
      refine Mir.bind fun y106 hy8 => ?_
      refine Mir.bind fun y107 hy9 => ?_
      refine Mir.bind fun y108 hy10 => ?_
      refine Mir.regionD [] (by kernel_rfl) fun e h => ?_
      simp only [↓reduceIte, reduceCtorEq, nA, nS, nM, nE, nL, nT, nB, iT, iN, iE, and_self, SR, SV, sepL_nil, sepL_cons, sepV_ne, sepV_d, sepV_i, true_and, Bool.and_self, encApiBlock, encApiMotion, encR45Length]
      refine Spec.by (slices_Clone_api_Block_api_Block_spec hy8) (by simp only [↓reduceIte, reduceCtorEq, nA, nE, nL, and_self, and_true, true_and, SL, encApiBlock, encApiMotion, encR45Length]) ?_
      simp only [↓reduceIte, reduceCtorEq, nA, nS, nM, nE, nL, nT, nB, iT, iN, iE, and_self, SR, SV, sepL_nil, sepL_cons, sepV_ne, sepV_d, sepV_i, true_and, Bool.and_self, fld_30_0, sz_28, ag_28, encApiBlock, encApiMotion, encR45Length]
      refine Spec.by (l47_theirs_spec hy9) (by simp only [↓reduceIte, reduceCtorEq, nA, nE, nL, and_self, and_true, true_and, SL, encApiBlock, encApiMotion, encR45Length]) ?_
      simp only [↓reduceIte, reduceCtorEq, nA, nS, nM, nE, nL, nT, nB, iT, iN, iE, and_self, SR, SV, sepL_nil, sepL_cons, sepV_ne, sepV_d, sepV_i, true_and, Bool.and_self, fld_30_1, sz_24, ag_24, encApiBlock, encApiMotion, encR45Length]
      refine Spec.by (inp_Blocks_spec hy10) (by simp only [↓reduceIte, reduceCtorEq, nA, nE, nL, and_self, and_true, true_and, SL, encApiBlock, encApiMotion, encR45Length]) ?_
      simp only [↓reduceIte, reduceCtorEq, nA, nS, nM, nE, nL, nT, nB, iT, iN, iE, and_self, SR, SV, sepL_nil, sepL_cons, sepV_ne, sepV_d, sepV_i, true_and, Bool.and_self, zero_49, sz_49, encApiBlock, encApiMotion, encR45Length]
      refine Mir.use (e := e) ?_ h
      refine Mir.seqK ?_
      refine Mir.region fun e h => ?_
      simp only [↓reduceIte, reduceCtorEq, nA, nS, nM, nE, nL, nT, nB, iT, iN, iE, and_self, SR, SV, encApiBlock, encApiMotion, encR45Length]
      refine Mir.use (e := e) ?_ h
      refine Mir.seqK ?_
      refine Mir.seqK ?_
      refine Mir.region fun e h => ?_
      simp only [↓reduceIte, reduceCtorEq, nA, nS, nM, nE, nL, nT, nB, iT, iN, iE, and_self, SR, SV, und_47, encApiBlock, encApiMotion, encR45Length]
      refine Mir.use (e := e) ?_ h
      refine Mir.join (fun v147 : Unit => [U, U, U, .ptr 0 0, U, .d (.list (List.map encApiMotion y108.1)), U, U, U, U, U, U, U, U, U, U, U, U, U, U, U, U, U, U, U, U, U, U, U, U, U, U, U, U, U, U, U, U, U, U, U, U, U, U, U, U, U, U, U, U, U, U, U, U, U, U, U, U, U, U, U, U, U, U, U, U, U, U, U, U, U, U, U, U, U, U, U, U, U, U, U, U, U, U, U, U, U, U, U, U, U, U, U, U, U, U, U, U, U]) (fun v147 : Unit => ⟨[[.d (.int .i64 a1.Table.Work.e0.X), .d (.int .i64 a1.Table.Work.e0.Y), .d (.int .i64 a1.Table.Work.e0.Z), .d (.int .i64 a1.Table.Work.e1.X), .d (.int .i64 a1.Table.Work.e1.Y), .d (.int .i64 a1.Table.Work.e1.Z), .d (.int .i64 a1.Table.Work.e2.X), .d (.int .i64 a1.Table.Work.e2.Y), .d (.int .i64 a1.Table.Work.e2.Z), .d (.int .i64 a1.Table.Work.e3.X), .d (.int .i64 a1.Table.Work.e3.Y), .d (.int .i64 a1.Table.Work.e3.Z), .d (.int .i64 a1.Table.Work.e4.X), .d (.int .i64 a1.Table.Work.e4.Y), .d (.int .i64 a1.Table.Work.e4.Z), .d (.int .i64 a1.Table.Work.e5.X), .d (.int .i64 a1.Table.Work.e5.Y), .d (.int .i64 a1.Table.Work.e5.Z), .d (.list (List.map encR45Length a1.Table.Lengths)), .d (.int .i64 a1.From.X), .d (.int .i64 a1.From.Y), .d (.int .i64 a1.From.Z)], [.d (.int .i64 y108.2.Block), .d (.int .i64 y108.2.Code)]], []⟩) (fun _ => rfl) ?_ ?_
      · refine Mir.block ?_
        refine Mir.guard fun qg180 => ?_
        refine Mir.range (fun (i177 : Nat) (v178 : Int) => [.d (.list (List.map encApiBlock a0)), U, U, .ptr 0 0, U, .d (.list (List.map encApiMotion y108.1)), .ptr 1 0, .d (.int .i64 v178), U, U, U, U, U, U, U, U, U, U, U, U, U, U, U, U, U, U, U, U, U, U, .d (.list (List.map encApiMotion y108.1)), .d (.int .i64 (y108.1.length : Int)), .d (.int .i64 (i177 : Int)), U, U, U, U, U, U, U, U, U, U, U, U, U, U, U, U, U, U, U, U, U, U, U, U, U, U, U, U, U, U, U, U, U, U, U, U, U, U, U, U, U, U, U, U, U, U, U, U, U, U, U, U, U, U, U, U, U, U, U, U, U, U, U, U, U, U]) (fun (i177 : Nat) (v178 : Int) => ⟨[[.d (.int .i64 a1.Table.Work.e0.X), .d (.int .i64 a1.Table.Work.e0.Y), .d (.int .i64 a1.Table.Work.e0.Z), .d (.int .i64 a1.Table.Work.e1.X), .d (.int .i64 a1.Table.Work.e1.Y), .d (.int .i64 a1.Table.Work.e1.Z), .d (.int .i64 a1.Table.Work.e2.X), .d (.int .i64 a1.Table.Work.e2.Y), .d (.int .i64 a1.Table.Work.e2.Z), .d (.int .i64 a1.Table.Work.e3.X), .d (.int .i64 a1.Table.Work.e3.Y), .d (.int .i64 a1.Table.Work.e3.Z), .d (.int .i64 a1.Table.Work.e4.X), .d (.int .i64 a1.Table.Work.e4.Y), .d (.int .i64 a1.Table.Work.e4.Z), .d (.int .i64 a1.Table.Work.e5.X), .d (.int .i64 a1.Table.Work.e5.Y), .d (.int .i64 a1.Table.Work.e5.Z), .d (.list (List.map encR45Length a1.Table.Lengths)), .d (.int .i64 a1.From.X), .d (.int .i64 a1.From.Y), .d (.int .i64 a1.From.Z)], [.d (.int .i64 y108.2.Block), .d (.int .i64 y108.2.Code)]], []⟩) qg180 (fun _ _ => rfl) (by simp only [↓reduceIte, reduceCtorEq, nA, nE, nL, and_self, and_true, true_and, SL, encApiBlock, encApiMotion, encR45Length, (nr rfl : ((0 : Nat) : Int) = 0)]) (by simp only [↓reduceIte, reduceCtorEq, nA, nE, nL, and_self, and_true, true_and, SL, encApiBlock, encApiMotion, encR45Length, (nr rfl : ((0 : Nat) : Int) = 0)]) ?_ ?_
        · intro i177 e179 v178 qr178
          refine Mir.seqK ?_
          refine Mir.region fun e h => ?_
          simp only [↓reduceIte, reduceCtorEq, nA, nS, nM, nE, nL, nT, nB, iT, iN, iE, and_self, SR, SV, qr178, encApiBlock, encApiMotion, encR45Length]
          refine Mir.use (e := e) ?_ h
          refine Mir.seqK ?_
          refine Mir.condT rfl ?_
          refine Mir.skip ?_
          refine Mir.toK ?_
          refine Mir.seqK ?_
          refine Mir.block ?_
          refine Mir.seqK ?_
          refine Mir.region fun e h => ?_
          simp only [↓reduceIte, reduceCtorEq, nA, nS, nM, nE, nL, nT, nB, iT, iN, iE, and_self, SR, SV, und_47, sz_62, qr178, ag_62, zero_62, encApiBlock, encApiMotion, encR45Length]
          refine Mir.use (e := e) ?_ h
          refine Mir.seqK ?_
          refine Mir.seqK ?_
          refine Mir.joinO (fun v185 : Bool => [.d (.list (List.map encApiBlock a0)), U, U, .ptr 0 0, U, .d (.list (List.map encApiMotion y108.1)), .ptr 1 0, U, U, .ptr 2 0, U, U, U, U, U, U, U, U, U, U, U, U, U, U, U, U, U, U, U, U, .d (.list (List.map encApiMotion y108.1)), .d (.int .i64 (y108.1.length : Int)), .d (.int .i64 (i177 : Int)), U, U, U, U, U, U, U, U, U, U, U, U, U, U, U, U, U, U, U, U, U, U, U, U, U, U, U, U, U, U, U, U, U, U, U, U, U, U, U, U, U, U, U, U, .d (.bool v185), U, U, U, U, U, U, U, U, U, U, U, U, U, U, U, U, U, U, U, U, U]) (fun v185 : Bool => ⟨[[.d (.int .i64 a1.Table.Work.e0.X), .d (.int .i64 a1.Table.Work.e0.Y), .d (.int .i64 a1.Table.Work.e0.Z), .d (.int .i64 a1.Table.Work.e1.X), .d (.int .i64 a1.Table.Work.e1.Y), .d (.int .i64 a1.Table.Work.e1.Z), .d (.int .i64 a1.Table.Work.e2.X), .d (.int .i64 a1.Table.Work.e2.Y), .d (.int .i64 a1.Table.Work.e2.Z), .d (.int .i64 a1.Table.Work.e3.X), .d (.int .i64 a1.Table.Work.e3.Y), .d (.int .i64 a1.Table.Work.e3.Z), .d (.int .i64 a1.Table.Work.e4.X), .d (.int .i64 a1.Table.Work.e4.Y), .d (.int .i64 a1.Table.Work.e4.Z), .d (.int .i64 a1.Table.Work.e5.X), .d (.int .i64 a1.Table.Work.e5.Y), .d (.int .i64 a1.Table.Work.e5.Z), .d (.list (List.map encR45Length a1.Table.Lengths)), .d (.int .i64 a1.From.X), .d (.int .i64 a1.From.Y), .d (.int .i64 a1.From.Z)], [.d (.int .i64 y108.2.Block), .d (.int .i64 y108.2.Code)], [.d (.int .i64 e179.From.X), .d (.int .i64 e179.From.Y), .d (.int .i64 e179.From.Z), .d (.int .i64 e179.To.X), .d (.int .i64 e179.To.Y), .d (.int .i64 e179.To.Z), .d (.int .i64 e179.Rate), .d (.int .i64 e179.Tool), .d (.int .i64 e179.Block)]], []⟩) (fun _ => rfl) ?_ ?_
          · refine Mir.bind fun y183 hy191 => ?_
            refine Mir.ite (fun hb192 => ?_) (fun hb192 => ?_)
            · refine Mir.bind fun y184 hy193 => ?_
              refine Mir.ite (fun hb194 => ?_) (fun hb194 => ?_)
              · refine Mir.ite (fun hb195 => ?_) (fun hb195 => ?_)
                · refine Mir.region fun e h => ?_
                  simp only [↓reduceIte, reduceCtorEq, nA, nS, nM, nE, nL, nT, nB, iT, iN, iE, and_self, SR, SV, fld_62_0, sz_24, ag_24, encApiBlock, encApiMotion, encR45Length, hb192, hb194, hb195]
                  refine SpecS.by (r47_InRange_spec hy191) (by simp only [↓reduceIte, reduceCtorEq, nA, nE, nL, and_self, and_true, true_and, SL, encApiBlock, encApiMotion, encR45Length, hb192, hb194, hb195]) ?_
                  simp only [↓reduceIte, reduceCtorEq, nA, nS, nM, nE, nL, nT, nB, iT, iN, iE, and_self, SR, SV, fld_62_1, sz_24, ag_24, encApiBlock, encApiMotion, encR45Length, hb192, hb194, hb195]
                  refine SpecS.by (r47_InRange_spec hy193) (by simp only [↓reduceIte, reduceCtorEq, nA, nE, nL, and_self, and_true, true_and, SL, encApiBlock, encApiMotion, encR45Length, hb192, hb194, hb195]) ?_
                  simp only [↓reduceIte, reduceCtorEq, nA, nS, nM, nE, nL, nT, nB, iT, iN, iE, and_self, SR, SV, fld_62_0, sz_24, ag_24, fld_62_1, gE_24, encApiBlock, encApiMotion, encR45Length, hb192, hb194, hb195]
                  cases h
                  simp only [↓reduceIte, reduceCtorEq, nA, nE, nL, and_self, and_true, true_and, SL, encApiBlock, encApiMotion, encR45Length, hb192, hb194, hb195]
                · refine Mir.ite (fun hb196 => ?_) (fun hb196 => ?_)
                  · refine Mir.region fun e h => ?_
                    simp only [↓reduceIte, reduceCtorEq, nA, nS, nM, nE, nL, nT, nB, iT, iN, iE, and_self, SR, SV, fld_62_0, sz_24, ag_24, encApiBlock, encApiMotion, encR45Length, hb192, hb194, hb195, hb196]
                    refine SpecS.by (r47_InRange_spec hy191) (by simp only [↓reduceIte, reduceCtorEq, nA, nE, nL, and_self, and_true, true_and, SL, encApiBlock, encApiMotion, encR45Length, hb192, hb194, hb195, hb196]) ?_
                    simp only [↓reduceIte, reduceCtorEq, nA, nS, nM, nE, nL, nT, nB, iT, iN, iE, and_self, SR, SV, fld_62_1, sz_24, ag_24, encApiBlock, encApiMotion, encR45Length, hb192, hb194, hb195, hb196]
                    refine SpecS.by (r47_InRange_spec hy193) (by simp only [↓reduceIte, reduceCtorEq, nA, nE, nL, and_self, and_true, true_and, SL, encApiBlock, encApiMotion, encR45Length, hb192, hb194, hb195, hb196]) ?_
                    simp only [↓reduceIte, reduceCtorEq, nA, nS, nM, nE, nL, nT, nB, iT, iN, iE, and_self, SR, SV, fld_62_0, sz_24, ag_24, fld_62_1, gE_24, fld_62_4, sz_3, ag_3, encApiBlock, encApiMotion, encR45Length, hb192, hb194, hb195, hb196]
                    cases h
                    simp only [↓reduceIte, reduceCtorEq, nA, nE, nL, and_self, and_true, true_and, SL, encApiBlock, encApiMotion, encR45Length, hb192, hb194, hb195, hb196]
                  · refine Mir.ite (fun hb197 => ?_) (fun hb197 => ?_)
                    · refine Mir.region fun e h => ?_
                      simp only [↓reduceIte, reduceCtorEq, nA, nS, nM, nE, nL, nT, nB, iT, iN, iE, and_self, SR, SV, fld_62_0, sz_24, ag_24, encApiBlock, encApiMotion, encR45Length, hb192, hb194, hb195, hb196, hb197]
                      refine SpecS.by (r47_InRange_spec hy191) (by simp only [↓reduceIte, reduceCtorEq, nA, nE, nL, and_self, and_true, true_and, SL, encApiBlock, encApiMotion, encR45Length, hb192, hb194, hb195, hb196, hb197]) ?_
                      simp only [↓reduceIte, reduceCtorEq, nA, nS, nM, nE, nL, nT, nB, iT, iN, iE, and_self, SR, SV, fld_62_1, sz_24, ag_24, encApiBlock, encApiMotion, encR45Length, hb192, hb194, hb195, hb196, hb197]
                      refine SpecS.by (r47_InRange_spec hy193) (by simp only [↓reduceIte, reduceCtorEq, nA, nE, nL, and_self, and_true, true_and, SL, encApiBlock, encApiMotion, encR45Length, hb192, hb194, hb195, hb196, hb197]) ?_
                      simp only [↓reduceIte, reduceCtorEq, nA, nS, nM, nE, nL, nT, nB, iT, iN, iE, and_self, SR, SV, fld_62_0, sz_24, ag_24, fld_62_1, gE_24, fld_62_4, sz_3, ag_3, und_43, encApiBlock, encApiMotion, encR45Length, hb192, hb194, hb195, hb196, hb197]
                      cases h
                      simp only [↓reduceIte, reduceCtorEq, nA, nE, nL, and_self, and_true, true_and, SL, encApiBlock, encApiMotion, encR45Length, hb192, hb194, hb195, hb196, hb197]
                    · refine Mir.ite (fun hb198 => ?_) (fun hb198 => ?_)
                      · refine Mir.region fun e h => ?_
                        simp only [↓reduceIte, reduceCtorEq, nA, nS, nM, nE, nL, nT, nB, iT, iN, iE, and_self, SR, SV, fld_62_0, sz_24, ag_24, encApiBlock, encApiMotion, encR45Length, hb192, hb194, hb195, hb196, hb197, hb198]
                        refine SpecS.by (r47_InRange_spec hy191) (by simp only [↓reduceIte, reduceCtorEq, nA, nE, nL, and_self, and_true, true_and, SL, encApiBlock, encApiMotion, encR45Length, hb192, hb194, hb195, hb196, hb197, hb198]) ?_
                        simp only [↓reduceIte, reduceCtorEq, nA, nS, nM, nE, nL, nT, nB, iT, iN, iE, and_self, SR, SV, fld_62_1, sz_24, ag_24, encApiBlock, encApiMotion, encR45Length, hb192, hb194, hb195, hb196, hb197, hb198]
                        refine SpecS.by (r47_InRange_spec hy193) (by simp only [↓reduceIte, reduceCtorEq, nA, nE, nL, and_self, and_true, true_and, SL, encApiBlock, encApiMotion, encR45Length, hb192, hb194, hb195, hb196, hb197, hb198]) ?_
                        simp only [↓reduceIte, reduceCtorEq, nA, nS, nM, nE, nL, nT, nB, iT, iN, iE, and_self, SR, SV, fld_62_0, sz_24, ag_24, fld_62_1, gE_24, fld_62_4, sz_3, ag_3, und_43, fld_49_1, sz_32, ag_32, fld_49_0, encApiBlock, encApiMotion, encR45Length, hb192, hb194, hb195, hb196, hb197, hb198]
                        cases h
                        simp only [↓reduceIte, reduceCtorEq, nA, nE, nL, and_self, and_true, true_and, SL, encApiBlock, encApiMotion, encR45Length, hb192, hb194, hb195, hb196, hb197, hb198]
                      · refine Mir.region fun e h => ?_
                        simp only [↓reduceIte, reduceCtorEq, nA, nS, nM, nE, nL, nT, nB, iT, iN, iE, and_self, SR, SV, fld_62_0, sz_24, ag_24, encApiBlock, encApiMotion, encR45Length, hb192, hb194, hb195, hb196, hb197, hb198]
                        refine SpecS.by (r47_InRange_spec hy191) (by simp only [↓reduceIte, reduceCtorEq, nA, nE, nL, and_self, and_true, true_and, SL, encApiBlock, encApiMotion, encR45Length, hb192, hb194, hb195, hb196, hb197, hb198]) ?_
                        simp only [↓reduceIte, reduceCtorEq, nA, nS, nM, nE, nL, nT, nB, iT, iN, iE, and_self, SR, SV, fld_62_1, sz_24, ag_24, encApiBlock, encApiMotion, encR45Length, hb192, hb194, hb195, hb196, hb197, hb198]
                        refine SpecS.by (r47_InRange_spec hy193) (by simp only [↓reduceIte, reduceCtorEq, nA, nE, nL, and_self, and_true, true_and, SL, encApiBlock, encApiMotion, encR45Length, hb192, hb194, hb195, hb196, hb197, hb198]) ?_
                        simp only [↓reduceIte, reduceCtorEq, nA, nS, nM, nE, nL, nT, nB, iT, iN, iE, and_self, SR, SV, fld_62_0, sz_24, ag_24, fld_62_1, gE_24, fld_62_4, sz_3, ag_3, und_43, fld_49_1, sz_32, ag_32, encApiBlock, encApiMotion, encR45Length, hb192, hb194, hb195, hb196, hb197, hb198]
                        cases h
                        simp only [↓reduceIte, reduceCtorEq, nA, nE, nL, and_self, and_true, true_and, SL, encApiBlock, encApiMotion, encR45Length, hb192, hb194, hb195, hb196, hb197, hb198]
              · refine Mir.region fun e h => ?_
                simp only [↓reduceIte, reduceCtorEq, nA, nS, nM, nE, nL, nT, nB, iT, iN, iE, and_self, SR, SV, fld_62_0, sz_24, ag_24, encApiBlock, encApiMotion, encR45Length, hb192, hb194]
                refine SpecS.by (r47_InRange_spec hy191) (by simp only [↓reduceIte, reduceCtorEq, nA, nE, nL, and_self, and_true, true_and, SL, encApiBlock, encApiMotion, encR45Length, hb192, hb194]) ?_
                simp only [↓reduceIte, reduceCtorEq, nA, nS, nM, nE, nL, nT, nB, iT, iN, iE, and_self, SR, SV, fld_62_1, sz_24, ag_24, encApiBlock, encApiMotion, encR45Length, hb192, hb194]
                refine SpecS.by (r47_InRange_spec hy193) (by simp only [↓reduceIte, reduceCtorEq, nA, nE, nL, and_self, and_true, true_and, SL, encApiBlock, encApiMotion, encR45Length, hb192, hb194]) ?_
                simp only [↓reduceIte, reduceCtorEq, nA, nS, nM, nE, nL, nT, nB, iT, iN, iE, and_self, SR, SV, encApiBlock, encApiMotion, encR45Length, hb192, hb194]
                cases h
                simp only [↓reduceIte, reduceCtorEq, nA, nE, nL, and_self, and_true, true_and, SL, encApiBlock, encApiMotion, encR45Length, hb192, hb194]
            · refine Mir.region fun e h => ?_
              simp only [↓reduceIte, reduceCtorEq, nA, nS, nM, nE, nL, nT, nB, iT, iN, iE, and_self, SR, SV, fld_62_0, sz_24, ag_24, encApiBlock, encApiMotion, encR45Length, hb192]
              refine SpecS.by (r47_InRange_spec hy191) (by simp only [↓reduceIte, reduceCtorEq, nA, nE, nL, and_self, and_true, true_and, SL, encApiBlock, encApiMotion, encR45Length, hb192]) ?_
              simp only [↓reduceIte, reduceCtorEq, nA, nS, nM, nE, nL, nT, nB, iT, iN, iE, and_self, SR, SV, encApiBlock, encApiMotion, encR45Length, hb192]
              cases h
              simp only [↓reduceIte, reduceCtorEq, nA, nE, nL, and_self, and_true, true_and, SL, encApiBlock, encApiMotion, encR45Length, hb192]
          · intro v185
            refine Mir.toK ?_
            refine Mir.cond rfl (fun hb200 => ?_) (fun hb200 => ?_)
            · refine Mir.seqK ?_
              refine Mir.region fun e h => ?_
              simp only [↓reduceIte, reduceCtorEq, nA, nS, nM, nE, nL, nT, nB, iT, iN, iE, and_self, SR, SV, encApiBlock, encApiMotion, encR45Length]
              refine Mir.use (e := e) ?_ h
              refine Mir.ret fun e h => ?_
              cases h
              simp only [↓reduceIte, reduceCtorEq, nA, nE, nL, and_self, and_true, true_and, SL, encApiBlock, encApiMotion, encR45Length, Tryd.results6]
            · refine Mir.skip ?_
              refine Mir.toK ?_
              refine Mir.region fun e h => ?_
              simp only [↓reduceIte, reduceCtorEq, nA, nS, nM, nE, nL, nT, nB, iT, iN, iE, and_self, SR, SV, fld_62_4, sz_3, ag_3, encApiBlock, encApiMotion, encR45Length]
              refine Mir.use (e := e) ?_ h
              refine Mir.region fun e h => ?_
              simp only [↓reduceIte, reduceCtorEq, nA, nS, nM, nE, nL, nT, nB, iT, iN, iE, and_self, SR, SV, encApiBlock, encApiMotion, encR45Length]
              cases h
              simp only [↓reduceIte, reduceCtorEq, nA, nE, nL, and_self, and_true, true_and, SL, encApiBlock, encApiMotion, encR45Length, Tryd.results6, qr178]
        · intro v178 qd179
          refine Mir.seqK ?_
          refine Mir.region fun e h => ?_
          simp only [↓reduceIte, reduceCtorEq, nA, nS, nM, nE, nL, nT, nB, iT, iN, iE, and_self, SR, SV, qd179, encApiBlock, encApiMotion, encR45Length]
          refine Mir.use (e := e) ?_ h
          refine Mir.seqK ?_
          refine Mir.condF rfl ?_
          refine Mir.exit fun e h => ?_
          cases h
          simp only [↓reduceIte, reduceCtorEq, nA, nE, nL, and_self, and_true, true_and, SL, encApiBlock, encApiMotion, encR45Length, Tryd.results6]
      · intro v147
        refine Mir.toK ?_
        refine Mir.seqK ?_
        refine Mir.joinO (fun v188 : Bool => [U, U, U, U, .d (.bool v188), U, U, U, U, U, U, U, U, U, U, U, U, U, U, U, U, U, U, U, U, U, U, U, U, U, U, U, U, U, U, U, U, U, U, U, U, U, U, U, U, U, U, U, U, U, U, U, U, U, U, U, U, U, U, U, U, U, U, U, U, U, U, U, U, U, U, U, U, U, U, U, U, U, U, U, U, U, U, U, U, U, U, U, U, U, U, U, U, U, U, U, U, U, U]) (fun v188 : Bool => ⟨[[.d (.int .i64 a1.Table.Work.e0.X), .d (.int .i64 a1.Table.Work.e0.Y), .d (.int .i64 a1.Table.Work.e0.Z), .d (.int .i64 a1.Table.Work.e1.X), .d (.int .i64 a1.Table.Work.e1.Y), .d (.int .i64 a1.Table.Work.e1.Z), .d (.int .i64 a1.Table.Work.e2.X), .d (.int .i64 a1.Table.Work.e2.Y), .d (.int .i64 a1.Table.Work.e2.Z), .d (.int .i64 a1.Table.Work.e3.X), .d (.int .i64 a1.Table.Work.e3.Y), .d (.int .i64 a1.Table.Work.e3.Z), .d (.int .i64 a1.Table.Work.e4.X), .d (.int .i64 a1.Table.Work.e4.Y), .d (.int .i64 a1.Table.Work.e4.Z), .d (.int .i64 a1.Table.Work.e5.X), .d (.int .i64 a1.Table.Work.e5.Y), .d (.int .i64 a1.Table.Work.e5.Z), .d (.list (List.map encR45Length a1.Table.Lengths)), .d (.int .i64 a1.From.X), .d (.int .i64 a1.From.Y), .d (.int .i64 a1.From.Z)], [.d (.int .i64 y108.2.Block), .d (.int .i64 y108.2.Code)]], []⟩) (fun _ => rfl) ?_ ?_
        · refine Mir.bind fun y186 hy201 => ?_
          refine Mir.ite (fun hb202 => ?_) (fun hb202 => ?_)
          · refine Mir.ite (fun hb203 => ?_) (fun hb203 => ?_)
            · refine Mir.regionD [] (by kernel_rfl) fun e h => ?_
              simp only [↓reduceIte, reduceCtorEq, nA, nS, nM, nE, nL, nT, nB, iT, iN, iE, and_self, SR, SV, sepL_nil, sepL_cons, sepV_ne, sepV_d, sepV_i, true_and, Bool.and_self, fld_30_1, sz_24, ag_24, encApiBlock, encApiMotion, encR45Length, hb202, hb203]
              refine Spec.by (inp_Connected_spec hy201) (by simp only [↓reduceIte, reduceCtorEq, nA, nE, nL, and_self, and_true, true_and, SL, encApiBlock, encApiMotion, encR45Length, hb202, hb203]) ?_
              simp only [↓reduceIte, reduceCtorEq, nA, nS, nM, nE, nL, nT, nB, iT, iN, iE, and_self, SR, SV, sepL_nil, sepL_cons, sepV_ne, sepV_d, sepV_i, true_and, Bool.and_self, und_47, encApiBlock, encApiMotion, encR45Length, hb202, hb203]
              cases h
              simp only [↓reduceIte, reduceCtorEq, nA, nE, nL, and_self, and_true, true_and, SL, encApiBlock, encApiMotion, encR45Length, hb202, hb203]
            · refine Mir.bind fun y187 hy204 => ?_
              refine Mir.regionD [] (by kernel_rfl) fun e h => ?_
              simp only [↓reduceIte, reduceCtorEq, nA, nS, nM, nE, nL, nT, nB, iT, iN, iE, and_self, SR, SV, sepL_nil, sepL_cons, sepV_ne, sepV_d, sepV_i, true_and, Bool.and_self, fld_30_1, sz_24, ag_24, encApiBlock, encApiMotion, encR45Length, hb202, hb203]
              refine Spec.by (inp_Connected_spec hy201) (by simp only [↓reduceIte, reduceCtorEq, nA, nE, nL, and_self, and_true, true_and, SL, encApiBlock, encApiMotion, encR45Length, hb202, hb203]) ?_
              simp only [↓reduceIte, reduceCtorEq, nA, nS, nM, nE, nL, nT, nB, iT, iN, iE, and_self, SR, SV, sepL_nil, sepL_cons, sepV_ne, sepV_d, sepV_i, true_and, Bool.and_self, und_47, fld_30_1, sz_24, ag_24, encApiBlock, encApiMotion, encR45Length, hb202, hb203]
              refine Spec.by (inp_End_spec hy204) (by simp only [↓reduceIte, reduceCtorEq, nA, nE, nL, and_self, and_true, true_and, SL, encApiBlock, encApiMotion, encR45Length, hb202, hb203]) ?_
              simp only [↓reduceIte, reduceCtorEq, nA, nS, nM, nE, nL, nT, nB, iT, iN, iE, and_self, SR, SV, sepL_nil, sepL_cons, sepV_ne, sepV_d, sepV_i, true_and, Bool.and_self, fld_30_1, sz_24, ag_24, gE_24, encApiBlock, encApiMotion, encR45Length, hb202, hb203]
              cases h
              simp only [↓reduceIte, reduceCtorEq, nA, nE, nL, and_self, and_true, true_and, SL, encApiBlock, encApiMotion, encR45Length, hb202, hb203]
          · refine Mir.regionD [] (by kernel_rfl) fun e h => ?_
            simp only [↓reduceIte, reduceCtorEq, nA, nS, nM, nE, nL, nT, nB, iT, iN, iE, and_self, SR, SV, sepL_nil, sepL_cons, sepV_ne, sepV_d, sepV_i, true_and, Bool.and_self, fld_30_1, sz_24, ag_24, encApiBlock, encApiMotion, encR45Length, hb202]
            refine Spec.by (inp_Connected_spec hy201) (by simp only [↓reduceIte, reduceCtorEq, nA, nE, nL, and_self, and_true, true_and, SL, encApiBlock, encApiMotion, encR45Length, hb202]) ?_
            simp only [↓reduceIte, reduceCtorEq, nA, nS, nM, nE, nL, nT, nB, iT, iN, iE, and_self, SR, SV, sepL_nil, sepL_cons, sepV_ne, sepV_d, sepV_i, true_and, Bool.and_self, encApiBlock, encApiMotion, encR45Length, hb202]
            cases h
            simp only [↓reduceIte, reduceCtorEq, nA, nE, nL, and_self, and_true, true_and, SL, encApiBlock, encApiMotion, encR45Length, hb202]
        · intro v188
          refine Mir.toK ?_
          refine Mir.ret fun e h => ?_
          cases h
          simp only [↓reduceIte, reduceCtorEq, nA, nE, nL, and_self, and_true, true_and, SL, encApiBlock, encApiMotion, encR45Length, Tryd.results6]

theorem co_4 : Tryd.prog.cellsOf 4 = 1 := by kernel_rfl
theorem opn_4 : Opn Tryd.prog 4 eBool inBool := Opn.bool Tryd.underlying4
theorem co_5 : Tryd.prog.cellsOf 5 = 1 := by kernel_rfl
theorem opn_5 : Opn Tryd.prog 5 (eInt .u8) (inInt .u8) := Opn.int Tryd.underlying5
theorem co_2 : Tryd.prog.cellsOf 2 = 1 := by kernel_rfl
theorem opn_2 : Opn Tryd.prog 2 (eInt .i64) (inInt .i64) := Opn.int Tryd.underlying2
def inApiWord (x : ApiWord) : Prop := (inInt .u8) x.Letter ∧ (inInt .i64) x.Value
theorem co_38 : Tryd.prog.cellsOf 38 = 2 := by kernel_rfl
theorem opn_38 : Opn Tryd.prog 38 encApiWord inApiWord := by
  intro w H enc fuel cs x h
  obtain ⟨xs, n, _, _, hl, hxl, hf⟩ := DataW.trod_struct Tryd.underlying38 h
  have hxl' : xs.length = 2 := hxl
  obtain ⟨s0, r0, o0⟩ := Opn.field hf 0 5 0 1 rfl co_5 (by omega) opn_5
  obtain ⟨s1, r1, o1⟩ := Opn.field hf 1 2 1 1 rfl co_2 (by omega) opn_2
  refine ⟨⟨s0, s1⟩, ?_, o0, o1⟩
  exact (RelC.cut 0 1 r0 rfl (RelC.cut 1 1 r1 rfl (RelC.nil (n := 2) (by rw [hl, co_38]; exact Nat.le_refl _))))
theorem co_40 : Tryd.prog.cellsOf 40 = 1 := by kernel_rfl
theorem opn_40 : Opn Tryd.prog 40 (eList encApiWord) (inList inApiWord) := Opn.slice Tryd.underlying40 opn_38 (fun _ => (rfl : _ = 2).trans co_38.symm) (by rw [co_38]; decide)
theorem co_9 : Tryd.prog.cellsOf 9 = 1 := by kernel_rfl
theorem opn_9 : Opn Tryd.prog 9 eStr inStr := Opn.str Tryd.underlying9
def inApiBlock (x : ApiBlock) : Prop := inBool x.Skip ∧ (inList inApiWord) x.Words ∧ inStr x.Comment
theorem co_42 : Tryd.prog.cellsOf 42 = 3 := by kernel_rfl
theorem opn_42 : Opn Tryd.prog 42 encApiBlock inApiBlock := by
  intro w H enc fuel cs x h
  obtain ⟨xs, n, _, _, hl, hxl, hf⟩ := DataW.trod_struct Tryd.underlying42 h
  have hxl' : xs.length = 3 := hxl
  obtain ⟨s0, r0, o0⟩ := Opn.field hf 0 4 0 1 rfl co_4 (by omega) opn_4
  obtain ⟨s1, r1, o1⟩ := Opn.field hf 1 40 1 1 rfl co_40 (by omega) opn_40
  obtain ⟨s2, r2, o2⟩ := Opn.field hf 2 9 2 1 rfl co_9 (by omega) opn_9
  refine ⟨⟨s0, s1, s2⟩, ?_, o0, o1, o2⟩
  exact (RelC.cut 0 1 r0 rfl (RelC.cut 1 1 r1 rfl (RelC.cut 2 1 r2 rfl (RelC.nil (n := 3) (by rw [hl, co_42]; exact Nat.le_refl _)))))
theorem co_43 : Tryd.prog.cellsOf 43 = 1 := by kernel_rfl
theorem opn_43 : Opn Tryd.prog 43 (eList encApiBlock) (inList inApiBlock) := Opn.slice Tryd.underlying43 opn_42 (fun _ => (rfl : _ = 3).trans co_42.symm) (by rw [co_42]; decide)
def inApiPos (x : ApiPos) : Prop := (inInt .i64) x.X ∧ (inInt .i64) x.Y ∧ (inInt .i64) x.Z
theorem co_24 : Tryd.prog.cellsOf 24 = 3 := by kernel_rfl
theorem opn_24 : Opn Tryd.prog 24 encApiPos inApiPos := by
  intro w H enc fuel cs x h
  obtain ⟨xs, n, _, _, hl, hxl, hf⟩ := DataW.trod_struct Tryd.underlying24 h
  have hxl' : xs.length = 3 := hxl
  obtain ⟨s0, r0, o0⟩ := Opn.field hf 0 2 0 1 rfl co_2 (by omega) opn_2
  obtain ⟨s1, r1, o1⟩ := Opn.field hf 1 2 1 1 rfl co_2 (by omega) opn_2
  obtain ⟨s2, r2, o2⟩ := Opn.field hf 2 2 2 1 rfl co_2 (by omega) opn_2
  refine ⟨⟨s0, s1, s2⟩, ?_, o0, o1, o2⟩
  exact (RelC.cut 0 1 r0 rfl (RelC.cut 1 1 r1 rfl (RelC.cut 2 1 r2 rfl (RelC.nil (n := 3) (by rw [hl, co_24]; exact Nat.le_refl _)))))
def inArr6ApiPos (x : Arr6ApiPos) : Prop := inApiPos x.e0 ∧ inApiPos x.e1 ∧ inApiPos x.e2 ∧ inApiPos x.e3 ∧ inApiPos x.e4 ∧ inApiPos x.e5
theorem co_25 : Tryd.prog.cellsOf 25 = 18 := by kernel_rfl
theorem opn_25 : Opn Tryd.prog 25 encArr6ApiPos inArr6ApiPos := by
  intro w H enc fuel cs x h
  obtain ⟨xs, n, _, _, hl, hxl, hf⟩ := DataW.trod_array Tryd.underlying25 h
  obtain ⟨s0, r0, o0⟩ := Opn.elem hf 0 3 co_24 (by omega) hxl opn_24
  obtain ⟨s1, r1, o1⟩ := Opn.elem hf 1 3 co_24 (by omega) hxl opn_24
  obtain ⟨s2, r2, o2⟩ := Opn.elem hf 2 3 co_24 (by omega) hxl opn_24
  obtain ⟨s3, r3, o3⟩ := Opn.elem hf 3 3 co_24 (by omega) hxl opn_24
  obtain ⟨s4, r4, o4⟩ := Opn.elem hf 4 3 co_24 (by omega) hxl opn_24
  obtain ⟨s5, r5, o5⟩ := Opn.elem hf 5 3 co_24 (by omega) hxl opn_24
  refine ⟨⟨s0, s1, s2, s3, s4, s5⟩, ?_, o0, o1, o2, o3, o4, o5⟩
  exact (RelC.cut 0 3 r0 rfl (RelC.cut 3 3 r1 rfl (RelC.cut 6 3 r2 rfl (RelC.cut 9 3 r3 rfl (RelC.cut 12 3 r4 rfl (RelC.cut 15 3 r5 rfl (RelC.nil (n := 18) (by rw [hl, co_25]; exact Nat.le_refl _))))))))
def inR45Length (x : R45Length) : Prop := (inInt .i64) x.Number ∧ (inInt .i64) x.Length
theorem co_93 : Tryd.prog.cellsOf 93 = 2 := by kernel_rfl
theorem opn_93 : Opn Tryd.prog 93 encR45Length inR45Length := by
  intro w H enc fuel cs x h
  obtain ⟨xs, n, _, _, hl, hxl, hf⟩ := DataW.trod_struct Tryd.underlying93 h
  have hxl' : xs.length = 2 := hxl
  obtain ⟨s0, r0, o0⟩ := Opn.field hf 0 2 0 1 rfl co_2 (by omega) opn_2
  obtain ⟨s1, r1, o1⟩ := Opn.field hf 1 2 1 1 rfl co_2 (by omega) opn_2
  refine ⟨⟨s0, s1⟩, ?_, o0, o1⟩
  exact (RelC.cut 0 1 r0 rfl (RelC.cut 1 1 r1 rfl (RelC.nil (n := 2) (by rw [hl, co_93]; exact Nat.le_refl _))))
theorem co_26 : Tryd.prog.cellsOf 26 = 1 := by kernel_rfl
theorem opn_26 : Opn Tryd.prog 26 (eList encR45Length) (inList inR45Length) := Opn.slice Tryd.underlying26 opn_93 (fun _ => (rfl : _ = 2).trans co_93.symm) (by rw [co_93]; decide)
def inR45Table (x : R45Table) : Prop := inArr6ApiPos x.Work ∧ (inList inR45Length) x.Lengths
theorem co_28 : Tryd.prog.cellsOf 28 = 19 := by kernel_rfl
theorem opn_28 : Opn Tryd.prog 28 encR45Table inR45Table := by
  intro w H enc fuel cs x h
  obtain ⟨xs, n, _, _, hl, hxl, hf⟩ := DataW.trod_struct Tryd.underlying28 h
  have hxl' : xs.length = 2 := hxl
  obtain ⟨s0, r0, o0⟩ := Opn.field hf 0 25 0 18 rfl co_25 (by omega) opn_25
  obtain ⟨s1, r1, o1⟩ := Opn.field hf 1 26 18 1 rfl co_26 (by omega) opn_26
  refine ⟨⟨s0, s1⟩, ?_, o0, o1⟩
  exact (RelC.cut 0 18 r0 rfl (RelC.cut 18 1 r1 rfl (RelC.nil (n := 19) (by rw [hl, co_28]; exact Nat.le_refl _))))
def inL47Setting (x : L47Setting) : Prop := inR45Table x.Table ∧ inApiPos x.From
theorem co_30 : Tryd.prog.cellsOf 30 = 22 := by kernel_rfl
theorem opn_30 : Opn Tryd.prog 30 encL47Setting inL47Setting := by
  intro w H enc fuel cs x h
  obtain ⟨xs, n, _, _, hl, hxl, hf⟩ := DataW.trod_struct Tryd.underlying30 h
  have hxl' : xs.length = 2 := hxl
  obtain ⟨s0, r0, o0⟩ := Opn.field hf 0 28 0 19 rfl co_28 (by omega) opn_28
  obtain ⟨s1, r1, o1⟩ := Opn.field hf 1 24 19 3 rfl co_24 (by omega) opn_24
  refine ⟨⟨s0, s1⟩, ?_, o0, o1⟩
  exact (RelC.cut 0 19 r0 rfl (RelC.cut 19 3 r1 rfl (RelC.nil (n := 22) (by rw [hl, co_30]; exact Nat.le_refl _))))
end Go.Proofs.YtlcfgpjgjdjpoaaDoor
