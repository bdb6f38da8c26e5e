/-
  Mirrors of functions, written by wip/mir.py.
-/
import Derived.Test.YtlcfgpjgjdjpoaaDoorGf
import Derived.Test.YtlcfgpjgjdjpoaaDoorTy
import Derived.Test.YtlcfgpjgjdjpoaaDoorGo
import Derived.Test.YtlcfgpjgjdjpoaaDoorMB
import Derived.Test.YtlcfgpjgjdjpoaaDoorMH
namespace Go.Proofs.YtlcfgpjgjdjpoaaDoor
open Go.RowKit
open Nat renaming reduceAdd → nA, reduceSub → nS, reduceMul → nM, reduceEqDiff → nE, reduceLeDiff → nL, reduceLT → nT, reduceBEq → nB
open Int renaming reduceLT → iT, reduceToNat → iN, reduceEq → iE
set_option linter.unusedVariables false
set_option linter.unusedSimpArgs false
set_option maxRecDepth 100000

structure Arr3I32 where
  e0 : Int
  e1 : Int
  e2 : Int
  deriving DecidableEq
def encArr3I32 (x : Arr3I32) : List D := [.int .i32 x.e0, .int .i32 x.e1, .int .i32 x.e2]
theorem al_Arr3I32 {l : List Arr3I32} : (List.map encArr3I32 l).all (fun x => x.length == 3) = true := by simp [List.all_eq_true, encArr3I32]
def slices_Clone_api_Block_api_Block (a0 : List ApiBlock) : Option (List ApiBlock) := guardO (okLen a0.length) (some a0)
theorem slices_Clone_api_Block_api_Block_n {c0 : Nat} {y : List ApiBlock} (h : (some []) = some y) : Spec gP 19 [.d (.other (.slice none 0 c0))] (.d (.list (List.map encApiBlock y))) := by
  refine spec_mir Tryd.func19 rfl (by kernel_rfl) (by kernel_rfl) (fun y : List ApiBlock => .d (.list (List.map encApiBlock y))) ?_ h
  simp only [List.replicate, List.length, nS, nA, Tryd.ntmps19, SV]
  refine Mir.seqK ?_
  refine Mir.region fun e h => ?_
  simp only [↓reduceIte, reduceCtorEq, nA, nS, nM, nE, nL, nT, nB, iT, iN, iE, and_self, SR, SV, encApiBlock]
  refine Mir.use (e := e) ?_ h
  refine Mir.seqK ?_
  refine Mir.seqK ?_
  refine Mir.region fun e h => ?_
  simp only [↓reduceIte, reduceCtorEq, nA, nS, nM, nE, nL, nT, nB, iT, iN, iE, and_self, SR, SV, und_43, encApiBlock]
  refine Mir.use (e := e) ?_ h
  refine Mir.condT rfl ?_
  refine Mir.seqK ?_
  refine Mir.region fun e h => ?_
  simp only [↓reduceIte, reduceCtorEq, nA, nS, nM, nE, nL, nT, nB, iT, iN, iE, and_self, SR, SV, encApiBlock]
  refine Mir.use (e := e) ?_ h
  refine Mir.ret fun e h => ?_
  cases h
  simp only [↓reduceIte, reduceCtorEq, nA, nE, nL, and_self, and_true, true_and, SL, encApiBlock, Tryd.results19]
theorem slices_Clone_api_Block_api_Block_o {p0 : Addr} {c0 : Nat} {y : List ApiBlock} (h : (some []) = some y) : Spec gP 19 [.d (.other (.slice (some p0) 0 c0))] (.d (.list (List.map encApiBlock y))) := by
  refine spec_mir Tryd.func19 rfl (by kernel_rfl) (by kernel_rfl) (fun y : List ApiBlock => .d (.list (List.map encApiBlock y))) ?_ h
  simp only [List.replicate, List.length, nS, nA, Tryd.ntmps19, SV]
  refine Mir.seqK ?_
  refine Mir.region fun e h => ?_
  simp only [↓reduceIte, reduceCtorEq, nA, nS, nM, nE, nL, nT, nB, iT, iN, iE, and_self, SR, SV, encApiBlock]
  refine Mir.use (e := e) ?_ h
  refine Mir.seqK ?_
  refine Mir.seqK ?_
  refine Mir.region fun e h => ?_
  simp only [↓reduceIte, reduceCtorEq, nA, nS, nM, nE, nL, nT, nB, iT, iN, iE, and_self, SR, SV, und_43, encApiBlock]
  refine Mir.use (e := e) ?_ h
  refine Mir.condF rfl ?_
  refine Mir.skip ?_
  refine Mir.toK ?_
  refine Mir.seqK ?_
  refine Mir.region fun e h => ?_
  simp only [↓reduceIte, reduceCtorEq, nA, nS, nM, nE, nL, nT, nB, iT, iN, iE, and_self, SR, SV, und_43, sz_42, zero_42, (nr rfl : okLen 0 = true), app_43, al_ApiBlock, encApiBlock]
  refine Mir.use (e := e) ?_ h
  refine Mir.ret fun e h => ?_
  cases h
  simp only [↓reduceIte, reduceCtorEq, nA, nE, nL, and_self, and_true, true_and, SL, encApiBlock, Tryd.results19]
theorem slices_Clone_api_Block_api_Block_c {x0 : ApiBlock} {l0 : List ApiBlock} {y : List ApiBlock} (h : (guardO (okLen ((x0 :: l0).length)) (   some (x0 :: l0))) = some y) : Spec gP 19 [.d (.list (List.map encApiBlock (x0 :: l0)))] (.d (.list (List.map encApiBlock y))) := by
  refine spec_mir Tryd.func19 rfl (by kernel_rfl) (by kernel_rfl) (fun y : List ApiBlock => .d (.list (List.map encApiBlock y))) ?_ h
  simp only [List.replicate, List.length, nS, nA, Tryd.ntmps19, SV]
  refine Mir.seqK ?_
  refine Mir.region fun e h => ?_
  simp only [↓reduceIte, reduceCtorEq, nA, nS, nM, nE, nL, nT, nB, iT, iN, iE, and_self, SR, SV, encApiBlock]
  refine Mir.use (e := e) ?_ h
  refine Mir.seqK ?_
  refine Mir.seqK ?_
  refine Mir.region fun e h => ?_
  simp only [↓reduceIte, reduceCtorEq, nA, nS, nM, nE, nL, nT, nB, iT, iN, iE, and_self, SR, SV, und_43, encApiBlock]
  refine Mir.use (e := e) ?_ h
  refine Mir.condF rfl ?_
  refine Mir.skip ?_
  refine Mir.toK ?_
  refine Mir.seqK ?_
  refine Mir.guard fun q1 => ?_
  refine Mir.region fun e h => ?_
  simp only [↓reduceIte, reduceCtorEq, nA, nS, nM, nE, nL, nT, nB, iT, iN, iE, and_self, SR, SV, und_43, sz_42, zero_42, (nr rfl : okLen 0 = true), app_43, al_ApiBlock, Nat.zero_lt_succ, Nat.add_eq_zero_iff, q1, encApiBlock]
  refine Mir.use (e := e) ?_ h
  refine Mir.ret fun e h => ?_
  cases h
  simp only [↓reduceIte, reduceCtorEq, nA, nE, nL, and_self, and_true, true_and, SL, encApiBlock, Tryd.results19]
theorem slices_Clone_api_Block_api_Block_spec {a0 : List ApiBlock} {y : List ApiBlock} (h : slices_Clone_api_Block_api_Block a0 = some y) : Spec gP 19 [.d (.list (List.map encApiBlock a0))] (.d (.list (List.map encApiBlock y))) := by
  obtain ⟨hl, h⟩ := guardO_some h
  cases h
  cases a0 with
  | nil =>
    refine Spec.nilcase fun A c => ?_
    cases A with
    | none => exact slices_Clone_api_Block_api_Block_n rfl
    | some p => exact slices_Clone_api_Block_api_Block_o rfl
  | cons x l => exact slices_Clone_api_Block_api_Block_c (by simp only [guardO, hl])

def l47_InterpreterMoved (a0 : (List ApiBlock)) (a1 : L47Setting) (a2 : Arr3I32) : Option Bool :=
  bindO (bindO (l47_awake ) fun (y101 : Bool) =>
      if y101 = true then
        bindO (l47_few a0 a1) fun (y102 : Bool) =>
        if y102 = true then
          bindO (r45_Valid a1.Table) fun (y103 : Int) =>
          if (y103 != 0) = true then
            some true
          else
            bindO (r47_InRange a1.From) fun (y104 : Bool) =>
            some (!y104)
        else
          some true
      else
        some true) fun (v105 : Bool) =>
  if v105 = true then
    bindO (l47_awake ) fun (y107 : Bool) =>
    some y107
  else
    bindX (bindO (l47_plus a1.Table.Work.e0 (ApiPos.mk (IntKind.i64.wrap (Int.tmod a2.e0 1000000)) (IntKind.i64.wrap (Int.tmod a2.e1 1000000)) (IntKind.i64.wrap (Int.tmod a2.e2 1000000)))) fun (y135 : ApiPos) =>
        bindO (r47_InRange y135) fun (y136 : Bool) =>
        if (!y136) = true then
          some (.ret true)
        else
          bindO (l47_plus a1.Table.Work.e1 (ApiPos.mk (IntKind.i64.wrap (Int.tmod a2.e0 1000000)) (IntKind.i64.wrap (Int.tmod a2.e1 1000000)) (IntKind.i64.wrap (Int.tmod a2.e2 1000000)))) fun (y139 : ApiPos) =>
          bindO (r47_InRange y139) fun (y140 : Bool) =>
          if (!y140) = true then
            some (.ret true)
          else
            bindO (l47_plus a1.Table.Work.e2 (ApiPos.mk (IntKind.i64.wrap (Int.tmod a2.e0 1000000)) (IntKind.i64.wrap (Int.tmod a2.e1 1000000)) (IntKind.i64.wrap (Int.tmod a2.e2 1000000)))) fun (y143 : ApiPos) =>
            bindO (r47_InRange y143) fun (y144 : Bool) =>
            if (!y144) = true then
              some (.ret true)
            else
              bindO (l47_plus a1.Table.Work.e3 (ApiPos.mk (IntKind.i64.wrap (Int.tmod a2.e0 1000000)) (IntKind.i64.wrap (Int.tmod a2.e1 1000000)) (IntKind.i64.wrap (Int.tmod a2.e2 1000000)))) fun (y147 : ApiPos) =>
              bindO (r47_InRange y147) fun (y148 : Bool) =>
              if (!y148) = true then
                some (.ret true)
              else
                bindO (l47_plus a1.Table.Work.e4 (ApiPos.mk (IntKind.i64.wrap (Int.tmod a2.e0 1000000)) (IntKind.i64.wrap (Int.tmod a2.e1 1000000)) (IntKind.i64.wrap (Int.tmod a2.e2 1000000)))) fun (y151 : ApiPos) =>
                bindO (r47_InRange y151) fun (y152 : Bool) =>
                if (!y152) = true then
                  some (.ret true)
                else
                  bindO (l47_plus a1.Table.Work.e5 (ApiPos.mk (IntKind.i64.wrap (Int.tmod a2.e0 1000000)) (IntKind.i64.wrap (Int.tmod a2.e1 1000000)) (IntKind.i64.wrap (Int.tmod a2.e2 1000000)))) fun (y155 : ApiPos) =>
                  bindO (r47_InRange y155) fun (y156 : Bool) =>
                  if (!y156) = true then
                    some (.ret true)
                  else
                    some (.go (R45Table.mk (Arr6ApiPos.mk y135 y139 y143 y147 y151 y155) a1.Table.Lengths))) fun (v132 : R45Table) =>
    bindO (l47_plus a1.From (ApiPos.mk (IntKind.i64.wrap (Int.tmod a2.e0 1000000)) (IntKind.i64.wrap (Int.tmod a2.e1 1000000)) (IntKind.i64.wrap (Int.tmod a2.e2 1000000)))) fun (y157 : ApiPos) =>
    bindO (r47_InRange y157) fun (y158 : Bool) =>
    if (!y158) = true then
      some true
    else
      bindO (slices_Clone_api_Block_api_Block a0) fun (y159 : (List ApiBlock)) =>
      bindO (l47_theirs a1.Table) fun (y160 : TableTable) =>
      bindO (inp_Blocks y159 y160 a1.From) fun (y161 : (List ApiMotion) × InterpreterAlarm) =>
      bindO (slices_Clone_api_Block_api_Block a0) fun (y162 : (List ApiBlock)) =>
      bindO (l47_theirs v132) fun (y163 : TableTable) =>
      bindO (l47_plus a1.From (ApiPos.mk (IntKind.i64.wrap (Int.tmod a2.e0 1000000)) (IntKind.i64.wrap (Int.tmod a2.e1 1000000)) (IntKind.i64.wrap (Int.tmod a2.e2 1000000)))) fun (y164 : ApiPos) =>
      bindO (inp_Blocks y162 y163 y164) fun (y165 : (List ApiMotion) × InterpreterAlarm) =>
      if ((y161.2.Code == 11) || (y165.2.Code == 11)) = true then
        some true
      else
        if (!((y161.2.Block == y165.2.Block) && (y161.2.Code == y165.2.Code)) || ((y161.1.length : Int) != (y165.1.length : Int))) = true then
          some false
        else
          bindX (guardO (okIdx y161.1) (
              rangeX (fun (i234 : Nat) (e236 : ApiMotion) (v235 : Unit) =>
                bindO (l47_plus e236.From (ApiPos.mk (IntKind.i64.wrap (Int.tmod a2.e0 1000000)) (IntKind.i64.wrap (Int.tmod a2.e1 1000000)) (IntKind.i64.wrap (Int.tmod a2.e2 1000000)))) fun (y240 : ApiPos) =>
                bindO (l47_plus e236.To (ApiPos.mk (IntKind.i64.wrap (Int.tmod a2.e0 1000000)) (IntKind.i64.wrap (Int.tmod a2.e1 1000000)) (IntKind.i64.wrap (Int.tmod a2.e2 1000000)))) fun (y241 : ApiPos) =>
                bindO (gt y165.1 (i234 : Int)) fun (e242 : ApiMotion) =>
                if (!((y240.X == e242.From.X) && ((y240.Y == e242.From.Y) && ((y240.Z == e242.From.Z) && ((y241.X == e242.To.X) && ((y241.Y == e242.To.Y) && ((y241.Z == e242.To.Z) && ((e236.Rate == e242.Rate) && ((e236.Tool == e242.Tool) && (e236.Block == e242.Block)))))))))) = true then
                  some (.ret (.ret false))
                else
                  some (.go ())) (fun (v235 : Unit) => some (.go ())) y161.1 0 ())) fun (v204 : Unit) =>
          some true
set_option maxHeartbeats 8000000 in
theorem l47_InterpreterMoved_spec {a0 : (List ApiBlock)} {a1 : L47Setting} {a2 : Arr3I32} {y : Bool} (h : l47_InterpreterMoved a0 a1 a2 = some y) : Spec gP 4 [.d (.list (List.map encApiBlock a0)), .agg [.d (.int .i64 a1.Table.Work.e0.X), .d (.int .i64 a1.Table.Work.e0.Y), .d (.int .i64 a1.Table.Work.e0.Z), .d (.int .i64 a1.Table.Work.e1.X), .d (.int .i64 a1.Table.Work.e1.Y), .d (.int .i64 a1.Table.Work.e1.Z), .d (.int .i64 a1.Table.Work.e2.X), .d (.int .i64 a1.Table.Work.e2.Y), .d (.int .i64 a1.Table.Work.e2.Z), .d (.int .i64 a1.Table.Work.e3.X), .d (.int .i64 a1.Table.Work.e3.Y), .d (.int .i64 a1.Table.Work.e3.Z), .d (.int .i64 a1.Table.Work.e4.X), .d (.int .i64 a1.Table.Work.e4.Y), .d (.int .i64 a1.Table.Work.e4.Z), .d (.int .i64 a1.Table.Work.e5.X), .d (.int .i64 a1.Table.Work.e5.Y), .d (.int .i64 a1.Table.Work.e5.Z), .d (.list (List.map encR45Length a1.Table.Lengths)), .d (.int .i64 a1.From.X), .d (.int .i64 a1.From.Y), .d (.int .i64 a1.From.Z)], .agg [.d (.int .i32 a2.e0), .d (.int .i32 a2.e1), .d (.int .i32 a2.e2)]] (.d (.bool y)) := by
  refine spec_mir Tryd.func4 rfl (by kernel_rfl) (by kernel_rfl) (fun y : Bool => .d (.bool y)) ?_ h
  unfold l47_InterpreterMoved
  simp only [List.replicate, List.length, nS, nA, Tryd.ntmps4, SV]
  refine Mir.seqK ?_
  refine Mir.region fun e h => ?_
  simp only [↓reduceIte, reduceCtorEq, nA, nS, nM, nE, nL, nT, nB, iT, iN, iE, and_self, SR, SV, encApiBlock, encApiMotion, encR45Length]
  refine Mir.use (e := e) ?_ h
  refine Mir.seqK ?_
  refine Mir.seqK ?_
  refine Mir.joinO (fun v105 : Bool => [.d (.list (List.map encApiBlock a0)), U, U, U, .ptr 0 0, .ptr 1 0, U, U, U, U, U, U, U, U, U, U, U, U, U, U, U, U, U, U, U, U, U, U, U, U, U, U, U, U, U, .d (.bool v105), U, U, U, U, U, U, U, U, U, U, U, U, U, U, U, U, U, U, U, U, U, U, U, U, U, U, U, U, U, U, U, U, U, U, U, U, U, U, U, U, U, U, U, U, U, U, U, U, U, U, U, U, U, U, U, U, U, U, U, U, U, U, U, U, U, U, U, U, U, U, U, U, U, U, U, U, U, U, U, U, U, U, U, U, U, U, U, U, U, U, U, U, U, U, U, U, U, U, U, U, U, U, U, U, U, U]) (fun v105 : Bool => ⟨[[.d (.int .i64 a1.Table.Work.e0.X), .d (.int .i64 a1.Table.Work.e0.Y), .d (.int .i64 a1.Table.Work.e0.Z), .d (.int .i64 a1.Table.Work.e1.X), .d (.int .i64 a1.Table.Work.e1.Y), .d (.int .i64 a1.Table.Work.e1.Z), .d (.int .i64 a1.Table.Work.e2.X), .d (.int .i64 a1.Table.Work.e2.Y), .d (.int .i64 a1.Table.Work.e2.Z), .d (.int .i64 a1.Table.Work.e3.X), .d (.int .i64 a1.Table.Work.e3.Y), .d (.int .i64 a1.Table.Work.e3.Z), .d (.int .i64 a1.Table.Work.e4.X), .d (.int .i64 a1.Table.Work.e4.Y), .d (.int .i64 a1.Table.Work.e4.Z), .d (.int .i64 a1.Table.Work.e5.X), .d (.int .i64 a1.Table.Work.e5.Y), .d (.int .i64 a1.Table.Work.e5.Z), .d (.list (List.map encR45Length a1.Table.Lengths)), .d (.int .i64 a1.From.X), .d (.int .i64 a1.From.Y), .d (.int .i64 a1.From.Z)], [.d (.int .i32 a2.e0), .d (.int .i32 a2.e1), .d (.int .i32 a2.e2)]], []⟩) (fun _ => rfl) ?_ ?_
  ·refine Mir.bind fun y101 hy1 => ?_
   refine Mir.ite (fun hb2 => ?_) (fun hb2 => ?_)
   ·refine Mir.bind fun y102 hy3 => ?_
    refine Mir.ite (fun hb4 => ?_) (fun hb4 => ?_)
    ·refine Mir.bind fun y103 hy5 => ?_
     refine Mir.ite (fun hb6 => ?_) (fun hb6 => ?_)
     ·refine Mir.region fun e h => ?_
      simp only [↓reduceIte, reduceCtorEq, nA, nS, nM, nE, nL, nT, nB, iT, iN, iE, and_self, SR, SV, encApiBlock, encR45Length, hb2, hb4, hb6]
      refine SpecS.by (l47_awake_spec hy1) (rfl) ?_
      simp only [↓reduceIte, reduceCtorEq, nA, nS, nM, nE, nL, nT, nB, iT, iN, iE, and_self, SR, SV, ag_30, sz_30, encApiBlock, encR45Length, hb2, hb4, hb6]
      refine SpecS.by (l47_few_spec hy3) (by simp only [↓reduceIte, reduceCtorEq, nA, nE, nL, and_self, and_true, true_and, SL, encApiBlock, encR45Length, hb2, hb4, hb6]) ?_
      simp only [↓reduceIte, reduceCtorEq, nA, nS, nM, nE, nL, nT, nB, iT, iN, iE, and_self, SR, SV, fld_30_0, sz_28, ag_28, encApiBlock, encR45Length, hb2, hb4, hb6]
      refine SpecS.by (r45_Valid_spec hy5) (by simp only [↓reduceIte, reduceCtorEq, nA, nE, nL, and_self, and_true, true_and, SL, encApiBlock, encR45Length, hb2, hb4, hb6]) ?_
      simp only [↓reduceIte, reduceCtorEq, nA, nS, nM, nE, nL, nT, nB, iT, iN, iE, and_self, SR, SV, encApiBlock, encR45Length, hb2, hb4, hb6]
      cases h
      simp only [↓reduceIte, reduceCtorEq, nA, nE, nL, and_self, and_true, true_and, SL, encApiBlock, encR45Length, hb2, hb4, hb6]
     ·refine Mir.bind fun y104 hy7 => ?_
      refine Mir.region fun e h => ?_
      simp only [↓reduceIte, reduceCtorEq, nA, nS, nM, nE, nL, nT, nB, iT, iN, iE, and_self, SR, SV, encApiBlock, encR45Length, hb2, hb4, hb6]
      refine SpecS.by (l47_awake_spec hy1) (rfl) ?_
      simp only [↓reduceIte, reduceCtorEq, nA, nS, nM, nE, nL, nT, nB, iT, iN, iE, and_self, SR, SV, ag_30, sz_30, encApiBlock, encR45Length, hb2, hb4, hb6]
      refine SpecS.by (l47_few_spec hy3) (by simp only [↓reduceIte, reduceCtorEq, nA, nE, nL, and_self, and_true, true_and, SL, encApiBlock, encR45Length, hb2, hb4, hb6]) ?_
      simp only [↓reduceIte, reduceCtorEq, nA, nS, nM, nE, nL, nT, nB, iT, iN, iE, and_self, SR, SV, fld_30_0, sz_28, ag_28, encApiBlock, encR45Length, hb2, hb4, hb6]
      refine SpecS.by (r45_Valid_spec hy5) (by simp only [↓reduceIte, reduceCtorEq, nA, nE, nL, and_self, and_true, true_and, SL, encApiBlock, encR45Length, hb2, hb4, hb6]) ?_
      simp only [↓reduceIte, reduceCtorEq, nA, nS, nM, nE, nL, nT, nB, iT, iN, iE, and_self, SR, SV, fld_30_1, sz_24, ag_24, encApiBlock, encR45Length, hb2, hb4, hb6]
      refine SpecS.by (r47_InRange_spec hy7) (by simp only [↓reduceIte, reduceCtorEq, nA, nE, nL, and_self, and_true, true_and, SL, encApiBlock, encR45Length, hb2, hb4, hb6]) ?_
      simp only [↓reduceIte, reduceCtorEq, nA, nS, nM, nE, nL, nT, nB, iT, iN, iE, and_self, SR, SV, encApiBlock, encR45Length, hb2, hb4, hb6]
      cases h
      simp only [↓reduceIte, reduceCtorEq, nA, nE, nL, and_self, and_true, true_and, SL, encApiBlock, encR45Length, hb2, hb4, hb6]
    ·refine Mir.region fun e h => ?_
     simp only [↓reduceIte, reduceCtorEq, nA, nS, nM, nE, nL, nT, nB, iT, iN, iE, and_self, SR, SV, encApiBlock, encR45Length, hb2, hb4]
     refine SpecS.by (l47_awake_spec hy1) (rfl) ?_
     simp only [↓reduceIte, reduceCtorEq, nA, nS, nM, nE, nL, nT, nB, iT, iN, iE, and_self, SR, SV, ag_30, sz_30, encApiBlock, encR45Length, hb2, hb4]
     refine SpecS.by (l47_few_spec hy3) (by simp only [↓reduceIte, reduceCtorEq, nA, nE, nL, and_self, and_true, true_and, SL, encApiBlock, encR45Length, hb2, hb4]) ?_
     simp only [↓reduceIte, reduceCtorEq, nA, nS, nM, nE, nL, nT, nB, iT, iN, iE, and_self, SR, SV, encApiBlock, encR45Length, hb2, hb4]
     cases h
     simp only [↓reduceIte, reduceCtorEq, nA, nE, nL, and_self, and_true, true_and, SL, encApiBlock, encR45Length, hb2, hb4]
   ·refine Mir.region fun e h => ?_
    simp only [↓reduceIte, reduceCtorEq, nA, nS, nM, nE, nL, nT, nB, iT, iN, iE, and_self, SR, SV, encApiBlock, encR45Length, hb2]
    refine SpecS.by (l47_awake_spec hy1) (rfl) ?_
    simp only [↓reduceIte, reduceCtorEq, nA, nS, nM, nE, nL, nT, nB, iT, iN, iE, and_self, SR, SV, encApiBlock, encR45Length, hb2]
    cases h
    simp only [↓reduceIte, reduceCtorEq, nA, nE, nL, and_self, and_true, true_and, SL, encApiBlock, encR45Length, hb2]
  ·intro v105
   refine Mir.toK ?_
   refine Mir.cond rfl (fun hb10 => ?_) (fun hb10 => ?_)
   ·refine Mir.seqK ?_
    refine Mir.bind fun y107 hy11 => ?_
    refine Mir.region fun e h => ?_
    simp only [↓reduceIte, reduceCtorEq, nA, nS, nM, nE, nL, nT, nB, iT, iN, iE, and_self, SR, SV, encApiBlock, encR45Length]
    refine SpecS.by (l47_awake_spec hy11) (rfl) ?_
    simp only [↓reduceIte, reduceCtorEq, nA, nS, nM, nE, nL, nT, nB, iT, iN, iE, and_self, SR, SV, encApiBlock, encR45Length]
    refine Mir.use (e := e) ?_ h
    refine Mir.ret fun e h => ?_
    cases h
    simp only [↓reduceIte, reduceCtorEq, nA, nE, nL, and_self, and_true, true_and, SL, encApiBlock, encR45Length, Tryd.results4]
   ·refine Mir.skip ?_
    refine Mir.toK ?_
    refine Mir.seqK ?_
    refine Mir.region fun e h => ?_
    simp only [↓reduceIte, reduceCtorEq, nA, nS, nM, nE, nL, nT, nB, iT, iN, iE, and_self, SR, SV, und_58, sz_21, ag_21, und_21, und_2, zero_24, pl_24, sz_24, encApiBlock, encApiMotion, encR45Length]
    refine Mir.use (e := e) ?_ h
    refine Mir.seqK ?_
    refine Mir.region fun e h => ?_
    simp only [↓reduceIte, reduceCtorEq, nA, nS, nM, nE, nL, nT, nB, iT, iN, iE, and_self, SR, SV, fld_30_0, sz_28, ag_28, zero_28, encApiBlock, encApiMotion, encR45Length]
    refine Mir.use (e := e) ?_ h
    refine Mir.seqK ?_
    refine Mir.seqK ?_
    refine Mir.region fun e h => ?_
    simp only [↓reduceIte, reduceCtorEq, nA, nS, nM, nE, nL, nT, nB, iT, iN, iE, and_self, SR, SV, encApiBlock, encApiMotion, encR45Length]
    refine Mir.use (e := e) ?_ h
    refine Mir.join (fun v132 : R45Table => [.d (.list (List.map encApiBlock a0)), U, U, U, .ptr 0 0, U, U, .ptr 2 0, .ptr 3 0, U, U, U, U, U, U, U, U, U, U, U, U, U, U, U, U, U, U, U, U, U, U, U, U, U, U, U, U, U, U, U, U, U, U, U, U, U, U, U, U, U, U, U, U, U, U, U, U, U, U, U, U, U, U, U, U, U, U, U, U, U, U, U, U, U, U, U, U, U, U, U, U, U, U, U, U, U, U, U, U, U, U, U, U, U, U, U, U, U, U, U, U, U, U, U, U, U, U, U, U, U, U, U, U, U, U, U, U, U, U, U, U, U, U, U, U, U, U, U, U, U, U, U, U, U, U, U, U, U, U, U, U, U]) (fun v132 : R45Table => ⟨[[.d (.int .i64 a1.Table.Work.e0.X), .d (.int .i64 a1.Table.Work.e0.Y), .d (.int .i64 a1.Table.Work.e0.Z), .d (.int .i64 a1.Table.Work.e1.X), .d (.int .i64 a1.Table.Work.e1.Y), .d (.int .i64 a1.Table.Work.e1.Z), .d (.int .i64 a1.Table.Work.e2.X), .d (.int .i64 a1.Table.Work.e2.Y), .d (.int .i64 a1.Table.Work.e2.Z), .d (.int .i64 a1.Table.Work.e3.X), .d (.int .i64 a1.Table.Work.e3.Y), .d (.int .i64 a1.Table.Work.e3.Z), .d (.int .i64 a1.Table.Work.e4.X), .d (.int .i64 a1.Table.Work.e4.Y), .d (.int .i64 a1.Table.Work.e4.Z), .d (.int .i64 a1.Table.Work.e5.X), .d (.int .i64 a1.Table.Work.e5.Y), .d (.int .i64 a1.Table.Work.e5.Z), .d (.list (List.map encR45Length a1.Table.Lengths)), .d (.int .i64 a1.From.X), .d (.int .i64 a1.From.Y), .d (.int .i64 a1.From.Z)], [.d (.int .i32 a2.e0), .d (.int .i32 a2.e1), .d (.int .i32 a2.e2)], [.d (.int .i64 (IntKind.i64.wrap (Int.tmod a2.e0 1000000))), .d (.int .i64 (IntKind.i64.wrap (Int.tmod a2.e1 1000000))), .d (.int .i64 (IntKind.i64.wrap (Int.tmod a2.e2 1000000)))], [.d (.int .i64 v132.Work.e0.X), .d (.int .i64 v132.Work.e0.Y), .d (.int .i64 v132.Work.e0.Z), .d (.int .i64 v132.Work.e1.X), .d (.int .i64 v132.Work.e1.Y), .d (.int .i64 v132.Work.e1.Z), .d (.int .i64 v132.Work.e2.X), .d (.int .i64 v132.Work.e2.Y), .d (.int .i64 v132.Work.e2.Z), .d (.int .i64 v132.Work.e3.X), .d (.int .i64 v132.Work.e3.Y), .d (.int .i64 v132.Work.e3.Z), .d (.int .i64 v132.Work.e4.X), .d (.int .i64 v132.Work.e4.Y), .d (.int .i64 v132.Work.e4.Z), .d (.int .i64 v132.Work.e5.X), .d (.int .i64 v132.Work.e5.Y), .d (.int .i64 v132.Work.e5.Z), .d (.list (List.map encR45Length v132.Lengths))]], []⟩) (fun _ => rfl) ?_ ?_
    ·refine Mir.block ?_
     refine Mir.loopR 15 ?_
     refine Mir.seqK ?_
     refine Mir.region fun e h => ?_
     simp only [↓reduceIte, reduceCtorEq, nA, nS, nM, nE, nL, nT, nB, iT, iN, iE, and_self, SR, SV, encApiBlock, encR45Length]
     refine Mir.use (e := e) ?_ h
     refine Mir.seqK ?_
     refine Mir.condT rfl ?_
     refine Mir.skip ?_
     refine Mir.toK ?_
     refine Mir.seqK ?_
     refine Mir.block ?_
     refine Mir.seqK ?_
     refine Mir.region fun e h => ?_
     simp only [↓reduceIte, reduceCtorEq, nA, nS, nM, nE, nL, nT, nB, iT, iN, iE, and_self, SR, SV, encApiBlock, encR45Length]
     refine Mir.use (e := e) ?_ h
     refine Mir.seqK ?_
     refine Mir.bind fun y135 hy57 => ?_
     refine Mir.regionD [] (by kernel_rfl) fun e h => ?_
     simp only [↓reduceIte, reduceCtorEq, nA, nS, nM, nE, nL, nT, nB, iT, iN, iE, and_self, SR, SV, sepL_nil, sepL_cons, sepV_ne, sepV_d, sepV_i, true_and, Bool.and_self, fld_28_0, sz_25, und_25, sz_24, ag_24, encApiBlock, encR45Length]
     refine Spec.by (l47_plus_spec hy57) (by simp only [↓reduceIte, reduceCtorEq, nA, nE, nL, and_self, and_true, true_and, SL, encApiBlock, encR45Length]) ?_
     simp only [↓reduceIte, reduceCtorEq, nA, nS, nM, nE, nL, nT, nB, iT, iN, iE, and_self, SR, SV, sepL_nil, sepL_cons, sepV_ne, sepV_d, sepV_i, true_and, Bool.and_self, fld_28_0, sz_25, und_25, sz_24, ag_24, encApiBlock, encR45Length]
     refine Mir.use (e := e) ?_ h
     refine Mir.seqK ?_
     refine Mir.bind fun y136 hy58 => ?_
     refine Mir.region fun e h => ?_
     simp only [↓reduceIte, reduceCtorEq, nA, nS, nM, nE, nL, nT, nB, iT, iN, iE, and_self, SR, SV, fld_28_0, sz_25, und_25, sz_24, ag_24, encApiBlock, encR45Length]
     refine SpecS.by (r47_InRange_spec hy58) (by simp only [↓reduceIte, reduceCtorEq, nA, nE, nL, and_self, and_true, true_and, SL, encApiBlock, encR45Length]) ?_
     simp only [↓reduceIte, reduceCtorEq, nA, nS, nM, nE, nL, nT, nB, iT, iN, iE, and_self, SR, SV, encApiBlock, encR45Length]
     refine Mir.use (e := e) ?_ h
     refine Mir.cond rfl (fun hb60 => ?_) (fun hb60 => ?_)
     ·refine Mir.seqK ?_
      refine Mir.region fun e h => ?_
      simp only [↓reduceIte, reduceCtorEq, nA, nS, nM, nE, nL, nT, nB, iT, iN, iE, and_self, SR, SV, encApiBlock, encR45Length]
      refine Mir.use (e := e) ?_ h
      refine Mir.ret fun e h => ?_
      cases h
      simp only [↓reduceIte, reduceCtorEq, nA, nE, nL, and_self, and_true, true_and, SL, encApiBlock, encR45Length, Tryd.results4]
     ·refine Mir.skip ?_
      refine Mir.toB ?_
      refine Mir.toK ?_
      refine Mir.region fun e h => ?_
      simp only [↓reduceIte, reduceCtorEq, nA, nS, nM, nE, nL, nT, nB, iT, iN, iE, and_self, SR, SV, (nr rfl : IntKind.i64.wrap (0 + 1) = 1), encApiBlock, encR45Length]
      refine Mir.useN (e := e) ?_ h
      refine Mir.seqK ?_
      refine Mir.region fun e h => ?_
      simp only [↓reduceIte, reduceCtorEq, nA, nS, nM, nE, nL, nT, nB, iT, iN, iE, and_self, SR, SV, encApiBlock, encR45Length]
      refine Mir.use (e := e) ?_ h
      refine Mir.seqK ?_
      refine Mir.condT rfl ?_
      refine Mir.skip ?_
      refine Mir.toK ?_
      refine Mir.seqK ?_
      refine Mir.block ?_
      refine Mir.seqK ?_
      refine Mir.region fun e h => ?_
      simp only [↓reduceIte, reduceCtorEq, nA, nS, nM, nE, nL, nT, nB, iT, iN, iE, and_self, SR, SV, encApiBlock, encR45Length]
      refine Mir.use (e := e) ?_ h
      refine Mir.seqK ?_
      refine Mir.bind fun y139 hy64 => ?_
      refine Mir.regionD [] (by kernel_rfl) fun e h => ?_
      simp only [↓reduceIte, reduceCtorEq, nA, nS, nM, nE, nL, nT, nB, iT, iN, iE, and_self, SR, SV, sepL_nil, sepL_cons, sepV_ne, sepV_d, sepV_i, true_and, Bool.and_self, fld_28_0, sz_25, und_25, sz_24, ag_24, encApiBlock, encR45Length]
      refine Spec.by (l47_plus_spec hy64) (by simp only [↓reduceIte, reduceCtorEq, nA, nE, nL, and_self, and_true, true_and, SL, encApiBlock, encR45Length]) ?_
      simp only [↓reduceIte, reduceCtorEq, nA, nS, nM, nE, nL, nT, nB, iT, iN, iE, and_self, SR, SV, sepL_nil, sepL_cons, sepV_ne, sepV_d, sepV_i, true_and, Bool.and_self, fld_28_0, sz_25, und_25, sz_24, ag_24, encApiBlock, encR45Length]
      refine Mir.use (e := e) ?_ h
      refine Mir.seqK ?_
      refine Mir.bind fun y140 hy65 => ?_
      refine Mir.region fun e h => ?_
      simp only [↓reduceIte, reduceCtorEq, nA, nS, nM, nE, nL, nT, nB, iT, iN, iE, and_self, SR, SV, fld_28_0, sz_25, und_25, sz_24, ag_24, encApiBlock, encR45Length]
      refine SpecS.by (r47_InRange_spec hy65) (by simp only [↓reduceIte, reduceCtorEq, nA, nE, nL, and_self, and_true, true_and, SL, encApiBlock, encR45Length]) ?_
      simp only [↓reduceIte, reduceCtorEq, nA, nS, nM, nE, nL, nT, nB, iT, iN, iE, and_self, SR, SV, encApiBlock, encR45Length]
      refine Mir.use (e := e) ?_ h
      refine Mir.cond rfl (fun hb67 => ?_) (fun hb67 => ?_)
      ·refine Mir.seqK ?_
       refine Mir.region fun e h => ?_
       simp only [↓reduceIte, reduceCtorEq, nA, nS, nM, nE, nL, nT, nB, iT, iN, iE, and_self, SR, SV, encApiBlock, encR45Length]
       refine Mir.use (e := e) ?_ h
       refine Mir.ret fun e h => ?_
       cases h
       simp only [↓reduceIte, reduceCtorEq, nA, nE, nL, and_self, and_true, true_and, SL, encApiBlock, encR45Length, Tryd.results4]
      ·refine Mir.skip ?_
       refine Mir.toB ?_
       refine Mir.toK ?_
       refine Mir.region fun e h => ?_
       simp only [↓reduceIte, reduceCtorEq, nA, nS, nM, nE, nL, nT, nB, iT, iN, iE, and_self, SR, SV, (nr rfl : IntKind.i64.wrap (1 + 1) = 2), encApiBlock, encR45Length]
       refine Mir.useN (e := e) ?_ h
       refine Mir.seqK ?_
       refine Mir.region fun e h => ?_
       simp only [↓reduceIte, reduceCtorEq, nA, nS, nM, nE, nL, nT, nB, iT, iN, iE, and_self, SR, SV, encApiBlock, encR45Length]
       refine Mir.use (e := e) ?_ h
       refine Mir.seqK ?_
       refine Mir.condT rfl ?_
       refine Mir.skip ?_
       refine Mir.toK ?_
       refine Mir.seqK ?_
       refine Mir.block ?_
       refine Mir.seqK ?_
       refine Mir.region fun e h => ?_
       simp only [↓reduceIte, reduceCtorEq, nA, nS, nM, nE, nL, nT, nB, iT, iN, iE, and_self, SR, SV, encApiBlock, encR45Length]
       refine Mir.use (e := e) ?_ h
       refine Mir.seqK ?_
       refine Mir.bind fun y143 hy71 => ?_
       refine Mir.regionD [] (by kernel_rfl) fun e h => ?_
       simp only [↓reduceIte, reduceCtorEq, nA, nS, nM, nE, nL, nT, nB, iT, iN, iE, and_self, SR, SV, sepL_nil, sepL_cons, sepV_ne, sepV_d, sepV_i, true_and, Bool.and_self, fld_28_0, sz_25, und_25, sz_24, ag_24, encApiBlock, encR45Length]
       refine Spec.by (l47_plus_spec hy71) (by simp only [↓reduceIte, reduceCtorEq, nA, nE, nL, and_self, and_true, true_and, SL, encApiBlock, encR45Length]) ?_
       simp only [↓reduceIte, reduceCtorEq, nA, nS, nM, nE, nL, nT, nB, iT, iN, iE, and_self, SR, SV, sepL_nil, sepL_cons, sepV_ne, sepV_d, sepV_i, true_and, Bool.and_self, fld_28_0, sz_25, und_25, sz_24, ag_24, encApiBlock, encR45Length]
       refine Mir.use (e := e) ?_ h
       refine Mir.seqK ?_
       refine Mir.bind fun y144 hy72 => ?_
       refine Mir.region fun e h => ?_
       simp only [↓reduceIte, reduceCtorEq, nA, nS, nM, nE, nL, nT, nB, iT, iN, iE, and_self, SR, SV, fld_28_0, sz_25, und_25, sz_24, ag_24, encApiBlock, encR45Length]
       refine SpecS.by (r47_InRange_spec hy72) (by simp only [↓reduceIte, reduceCtorEq, nA, nE, nL, and_self, and_true, true_and, SL, encApiBlock, encR45Length]) ?_
       simp only [↓reduceIte, reduceCtorEq, nA, nS, nM, nE, nL, nT, nB, iT, iN, iE, and_self, SR, SV, encApiBlock, encR45Length]
       refine Mir.use (e := e) ?_ h
       refine Mir.cond rfl (fun hb74 => ?_) (fun hb74 => ?_)
       ·refine Mir.seqK ?_
        refine Mir.region fun e h => ?_
        simp only [↓reduceIte, reduceCtorEq, nA, nS, nM, nE, nL, nT, nB, iT, iN, iE, and_self, SR, SV, encApiBlock, encR45Length]
        refine Mir.use (e := e) ?_ h
        refine Mir.ret fun e h => ?_
        cases h
        simp only [↓reduceIte, reduceCtorEq, nA, nE, nL, and_self, and_true, true_and, SL, encApiBlock, encR45Length, Tryd.results4]
       ·refine Mir.skip ?_
        refine Mir.toB ?_
        refine Mir.toK ?_
        refine Mir.region fun e h => ?_
        simp only [↓reduceIte, reduceCtorEq, nA, nS, nM, nE, nL, nT, nB, iT, iN, iE, and_self, SR, SV, (nr rfl : IntKind.i64.wrap (2 + 1) = 3), encApiBlock, encR45Length]
        refine Mir.useN (e := e) ?_ h
        refine Mir.seqK ?_
        refine Mir.region fun e h => ?_
        simp only [↓reduceIte, reduceCtorEq, nA, nS, nM, nE, nL, nT, nB, iT, iN, iE, and_self, SR, SV, encApiBlock, encR45Length]
        refine Mir.use (e := e) ?_ h
        refine Mir.seqK ?_
        refine Mir.condT rfl ?_
        refine Mir.skip ?_
        refine Mir.toK ?_
        refine Mir.seqK ?_
        refine Mir.block ?_
        refine Mir.seqK ?_
        refine Mir.region fun e h => ?_
        simp only [↓reduceIte, reduceCtorEq, nA, nS, nM, nE, nL, nT, nB, iT, iN, iE, and_self, SR, SV, encApiBlock, encR45Length]
        refine Mir.use (e := e) ?_ h
        refine Mir.seqK ?_
        refine Mir.bind fun y147 hy78 => ?_
        refine Mir.regionD [] (by kernel_rfl) fun e h => ?_
        simp only [↓reduceIte, reduceCtorEq, nA, nS, nM, nE, nL, nT, nB, iT, iN, iE, and_self, SR, SV, sepL_nil, sepL_cons, sepV_ne, sepV_d, sepV_i, true_and, Bool.and_self, fld_28_0, sz_25, und_25, sz_24, ag_24, encApiBlock, encR45Length]
        refine Spec.by (l47_plus_spec hy78) (by simp only [↓reduceIte, reduceCtorEq, nA, nE, nL, and_self, and_true, true_and, SL, encApiBlock, encR45Length]) ?_
        simp only [↓reduceIte, reduceCtorEq, nA, nS, nM, nE, nL, nT, nB, iT, iN, iE, and_self, SR, SV, sepL_nil, sepL_cons, sepV_ne, sepV_d, sepV_i, true_and, Bool.and_self, fld_28_0, sz_25, und_25, sz_24, ag_24, encApiBlock, encR45Length]
        refine Mir.use (e := e) ?_ h
        refine Mir.seqK ?_
        refine Mir.bind fun y148 hy79 => ?_
        refine Mir.region fun e h => ?_
        simp only [↓reduceIte, reduceCtorEq, nA, nS, nM, nE, nL, nT, nB, iT, iN, iE, and_self, SR, SV, fld_28_0, sz_25, und_25, sz_24, ag_24, encApiBlock, encR45Length]
        refine SpecS.by (r47_InRange_spec hy79) (by simp only [↓reduceIte, reduceCtorEq, nA, nE, nL, and_self, and_true, true_and, SL, encApiBlock, encR45Length]) ?_
        simp only [↓reduceIte, reduceCtorEq, nA, nS, nM, nE, nL, nT, nB, iT, iN, iE, and_self, SR, SV, encApiBlock, encR45Length]
        refine Mir.use (e := e) ?_ h
        refine Mir.cond rfl (fun hb81 => ?_) (fun hb81 => ?_)
        ·refine Mir.seqK ?_
         refine Mir.region fun e h => ?_
         simp only [↓reduceIte, reduceCtorEq, nA, nS, nM, nE, nL, nT, nB, iT, iN, iE, and_self, SR, SV, encApiBlock, encR45Length]
         refine Mir.use (e := e) ?_ h
         refine Mir.ret fun e h => ?_
         cases h
         simp only [↓reduceIte, reduceCtorEq, nA, nE, nL, and_self, and_true, true_and, SL, encApiBlock, encR45Length, Tryd.results4]
        ·refine Mir.skip ?_
         refine Mir.toB ?_
         refine Mir.toK ?_
         refine Mir.region fun e h => ?_
         simp only [↓reduceIte, reduceCtorEq, nA, nS, nM, nE, nL, nT, nB, iT, iN, iE, and_self, SR, SV, (nr rfl : IntKind.i64.wrap (3 + 1) = 4), encApiBlock, encR45Length]
         refine Mir.useN (e := e) ?_ h
         refine Mir.seqK ?_
         refine Mir.region fun e h => ?_
         simp only [↓reduceIte, reduceCtorEq, nA, nS, nM, nE, nL, nT, nB, iT, iN, iE, and_self, SR, SV, encApiBlock, encR45Length]
         refine Mir.use (e := e) ?_ h
         refine Mir.seqK ?_
         refine Mir.condT rfl ?_
         refine Mir.skip ?_
         refine Mir.toK ?_
         refine Mir.seqK ?_
         refine Mir.block ?_
         refine Mir.seqK ?_
         refine Mir.region fun e h => ?_
         simp only [↓reduceIte, reduceCtorEq, nA, nS, nM, nE, nL, nT, nB, iT, iN, iE, and_self, SR, SV, encApiBlock, encR45Length]
         refine Mir.use (e := e) ?_ h
         refine Mir.seqK ?_
         refine Mir.bind fun y151 hy85 => ?_
         refine Mir.regionD [] (by kernel_rfl) fun e h => ?_
         simp only [↓reduceIte, reduceCtorEq, nA, nS, nM, nE, nL, nT, nB, iT, iN, iE, and_self, SR, SV, sepL_nil, sepL_cons, sepV_ne, sepV_d, sepV_i, true_and, Bool.and_self, fld_28_0, sz_25, und_25, sz_24, ag_24, encApiBlock, encR45Length]
         refine Spec.by (l47_plus_spec hy85) (by simp only [↓reduceIte, reduceCtorEq, nA, nE, nL, and_self, and_true, true_and, SL, encApiBlock, encR45Length]) ?_
         simp only [↓reduceIte, reduceCtorEq, nA, nS, nM, nE, nL, nT, nB, iT, iN, iE, and_self, SR, SV, sepL_nil, sepL_cons, sepV_ne, sepV_d, sepV_i, true_and, Bool.and_self, fld_28_0, sz_25, und_25, sz_24, ag_24, encApiBlock, encR45Length]
         refine Mir.use (e := e) ?_ h
         refine Mir.seqK ?_
         refine Mir.bind fun y152 hy86 => ?_
         refine Mir.region fun e h => ?_
         simp only [↓reduceIte, reduceCtorEq, nA, nS, nM, nE, nL, nT, nB, iT, iN, iE, and_self, SR, SV, fld_28_0, sz_25, und_25, sz_24, ag_24, encApiBlock, encR45Length]
         refine SpecS.by (r47_InRange_spec hy86) (by simp only [↓reduceIte, reduceCtorEq, nA, nE, nL, and_self, and_true, true_and, SL, encApiBlock, encR45Length]) ?_
         simp only [↓reduceIte, reduceCtorEq, nA, nS, nM, nE, nL, nT, nB, iT, iN, iE, and_self, SR, SV, encApiBlock, encR45Length]
         refine Mir.use (e := e) ?_ h
         refine Mir.cond rfl (fun hb88 => ?_) (fun hb88 => ?_)
         ·refine Mir.seqK ?_
          refine Mir.region fun e h => ?_
          simp only [↓reduceIte, reduceCtorEq, nA, nS, nM, nE, nL, nT, nB, iT, iN, iE, and_self, SR, SV, encApiBlock, encR45Length]
          refine Mir.use (e := e) ?_ h
          refine Mir.ret fun e h => ?_
          cases h
          simp only [↓reduceIte, reduceCtorEq, nA, nE, nL, and_self, and_true, true_and, SL, encApiBlock, encR45Length, Tryd.results4]
         ·refine Mir.skip ?_
          refine Mir.toB ?_
          refine Mir.toK ?_
          refine Mir.region fun e h => ?_
          simp only [↓reduceIte, reduceCtorEq, nA, nS, nM, nE, nL, nT, nB, iT, iN, iE, and_self, SR, SV, (nr rfl : IntKind.i64.wrap (4 + 1) = 5), encApiBlock, encR45Length]
          refine Mir.useN (e := e) ?_ h
          refine Mir.seqK ?_
          refine Mir.region fun e h => ?_
          simp only [↓reduceIte, reduceCtorEq, nA, nS, nM, nE, nL, nT, nB, iT, iN, iE, and_self, SR, SV, encApiBlock, encR45Length]
          refine Mir.use (e := e) ?_ h
          refine Mir.seqK ?_
          refine Mir.condT rfl ?_
          refine Mir.skip ?_
          refine Mir.toK ?_
          refine Mir.seqK ?_
          refine Mir.block ?_
          refine Mir.seqK ?_
          refine Mir.region fun e h => ?_
          simp only [↓reduceIte, reduceCtorEq, nA, nS, nM, nE, nL, nT, nB, iT, iN, iE, and_self, SR, SV, encApiBlock, encR45Length]
          refine Mir.use (e := e) ?_ h
          refine Mir.seqK ?_
          refine Mir.bind fun y155 hy92 => ?_
          refine Mir.regionD [] (by kernel_rfl) fun e h => ?_
          simp only [↓reduceIte, reduceCtorEq, nA, nS, nM, nE, nL, nT, nB, iT, iN, iE, and_self, SR, SV, sepL_nil, sepL_cons, sepV_ne, sepV_d, sepV_i, true_and, Bool.and_self, fld_28_0, sz_25, und_25, sz_24, ag_24, encApiBlock, encR45Length]
          refine Spec.by (l47_plus_spec hy92) (by simp only [↓reduceIte, reduceCtorEq, nA, nE, nL, and_self, and_true, true_and, SL, encApiBlock, encR45Length]) ?_
          simp only [↓reduceIte, reduceCtorEq, nA, nS, nM, nE, nL, nT, nB, iT, iN, iE, and_self, SR, SV, sepL_nil, sepL_cons, sepV_ne, sepV_d, sepV_i, true_and, Bool.and_self, fld_28_0, sz_25, und_25, sz_24, ag_24, encApiBlock, encR45Length]
          refine Mir.use (e := e) ?_ h
          refine Mir.seqK ?_
          refine Mir.bind fun y156 hy93 => ?_
          refine Mir.region fun e h => ?_
          simp only [↓reduceIte, reduceCtorEq, nA, nS, nM, nE, nL, nT, nB, iT, iN, iE, and_self, SR, SV, fld_28_0, sz_25, und_25, sz_24, ag_24, encApiBlock, encR45Length]
          refine SpecS.by (r47_InRange_spec hy93) (by simp only [↓reduceIte, reduceCtorEq, nA, nE, nL, and_self, and_true, true_and, SL, encApiBlock, encR45Length]) ?_
          simp only [↓reduceIte, reduceCtorEq, nA, nS, nM, nE, nL, nT, nB, iT, iN, iE, and_self, SR, SV, encApiBlock, encR45Length]
          refine Mir.use (e := e) ?_ h
          refine Mir.cond rfl (fun hb95 => ?_) (fun hb95 => ?_)
          ·refine Mir.seqK ?_
           refine Mir.region fun e h => ?_
           simp only [↓reduceIte, reduceCtorEq, nA, nS, nM, nE, nL, nT, nB, iT, iN, iE, and_self, SR, SV, encApiBlock, encR45Length]
           refine Mir.use (e := e) ?_ h
           refine Mir.ret fun e h => ?_
           cases h
           simp only [↓reduceIte, reduceCtorEq, nA, nE, nL, and_self, and_true, true_and, SL, encApiBlock, encR45Length, Tryd.results4]
          ·refine Mir.skip ?_
           refine Mir.toB ?_
           refine Mir.toK ?_
           refine Mir.region fun e h => ?_
           simp only [↓reduceIte, reduceCtorEq, nA, nS, nM, nE, nL, nT, nB, iT, iN, iE, and_self, SR, SV, (nr rfl : IntKind.i64.wrap (5 + 1) = 6), encApiBlock, encR45Length]
           refine Mir.useN (e := e) ?_ h
           refine Mir.seqK ?_
           refine Mir.region fun e h => ?_
           simp only [↓reduceIte, reduceCtorEq, nA, nS, nM, nE, nL, nT, nB, iT, iN, iE, and_self, SR, SV, encApiBlock, encR45Length]
           refine Mir.use (e := e) ?_ h
           refine Mir.seqK ?_
           refine Mir.condF rfl ?_
           refine Mir.exit fun e h => ?_
           cases h
           simp only [↓reduceIte, reduceCtorEq, nA, nE, nL, and_self, and_true, true_and, SL, encApiBlock, encR45Length, Tryd.results4]
    ·intro v132
     refine Mir.toK ?_
     refine Mir.seqK ?_
     refine Mir.seqK ?_
     refine Mir.bind fun y157 hy96 => ?_
     refine Mir.bind fun y158 hy97 => ?_
     refine Mir.region fun e h => ?_
     simp only [↓reduceIte, reduceCtorEq, nA, nS, nM, nE, nL, nT, nB, iT, iN, iE, and_self, SR, SV, fld_30_1, sz_24, ag_24, encApiBlock, encApiMotion, encR45Length]
     refine SpecS.by (l47_plus_spec hy96) (by simp only [↓reduceIte, reduceCtorEq, nA, nE, nL, and_self, and_true, true_and, SL, encApiBlock, encApiMotion, encR45Length]) ?_
     simp only [↓reduceIte, reduceCtorEq, nA, nS, nM, nE, nL, nT, nB, iT, iN, iE, and_self, SR, SV, encApiBlock, encApiMotion, encR45Length]
     refine SpecS.by (r47_InRange_spec hy97) (by simp only [↓reduceIte, reduceCtorEq, nA, nE, nL, and_self, and_true, true_and, SL, encApiBlock, encApiMotion, encR45Length]) ?_
     simp only [↓reduceIte, reduceCtorEq, nA, nS, nM, nE, nL, nT, nB, iT, iN, iE, and_self, SR, SV, encApiBlock, encApiMotion, encR45Length]
     refine Mir.use (e := e) ?_ h
     refine Mir.cond rfl (fun hb99 => ?_) (fun hb99 => ?_)
     ·refine Mir.seqK ?_
      refine Mir.region fun e h => ?_
      simp only [↓reduceIte, reduceCtorEq, nA, nS, nM, nE, nL, nT, nB, iT, iN, iE, and_self, SR, SV, encApiBlock, encR45Length]
      refine Mir.use (e := e) ?_ h
      refine Mir.ret fun e h => ?_
      cases h
      simp only [↓reduceIte, reduceCtorEq, nA, nE, nL, and_self, and_true, true_and, SL, encApiBlock, encR45Length, Tryd.results4]
     ·refine Mir.skip ?_
      refine Mir.toK ?_
      refine Mir.seqK ?_
      refine Mir.bind fun y159 hy100 => ?_
      refine Mir.bind fun y160 hy101 => ?_
      refine Mir.bind fun y161 hy102 => ?_
      refine Mir.regionD [] (by kernel_rfl) fun e h => ?_
      simp only [↓reduceIte, reduceCtorEq, nA, nS, nM, nE, nL, nT, nB, iT, iN, iE, and_self, SR, SV, sepL_nil, sepL_cons, sepV_ne, sepV_d, sepV_i, true_and, Bool.and_self, encApiBlock, encApiMotion, encR45Length]
      refine Spec.by (slices_Clone_api_Block_api_Block_spec hy100) (by simp only [↓reduceIte, reduceCtorEq, nA, nE, nL, and_self, and_true, true_and, SL, encApiBlock, encApiMotion, encR45Length]) ?_
      simp only [↓reduceIte, reduceCtorEq, nA, nS, nM, nE, nL, nT, nB, iT, iN, iE, and_self, SR, SV, sepL_nil, sepL_cons, sepV_ne, sepV_d, sepV_i, true_and, Bool.and_self, fld_30_0, sz_28, ag_28, encApiBlock, encApiMotion, encR45Length]
      refine Spec.by (l47_theirs_spec hy101) (by simp only [↓reduceIte, reduceCtorEq, nA, nE, nL, and_self, and_true, true_and, SL, encApiBlock, encApiMotion, encR45Length]) ?_
      simp only [↓reduceIte, reduceCtorEq, nA, nS, nM, nE, nL, nT, nB, iT, iN, iE, and_self, SR, SV, sepL_nil, sepL_cons, sepV_ne, sepV_d, sepV_i, true_and, Bool.and_self, fld_30_1, sz_24, ag_24, encApiBlock, encApiMotion, encR45Length]
      refine Spec.by (inp_Blocks_spec hy102) (by simp only [↓reduceIte, reduceCtorEq, nA, nE, nL, and_self, and_true, true_and, SL, encApiBlock, encApiMotion, encR45Length]) ?_
      simp only [↓reduceIte, reduceCtorEq, nA, nS, nM, nE, nL, nT, nB, iT, iN, iE, and_self, SR, SV, sepL_nil, sepL_cons, sepV_ne, sepV_d, sepV_i, true_and, Bool.and_self, zero_49, sz_49, encApiBlock, encApiMotion, encR45Length]
      refine Mir.use (e := e) ?_ h
      refine Mir.seqK ?_
      refine Mir.bind fun y162 hy103 => ?_
      refine Mir.bind fun y163 hy104 => ?_
      refine Mir.bind fun y164 hy105 => ?_
      refine Mir.bind fun y165 hy106 => ?_
      refine Mir.regionD [] (by kernel_rfl) fun e h => ?_
      simp only [↓reduceIte, reduceCtorEq, nA, nS, nM, nE, nL, nT, nB, iT, iN, iE, and_self, SR, SV, sepL_nil, sepL_cons, sepV_ne, sepV_d, sepV_i, true_and, Bool.and_self, encApiBlock, encApiMotion, encR45Length]
      refine Spec.by (slices_Clone_api_Block_api_Block_spec hy103) (by simp only [↓reduceIte, reduceCtorEq, nA, nE, nL, and_self, and_true, true_and, SL, encApiBlock, encApiMotion, encR45Length]) ?_
      simp only [↓reduceIte, reduceCtorEq, nA, nS, nM, nE, nL, nT, nB, iT, iN, iE, and_self, SR, SV, sepL_nil, sepL_cons, sepV_ne, sepV_d, sepV_i, true_and, Bool.and_self, ag_28, sz_28, encApiBlock, encApiMotion, encR45Length]
      refine Spec.by (l47_theirs_spec hy104) (by simp only [↓reduceIte, reduceCtorEq, nA, nE, nL, and_self, and_true, true_and, SL, encApiBlock, encApiMotion, encR45Length]) ?_
      simp only [↓reduceIte, reduceCtorEq, nA, nS, nM, nE, nL, nT, nB, iT, iN, iE, and_self, SR, SV, sepL_nil, sepL_cons, sepV_ne, sepV_d, sepV_i, true_and, Bool.and_self, fld_30_1, sz_24, ag_24, encApiBlock, encApiMotion, encR45Length]
      refine Spec.by (l47_plus_spec hy105) (by simp only [↓reduceIte, reduceCtorEq, nA, nE, nL, and_self, and_true, true_and, SL, encApiBlock, encApiMotion, encR45Length]) ?_
      simp only [↓reduceIte, reduceCtorEq, nA, nS, nM, nE, nL, nT, nB, iT, iN, iE, and_self, SR, SV, sepL_nil, sepL_cons, sepV_ne, sepV_d, sepV_i, true_and, Bool.and_self, encApiBlock, encApiMotion, encR45Length]
      refine Spec.by (inp_Blocks_spec hy106) (by simp only [↓reduceIte, reduceCtorEq, nA, nE, nL, and_self, and_true, true_and, SL, encApiBlock, encApiMotion, encR45Length]) ?_
      simp only [↓reduceIte, reduceCtorEq, nA, nS, nM, nE, nL, nT, nB, iT, iN, iE, and_self, SR, SV, sepL_nil, sepL_cons, sepV_ne, sepV_d, sepV_i, true_and, Bool.and_self, zero_49, sz_49, encApiBlock, encApiMotion, encR45Length]
      refine Mir.use (e := e) ?_ h
      refine Mir.seqK ?_
      refine Mir.seqK ?_
      refine Mir.joinV [U, U, U, U, U, U, U, .ptr 2 0, U, U, .d (.list (List.map encApiMotion y161.1)), .ptr 4 0, .d (.list (List.map encApiMotion y165.1)), .ptr 5 0, U, U, U, U, U, U, U, U, U, U, U, U, U, U, U, U, U, U, U, U, U, U, U, U, U, U, U, U, U, U, U, U, U, U, U, U, U, U, U, U, U, U, U, U, U, U, U, U, U, U, U, U, U, U, U, U, U, U, U, U, U, U, U, U, U, U, U, U, U, U, U, U, U, U, U, U, U, U, U, U, U, U, U, U, U, U, U, U, U, U, U, U, U, .d (.bool ((y161.2.Code == 11) || (y165.2.Code == 11))), U, U, U, U, U, U, U, U, U, U, U, U, U, U, U, U, U, U, U, U, U, U, U, U, U, U, U, U, U, U, U, U, U, U] ⟨[[.d (.int .i64 a1.Table.Work.e0.X), .d (.int .i64 a1.Table.Work.e0.Y), .d (.int .i64 a1.Table.Work.e0.Z), .d (.int .i64 a1.Table.Work.e1.X), .d (.int .i64 a1.Table.Work.e1.Y), .d (.int .i64 a1.Table.Work.e1.Z), .d (.int .i64 a1.Table.Work.e2.X), .d (.int .i64 a1.Table.Work.e2.Y), .d (.int .i64 a1.Table.Work.e2.Z), .d (.int .i64 a1.Table.Work.e3.X), .d (.int .i64 a1.Table.Work.e3.Y), .d (.int .i64 a1.Table.Work.e3.Z), .d (.int .i64 a1.Table.Work.e4.X), .d (.int .i64 a1.Table.Work.e4.Y), .d (.int .i64 a1.Table.Work.e4.Z), .d (.int .i64 a1.Table.Work.e5.X), .d (.int .i64 a1.Table.Work.e5.Y), .d (.int .i64 a1.Table.Work.e5.Z), .d (.list (List.map encR45Length a1.Table.Lengths)), .d (.int .i64 a1.From.X), .d (.int .i64 a1.From.Y), .d (.int .i64 a1.From.Z)], [.d (.int .i32 a2.e0), .d (.int .i32 a2.e1), .d (.int .i32 a2.e2)], [.d (.int .i64 (IntKind.i64.wrap (Int.tmod a2.e0 1000000))), .d (.int .i64 (IntKind.i64.wrap (Int.tmod a2.e1 1000000))), .d (.int .i64 (IntKind.i64.wrap (Int.tmod a2.e2 1000000)))], [.d (.int .i64 v132.Work.e0.X), .d (.int .i64 v132.Work.e0.Y), .d (.int .i64 v132.Work.e0.Z), .d (.int .i64 v132.Work.e1.X), .d (.int .i64 v132.Work.e1.Y), .d (.int .i64 v132.Work.e1.Z), .d (.int .i64 v132.Work.e2.X), .d (.int .i64 v132.Work.e2.Y), .d (.int .i64 v132.Work.e2.Z), .d (.int .i64 v132.Work.e3.X), .d (.int .i64 v132.Work.e3.Y), .d (.int .i64 v132.Work.e3.Z), .d (.int .i64 v132.Work.e4.X), .d (.int .i64 v132.Work.e4.Y), .d (.int .i64 v132.Work.e4.Z), .d (.int .i64 v132.Work.e5.X), .d (.int .i64 v132.Work.e5.Y), .d (.int .i64 v132.Work.e5.Z), .d (.list (List.map encR45Length v132.Lengths))], [.d (.int .i64 y161.2.Block), .d (.int .i64 y161.2.Code)], [.d (.int .i64 y165.2.Block), .d (.int .i64 y165.2.Code)]], []⟩ rfl ?_ ?_
      ·refine SWs.region ?_
       rcases Bool.eq_false_or_eq_true (y161.2.Code == 11) with hb107 | hb107
       ·simp only [↓reduceIte, reduceCtorEq, nA, nS, nM, nE, nL, nT, nB, iT, iN, iE, and_self, SR, SV, SL, Bool.true_and, Bool.false_and, Bool.true_or, Bool.false_or, Bool.or_true, Bool.or_false, Bool.and_true, Bool.and_false, Bool.not_true, Bool.not_false, fld_49_1, sz_32, ag_32, hb107, encApiBlock, encApiMotion, encR45Length]
       ·simp only [↓reduceIte, reduceCtorEq, nA, nS, nM, nE, nL, nT, nB, iT, iN, iE, and_self, SR, SV, SL, Bool.true_and, Bool.false_and, Bool.true_or, Bool.false_or, Bool.or_true, Bool.or_false, Bool.and_true, Bool.and_false, Bool.not_true, Bool.not_false, fld_49_1, sz_32, ag_32, hb107, encApiBlock, encApiMotion, encR45Length]
      ·refine Mir.toK ?_
       refine Mir.cond rfl (fun hb109 => ?_) (fun hb109 => ?_)
       ·refine Mir.seqK ?_
        refine Mir.region fun e h => ?_
        simp only [↓reduceIte, reduceCtorEq, nA, nS, nM, nE, nL, nT, nB, iT, iN, iE, and_self, SR, SV, encApiBlock, encR45Length]
        refine Mir.use (e := e) ?_ h
        refine Mir.ret fun e h => ?_
        cases h
        simp only [↓reduceIte, reduceCtorEq, nA, nE, nL, and_self, and_true, true_and, SL, encApiBlock, encR45Length, Tryd.results4]
       ·refine Mir.skip ?_
        refine Mir.toK ?_
        refine Mir.seqK ?_
        refine Mir.seqK ?_
        refine Mir.joinV [U, U, U, U, U, U, U, .ptr 2 0, U, U, .d (.list (List.map encApiMotion y161.1)), U, .d (.list (List.map encApiMotion y165.1)), U, U, U, U, U, U, U, U, U, U, U, U, U, U, U, U, U, U, U, U, U, U, U, U, U, U, U, U, U, U, U, U, U, U, U, U, U, U, U, U, U, U, U, U, U, U, U, U, U, U, U, U, U, U, U, U, U, U, U, U, U, U, U, U, U, U, U, U, U, U, U, U, U, U, U, U, U, U, U, U, U, U, U, U, U, U, U, U, U, U, U, U, U, U, U, U, U, U, U, U, U, U, U, U, .d (.bool (!((y161.2.Block == y165.2.Block) && (y161.2.Code == y165.2.Code)) || ((y161.1.length : Int) != (y165.1.length : Int)))), U, U, U, U, U, U, U, U, U, U, U, U, U, U, U, U, U, U, U, U, U, U, U, U] ⟨[[.d (.int .i64 a1.Table.Work.e0.X), .d (.int .i64 a1.Table.Work.e0.Y), .d (.int .i64 a1.Table.Work.e0.Z), .d (.int .i64 a1.Table.Work.e1.X), .d (.int .i64 a1.Table.Work.e1.Y), .d (.int .i64 a1.Table.Work.e1.Z), .d (.int .i64 a1.Table.Work.e2.X), .d (.int .i64 a1.Table.Work.e2.Y), .d (.int .i64 a1.Table.Work.e2.Z), .d (.int .i64 a1.Table.Work.e3.X), .d (.int .i64 a1.Table.Work.e3.Y), .d (.int .i64 a1.Table.Work.e3.Z), .d (.int .i64 a1.Table.Work.e4.X), .d (.int .i64 a1.Table.Work.e4.Y), .d (.int .i64 a1.Table.Work.e4.Z), .d (.int .i64 a1.Table.Work.e5.X), .d (.int .i64 a1.Table.Work.e5.Y), .d (.int .i64 a1.Table.Work.e5.Z), .d (.list (List.map encR45Length a1.Table.Lengths)), .d (.int .i64 a1.From.X), .d (.int .i64 a1.From.Y), .d (.int .i64 a1.From.Z)], [.d (.int .i32 a2.e0), .d (.int .i32 a2.e1), .d (.int .i32 a2.e2)], [.d (.int .i64 (IntKind.i64.wrap (Int.tmod a2.e0 1000000))), .d (.int .i64 (IntKind.i64.wrap (Int.tmod a2.e1 1000000))), .d (.int .i64 (IntKind.i64.wrap (Int.tmod a2.e2 1000000)))], [.d (.int .i64 v132.Work.e0.X), .d (.int .i64 v132.Work.e0.Y), .d (.int .i64 v132.Work.e0.Z), .d (.int .i64 v132.Work.e1.X), .d (.int .i64 v132.Work.e1.Y), .d (.int .i64 v132.Work.e1.Z), .d (.int .i64 v132.Work.e2.X), .d (.int .i64 v132.Work.e2.Y), .d (.int .i64 v132.Work.e2.Z), .d (.int .i64 v132.Work.e3.X), .d (.int .i64 v132.Work.e3.Y), .d (.int .i64 v132.Work.e3.Z), .d (.int .i64 v132.Work.e4.X), .d (.int .i64 v132.Work.e4.Y), .d (.int .i64 v132.Work.e4.Z), .d (.int .i64 v132.Work.e5.X), .d (.int .i64 v132.Work.e5.Y), .d (.int .i64 v132.Work.e5.Z), .d (.list (List.map encR45Length v132.Lengths))], [.d (.int .i64 y161.2.Block), .d (.int .i64 y161.2.Code)], [.d (.int .i64 y165.2.Block), .d (.int .i64 y165.2.Code)]], []⟩ rfl ?_ ?_
        ·refine SWs.region ?_
         rcases Bool.eq_false_or_eq_true ((y161.2.Block == y165.2.Block) && (y161.2.Code == y165.2.Code)) with hb110 | hb110
         ·simp only [↓reduceIte, reduceCtorEq, nA, nS, nM, nE, nL, nT, nB, iT, iN, iE, and_self, SR, SV, SL, Bool.true_and, Bool.false_and, Bool.true_or, Bool.false_or, Bool.or_true, Bool.or_false, Bool.and_true, Bool.and_false, Bool.not_true, Bool.not_false, ag_49, sz_49, gE_49, und_47, hb110, encApiBlock, encApiMotion, encR45Length]
         ·simp only [↓reduceIte, reduceCtorEq, nA, nS, nM, nE, nL, nT, nB, iT, iN, iE, and_self, SR, SV, SL, Bool.true_and, Bool.false_and, Bool.true_or, Bool.false_or, Bool.or_true, Bool.or_false, Bool.and_true, Bool.and_false, Bool.not_true, Bool.not_false, ag_49, sz_49, gE_49, hb110, encApiBlock, encApiMotion, encR45Length]
        ·refine Mir.toK ?_
         refine Mir.cond rfl (fun hb112 => ?_) (fun hb112 => ?_)
         ·refine Mir.seqK ?_
          refine Mir.region fun e h => ?_
          simp only [↓reduceIte, reduceCtorEq, nA, nS, nM, nE, nL, nT, nB, iT, iN, iE, and_self, SR, SV, encApiBlock, encR45Length]
          refine Mir.use (e := e) ?_ h
          refine Mir.ret fun e h => ?_
          cases h
          simp only [↓reduceIte, reduceCtorEq, nA, nE, nL, and_self, and_true, true_and, SL, encApiBlock, encR45Length, Tryd.results4]
         ·refine Mir.skip ?_
          refine Mir.toK ?_
          refine Mir.seqK ?_
          refine Mir.seqK ?_
          refine Mir.region fun e h => ?_
          simp only [↓reduceIte, reduceCtorEq, nA, nS, nM, nE, nL, nT, nB, iT, iN, iE, and_self, SR, SV, und_47, encApiBlock, encApiMotion, encR45Length]
          refine Mir.use (e := e) ?_ h
          refine Mir.join (fun v204 : Unit => [U, U, U, U, U, U, U, U, U, U, U, U, U, U, U, U, U, U, U, U, U, U, U, U, U, U, U, U, U, U, U, U, U, U, U, U, U, U, U, U, U, U, U, U, U, U, U, U, U, U, U, U, U, U, U, U, U, U, U, U, U, U, U, U, U, U, U, U, U, U, U, U, U, U, U, U, U, U, U, U, U, U, U, U, U, U, U, U, U, U, U, U, U, U, U, U, U, U, U, U, U, U, U, U, U, U, U, U, U, U, U, U, U, U, U, U, U, U, U, U, U, U, U, U, U, U, U, U, U, U, U, U, U, U, U, U, U, U, U, U, U, U]) (fun v204 : Unit => ⟨[[.d (.int .i64 a1.Table.Work.e0.X), .d (.int .i64 a1.Table.Work.e0.Y), .d (.int .i64 a1.Table.Work.e0.Z), .d (.int .i64 a1.Table.Work.e1.X), .d (.int .i64 a1.Table.Work.e1.Y), .d (.int .i64 a1.Table.Work.e1.Z), .d (.int .i64 a1.Table.Work.e2.X), .d (.int .i64 a1.Table.Work.e2.Y), .d (.int .i64 a1.Table.Work.e2.Z), .d (.int .i64 a1.Table.Work.e3.X), .d (.int .i64 a1.Table.Work.e3.Y), .d (.int .i64 a1.Table.Work.e3.Z), .d (.int .i64 a1.Table.Work.e4.X), .d (.int .i64 a1.Table.Work.e4.Y), .d (.int .i64 a1.Table.Work.e4.Z), .d (.int .i64 a1.Table.Work.e5.X), .d (.int .i64 a1.Table.Work.e5.Y), .d (.int .i64 a1.Table.Work.e5.Z), .d (.list (List.map encR45Length a1.Table.Lengths)), .d (.int .i64 a1.From.X), .d (.int .i64 a1.From.Y), .d (.int .i64 a1.From.Z)], [.d (.int .i32 a2.e0), .d (.int .i32 a2.e1), .d (.int .i32 a2.e2)], [.d (.int .i64 (IntKind.i64.wrap (Int.tmod a2.e0 1000000))), .d (.int .i64 (IntKind.i64.wrap (Int.tmod a2.e1 1000000))), .d (.int .i64 (IntKind.i64.wrap (Int.tmod a2.e2 1000000)))], [.d (.int .i64 v132.Work.e0.X), .d (.int .i64 v132.Work.e0.Y), .d (.int .i64 v132.Work.e0.Z), .d (.int .i64 v132.Work.e1.X), .d (.int .i64 v132.Work.e1.Y), .d (.int .i64 v132.Work.e1.Z), .d (.int .i64 v132.Work.e2.X), .d (.int .i64 v132.Work.e2.Y), .d (.int .i64 v132.Work.e2.Z), .d (.int .i64 v132.Work.e3.X), .d (.int .i64 v132.Work.e3.Y), .d (.int .i64 v132.Work.e3.Z), .d (.int .i64 v132.Work.e4.X), .d (.int .i64 v132.Work.e4.Y), .d (.int .i64 v132.Work.e4.Z), .d (.int .i64 v132.Work.e5.X), .d (.int .i64 v132.Work.e5.Y), .d (.int .i64 v132.Work.e5.Z), .d (.list (List.map encR45Length v132.Lengths))], [.d (.int .i64 y161.2.Block), .d (.int .i64 y161.2.Code)], [.d (.int .i64 y165.2.Block), .d (.int .i64 y165.2.Code)]], []⟩) (fun _ => rfl) ?_ ?_
          ·refine Mir.block ?_
           refine Mir.guard fun qg205 => ?_
           refine Mir.range (fun (i234 : Nat) (v235 : Unit) => [U, U, U, U, U, U, U, .ptr 2 0, U, U, U, U, .d (.list (List.map encApiMotion y165.1)), U, U, U, U, U, U, U, U, U, U, U, U, U, U, U, U, U, U, U, U, U, U, U, U, U, U, U, U, U, U, U, U, U, U, U, U, U, U, U, U, U, U, U, U, U, U, U, U, U, U, U, U, U, U, U, U, U, U, U, U, U, U, U, U, U, U, U, U, U, U, U, U, U, U, U, U, U, U, U, U, U, U, U, U, U, U, U, U, U, U, U, U, U, U, U, U, U, U, U, U, U, U, U, U, U, .d (.list (List.map encApiMotion y161.1)), .d (.int .i64 (y161.1.length : Int)), .d (.int .i64 (i234 : Int)), U, U, U, U, U, U, U, U, U, U, U, U, U, U, U, U, U, U, U, U, U]) (fun (i234 : Nat) (v235 : Unit) => ⟨[[.d (.int .i64 a1.Table.Work.e0.X), .d (.int .i64 a1.Table.Work.e0.Y), .d (.int .i64 a1.Table.Work.e0.Z), .d (.int .i64 a1.Table.Work.e1.X), .d (.int .i64 a1.Table.Work.e1.Y), .d (.int .i64 a1.Table.Work.e1.Z), .d (.int .i64 a1.Table.Work.e2.X), .d (.int .i64 a1.Table.Work.e2.Y), .d (.int .i64 a1.Table.Work.e2.Z), .d (.int .i64 a1.Table.Work.e3.X), .d (.int .i64 a1.Table.Work.e3.Y), .d (.int .i64 a1.Table.Work.e3.Z), .d (.int .i64 a1.Table.Work.e4.X), .d (.int .i64 a1.Table.Work.e4.Y), .d (.int .i64 a1.Table.Work.e4.Z), .d (.int .i64 a1.Table.Work.e5.X), .d (.int .i64 a1.Table.Work.e5.Y), .d (.int .i64 a1.Table.Work.e5.Z), .d (.list (List.map encR45Length a1.Table.Lengths)), .d (.int .i64 a1.From.X), .d (.int .i64 a1.From.Y), .d (.int .i64 a1.From.Z)], [.d (.int .i32 a2.e0), .d (.int .i32 a2.e1), .d (.int .i32 a2.e2)], [.d (.int .i64 (IntKind.i64.wrap (Int.tmod a2.e0 1000000))), .d (.int .i64 (IntKind.i64.wrap (Int.tmod a2.e1 1000000))), .d (.int .i64 (IntKind.i64.wrap (Int.tmod a2.e2 1000000)))], [.d (.int .i64 v132.Work.e0.X), .d (.int .i64 v132.Work.e0.Y), .d (.int .i64 v132.Work.e0.Z), .d (.int .i64 v132.Work.e1.X), .d (.int .i64 v132.Work.e1.Y), .d (.int .i64 v132.Work.e1.Z), .d (.int .i64 v132.Work.e2.X), .d (.int .i64 v132.Work.e2.Y), .d (.int .i64 v132.Work.e2.Z), .d (.int .i64 v132.Work.e3.X), .d (.int .i64 v132.Work.e3.Y), .d (.int .i64 v132.Work.e3.Z), .d (.int .i64 v132.Work.e4.X), .d (.int .i64 v132.Work.e4.Y), .d (.int .i64 v132.Work.e4.Z), .d (.int .i64 v132.Work.e5.X), .d (.int .i64 v132.Work.e5.Y), .d (.int .i64 v132.Work.e5.Z), .d (.list (List.map encR45Length v132.Lengths))], [.d (.int .i64 y161.2.Block), .d (.int .i64 y161.2.Code)], [.d (.int .i64 y165.2.Block), .d (.int .i64 y165.2.Code)]], []⟩) qg205 (fun _ _ => rfl) (by simp only [↓reduceIte, reduceCtorEq, nA, nE, nL, and_self, and_true, true_and, SL, encApiBlock, encApiMotion, encR45Length, (nr rfl : ((0 : Nat) : Int) = 0)]) (by simp only [↓reduceIte, reduceCtorEq, nA, nE, nL, and_self, and_true, true_and, SL, encApiBlock, encApiMotion, encR45Length, (nr rfl : ((0 : Nat) : Int) = 0)]) ?_ ?_
           ·intro i234 e236 v235 qr203
            refine Mir.seqK ?_
            refine Mir.region fun e h => ?_
            simp only [↓reduceIte, reduceCtorEq, nA, nS, nM, nE, nL, nT, nB, iT, iN, iE, and_self, SR, SV, qr203, encApiBlock, encApiMotion, encR45Length]
            refine Mir.use (e := e) ?_ h
            refine Mir.seqK ?_
            refine Mir.condT rfl ?_
            refine Mir.skip ?_
            refine Mir.toK ?_
            refine Mir.seqK ?_
            refine Mir.block ?_
            refine Mir.seqK ?_
            refine Mir.region fun e h => ?_
            simp only [↓reduceIte, reduceCtorEq, nA, nS, nM, nE, nL, nT, nB, iT, iN, iE, and_self, SR, SV, und_47, sz_62, qr203, Int.toNat_natCast, ag_62, zero_62, encApiBlock, encApiMotion, encR45Length]
            refine Mir.use (e := e) ?_ h
            refine Mir.seqK ?_
            refine Mir.bind fun y240 hy210 => ?_
            refine Mir.bind fun y241 hy211 => ?_
            refine Mir.regionD [] (by kernel_rfl) fun e h => ?_
            simp only [↓reduceIte, reduceCtorEq, nA, nS, nM, nE, nL, nT, nB, iT, iN, iE, and_self, SR, SV, sepL_nil, sepL_cons, sepV_ne, sepV_d, sepV_i, true_and, Bool.and_self, fld_62_0, sz_24, ag_24, encApiBlock, encApiMotion, encR45Length]
            refine Spec.by (l47_plus_spec hy210) (by simp only [↓reduceIte, reduceCtorEq, nA, nE, nL, and_self, and_true, true_and, SL, encApiBlock, encApiMotion, encR45Length]) ?_
            simp only [↓reduceIte, reduceCtorEq, nA, nS, nM, nE, nL, nT, nB, iT, iN, iE, and_self, SR, SV, sepL_nil, sepL_cons, sepV_ne, sepV_d, sepV_i, true_and, Bool.and_self, fld_62_1, sz_24, ag_24, encApiBlock, encApiMotion, encR45Length]
            refine Spec.by (l47_plus_spec hy211) (by simp only [↓reduceIte, reduceCtorEq, nA, nE, nL, and_self, and_true, true_and, SL, encApiBlock, encApiMotion, encR45Length]) ?_
            simp only [↓reduceIte, reduceCtorEq, nA, nS, nM, nE, nL, nT, nB, iT, iN, iE, and_self, SR, SV, sepL_nil, sepL_cons, sepV_ne, sepV_d, sepV_i, true_and, Bool.and_self, fld_62_0, sz_24, fld_62_1, encApiBlock, encApiMotion, encR45Length]
            refine Mir.use (e := e) ?_ h
            refine Mir.seqK ?_
            refine Mir.bind fun e242 q212 => ?_
            replace q212 := gt_ok q212
            simp only [Int.toNat_natCast] at q212
            refine Mir.regionD [] (by kernel_rfl) fun e h => ?_
            simp only [↓reduceIte, reduceCtorEq, nA, nS, nM, nE, nL, nT, nB, iT, iN, iE, and_self, SR, SV, sepL_nil, sepL_cons, sepV_ne, sepV_d, sepV_i, true_and, Bool.and_self, ag_62, sz_62, und_47, q212, Int.toNat_natCast, gE_62, encApiBlock, encApiMotion, encR45Length]
            refine Mir.use (e := e) ?_ h
            refine Mir.cond rfl (fun hb214 => ?_) (fun hb214 => ?_)
            ·refine Mir.seqK ?_
             refine Mir.region fun e h => ?_
             simp only [↓reduceIte, reduceCtorEq, nA, nS, nM, nE, nL, nT, nB, iT, iN, iE, and_self, SR, SV, encApiBlock, encApiMotion, encR45Length]
             refine Mir.use (e := e) ?_ h
             refine Mir.ret fun e h => ?_
             cases h
             simp only [↓reduceIte, reduceCtorEq, nA, nE, nL, and_self, and_true, true_and, SL, encApiBlock, encApiMotion, encR45Length, Tryd.results4]
            ·refine Mir.skip ?_
             refine Mir.toB ?_
             refine Mir.toK ?_
             refine Mir.region fun e h => ?_
             simp only [↓reduceIte, reduceCtorEq, nA, nS, nM, nE, nL, nT, nB, iT, iN, iE, and_self, SR, SV, encApiBlock, encApiMotion, encR45Length]
             cases h
             simp only [↓reduceIte, reduceCtorEq, nA, nE, nL, and_self, and_true, true_and, SL, encApiBlock, encApiMotion, encR45Length, Tryd.results4, qr203]
           ·intro v235 qd204
            refine Mir.seqK ?_
            refine Mir.region fun e h => ?_
            simp only [↓reduceIte, reduceCtorEq, nA, nS, nM, nE, nL, nT, nB, iT, iN, iE, and_self, SR, SV, qd204, encApiBlock, encApiMotion, encR45Length]
            refine Mir.use (e := e) ?_ h
            refine Mir.seqK ?_
            refine Mir.condF rfl ?_
            refine Mir.exit fun e h => ?_
            cases h
            simp only [↓reduceIte, reduceCtorEq, nA, nE, nL, and_self, and_true, true_and, SL, encApiBlock, encApiMotion, encR45Length, Tryd.results4]
          ·intro v204
           refine Mir.toK ?_
           refine Mir.seqK ?_
           refine Mir.region fun e h => ?_
           simp only [↓reduceIte, reduceCtorEq, nA, nS, nM, nE, nL, nT, nB, iT, iN, iE, and_self, SR, SV, encApiBlock, encApiMotion, encR45Length]
           refine Mir.use (e := e) ?_ h
           refine Mir.ret fun e h => ?_
           cases h
           simp only [↓reduceIte, reduceCtorEq, nA, nE, nL, and_self, and_true, true_and, SL, encApiBlock, encApiMotion, encR45Length, Tryd.results4]

theorem co_4 : Tryd.prog.cellsOf 4 = 1 := by kernel_rfl
theorem opn_4 : Opn Tryd.prog 4 eBool inBool := Opn.bool Tryd.underlying4
theorem co_5 : Tryd.prog.cellsOf 5 = 1 := by kernel_rfl
theorem opn_5 : Opn Tryd.prog 5 (eInt .u8) (inInt .u8) := Opn.int Tryd.underlying5
theorem co_2 : Tryd.prog.cellsOf 2 = 1 := by kernel_rfl
theorem opn_2 : Opn Tryd.prog 2 (eInt .i64) (inInt .i64) := Opn.int Tryd.underlying2
def inApiWord (x : ApiWord) : Prop := (inInt .u8) x.Letter ∧ (inInt .i64) x.Value
theorem co_38 : Tryd.prog.cellsOf 38 = 2 := by kernel_rfl
theorem opn_38 : Opn Tryd.prog 38 encApiWord inApiWord := by
  intro w H enc fuel cs x h
  obtain ⟨xs, n, _, _, hl, hxl, hf⟩ := DataW.trod_struct Tryd.underlying38 h
  have hxl' : xs.length = 2 := hxl
  obtain ⟨s0, r0, o0⟩ := Opn.field hf 0 5 0 1 rfl co_5 (by omega) opn_5
  obtain ⟨s1, r1, o1⟩ := Opn.field hf 1 2 1 1 rfl co_2 (by omega) opn_2
  refine ⟨⟨s0, s1⟩, ?_, o0, o1⟩
  exact (RelC.cut 0 1 r0 rfl (RelC.cut 1 1 r1 rfl (RelC.nil (n := 2) (by rw [hl, co_38]; exact Nat.le_refl _))))
theorem co_40 : Tryd.prog.cellsOf 40 = 1 := by kernel_rfl
theorem opn_40 : Opn Tryd.prog 40 (eList encApiWord) (inList inApiWord) := Opn.slice Tryd.underlying40 opn_38 (fun _ => (rfl : _ = 2).trans co_38.symm) (by rw [co_38]; decide)
theorem co_9 : Tryd.prog.cellsOf 9 = 1 := by kernel_rfl
theorem opn_9 : Opn Tryd.prog 9 eStr inStr := Opn.str Tryd.underlying9
def inApiBlock (x : ApiBlock) : Prop := inBool x.Skip ∧ (inList inApiWord) x.Words ∧ inStr x.Comment
theorem co_42 : Tryd.prog.cellsOf 42 = 3 := by kernel_rfl
theorem opn_42 : Opn Tryd.prog 42 encApiBlock inApiBlock := by
  intro w H enc fuel cs x h
  obtain ⟨xs, n, _, _, hl, hxl, hf⟩ := DataW.trod_struct Tryd.underlying42 h
  have hxl' : xs.length = 3 := hxl
  obtain ⟨s0, r0, o0⟩ := Opn.field hf 0 4 0 1 rfl co_4 (by omega) opn_4
  obtain ⟨s1, r1, o1⟩ := Opn.field hf 1 40 1 1 rfl co_40 (by omega) opn_40
  obtain ⟨s2, r2, o2⟩ := Opn.field hf 2 9 2 1 rfl co_9 (by omega) opn_9
  refine ⟨⟨s0, s1, s2⟩, ?_, o0, o1, o2⟩
  exact (RelC.cut 0 1 r0 rfl (RelC.cut 1 1 r1 rfl (RelC.cut 2 1 r2 rfl (RelC.nil (n := 3) (by rw [hl, co_42]; exact Nat.le_refl _)))))
theorem co_43 : Tryd.prog.cellsOf 43 = 1 := by kernel_rfl
theorem opn_43 : Opn Tryd.prog 43 (eList encApiBlock) (inList inApiBlock) := Opn.slice Tryd.underlying43 opn_42 (fun _ => (rfl : _ = 3).trans co_42.symm) (by rw [co_42]; decide)
def inApiPos (x : ApiPos) : Prop := (inInt .i64) x.X ∧ (inInt .i64) x.Y ∧ (inInt .i64) x.Z
theorem co_24 : Tryd.prog.cellsOf 24 = 3 := by kernel_rfl
theorem opn_24 : Opn Tryd.prog 24 encApiPos inApiPos := by
  intro w H enc fuel cs x h
  obtain ⟨xs, n, _, _, hl, hxl, hf⟩ := DataW.trod_struct Tryd.underlying24 h
  have hxl' : xs.length = 3 := hxl
  obtain ⟨s0, r0, o0⟩ := Opn.field hf 0 2 0 1 rfl co_2 (by omega) opn_2
  obtain ⟨s1, r1, o1⟩ := Opn.field hf 1 2 1 1 rfl co_2 (by omega) opn_2
  obtain ⟨s2, r2, o2⟩ := Opn.field hf 2 2 2 1 rfl co_2 (by omega) opn_2
  refine ⟨⟨s0, s1, s2⟩, ?_, o0, o1, o2⟩
  exact (RelC.cut 0 1 r0 rfl (RelC.cut 1 1 r1 rfl (RelC.cut 2 1 r2 rfl (RelC.nil (n := 3) (by rw [hl, co_24]; exact Nat.le_refl _)))))
def inArr6ApiPos (x : Arr6ApiPos) : Prop := inApiPos x.e0 ∧ inApiPos x.e1 ∧ inApiPos x.e2 ∧ inApiPos x.e3 ∧ inApiPos x.e4 ∧ inApiPos x.e5
theorem co_25 : Tryd.prog.cellsOf 25 = 18 := by kernel_rfl
theorem opn_25 : Opn Tryd.prog 25 encArr6ApiPos inArr6ApiPos := by
  intro w H enc fuel cs x h
  obtain ⟨xs, n, _, _, hl, hxl, hf⟩ := DataW.trod_array Tryd.underlying25 h
  obtain ⟨s0, r0, o0⟩ := Opn.elem hf 0 3 co_24 (by omega) hxl opn_24
  obtain ⟨s1, r1, o1⟩ := Opn.elem hf 1 3 co_24 (by omega) hxl opn_24
  obtain ⟨s2, r2, o2⟩ := Opn.elem hf 2 3 co_24 (by omega) hxl opn_24
  obtain ⟨s3, r3, o3⟩ := Opn.elem hf 3 3 co_24 (by omega) hxl opn_24
  obtain ⟨s4, r4, o4⟩ := Opn.elem hf 4 3 co_24 (by omega) hxl opn_24
  obtain ⟨s5, r5, o5⟩ := Opn.elem hf 5 3 co_24 (by omega) hxl opn_24
  refine ⟨⟨s0, s1, s2, s3, s4, s5⟩, ?_, o0, o1, o2, o3, o4, o5⟩
  exact (RelC.cut 0 3 r0 rfl (RelC.cut 3 3 r1 rfl (RelC.cut 6 3 r2 rfl (RelC.cut 9 3 r3 rfl (RelC.cut 12 3 r4 rfl (RelC.cut 15 3 r5 rfl (RelC.nil (n := 18) (by rw [hl, co_25]; exact Nat.le_refl _))))))))
def inR45Length (x : R45Length) : Prop := (inInt .i64) x.Number ∧ (inInt .i64) x.Length
theorem co_93 : Tryd.prog.cellsOf 93 = 2 := by kernel_rfl
theorem opn_93 : Opn Tryd.prog 93 encR45Length inR45Length := by
  intro w H enc fuel cs x h
  obtain ⟨xs, n, _, _, hl, hxl, hf⟩ := DataW.trod_struct Tryd.underlying93 h
  have hxl' : xs.length = 2 := hxl
  obtain ⟨s0, r0, o0⟩ := Opn.field hf 0 2 0 1 rfl co_2 (by omega) opn_2
  obtain ⟨s1, r1, o1⟩ := Opn.field hf 1 2 1 1 rfl co_2 (by omega) opn_2
  refine ⟨⟨s0, s1⟩, ?_, o0, o1⟩
  exact (RelC.cut 0 1 r0 rfl (RelC.cut 1 1 r1 rfl (RelC.nil (n := 2) (by rw [hl, co_93]; exact Nat.le_refl _))))
theorem co_26 : Tryd.prog.cellsOf 26 = 1 := by kernel_rfl
theorem opn_26 : Opn Tryd.prog 26 (eList encR45Length) (inList inR45Length) := Opn.slice Tryd.underlying26 opn_93 (fun _ => (rfl : _ = 2).trans co_93.symm) (by rw [co_93]; decide)
def inR45Table (x : R45Table) : Prop := inArr6ApiPos x.Work ∧ (inList inR45Length) x.Lengths
theorem co_28 : Tryd.prog.cellsOf 28 = 19 := by kernel_rfl
theorem opn_28 : Opn Tryd.prog 28 encR45Table inR45Table := by
  intro w H enc fuel cs x h
  obtain ⟨xs, n, _, _, hl, hxl, hf⟩ := DataW.trod_struct Tryd.underlying28 h
  have hxl' : xs.length = 2 := hxl
  obtain ⟨s0, r0, o0⟩ := Opn.field hf 0 25 0 18 rfl co_25 (by omega) opn_25
  obtain ⟨s1, r1, o1⟩ := Opn.field hf 1 26 18 1 rfl co_26 (by omega) opn_26
  refine ⟨⟨s0, s1⟩, ?_, o0, o1⟩
  exact (RelC.cut 0 18 r0 rfl (RelC.cut 18 1 r1 rfl (RelC.nil (n := 19) (by rw [hl, co_28]; exact Nat.le_refl _))))
def inL47Setting (x : L47Setting) : Prop := inR45Table x.Table ∧ inApiPos x.From
theorem co_30 : Tryd.prog.cellsOf 30 = 22 := by kernel_rfl
theorem opn_30 : Opn Tryd.prog 30 encL47Setting inL47Setting := by
  intro w H enc fuel cs x h
  obtain ⟨xs, n, _, _, hl, hxl, hf⟩ := DataW.trod_struct Tryd.underlying30 h
  have hxl' : xs.length = 2 := hxl
  obtain ⟨s0, r0, o0⟩ := Opn.field hf 0 28 0 19 rfl co_28 (by omega) opn_28
  obtain ⟨s1, r1, o1⟩ := Opn.field hf 1 24 19 3 rfl co_24 (by omega) opn_24
  refine ⟨⟨s0, s1⟩, ?_, o0, o1⟩
  exact (RelC.cut 0 19 r0 rfl (RelC.cut 19 3 r1 rfl (RelC.nil (n := 22) (by rw [hl, co_30]; exact Nat.le_refl _))))
theorem co_21 : Tryd.prog.cellsOf 21 = 1 := by kernel_rfl
theorem opn_21 : Opn Tryd.prog 21 (eInt .i32) (inInt .i32) := Opn.int Tryd.underlying21
def inArr3I32 (x : Arr3I32) : Prop := (inInt .i32) x.e0 ∧ (inInt .i32) x.e1 ∧ (inInt .i32) x.e2
theorem co_58 : Tryd.prog.cellsOf 58 = 3 := by kernel_rfl
theorem opn_58 : Opn Tryd.prog 58 encArr3I32 inArr3I32 := by
  intro w H enc fuel cs x h
  obtain ⟨xs, n, _, _, hl, hxl, hf⟩ := DataW.trod_array Tryd.underlying58 h
  obtain ⟨s0, r0, o0⟩ := Opn.elem hf 0 1 co_21 (by omega) hxl opn_21
  obtain ⟨s1, r1, o1⟩ := Opn.elem hf 1 1 co_21 (by omega) hxl opn_21
  obtain ⟨s2, r2, o2⟩ := Opn.elem hf 2 1 co_21 (by omega) hxl opn_21
  refine ⟨⟨s0, s1, s2⟩, ?_, o0, o1, o2⟩
  exact (RelC.cut 0 1 r0 rfl (RelC.cut 1 1 r1 rfl (RelC.cut 2 1 r2 rfl (RelC.nil (n := 3) (by rw [hl, co_58]; exact Nat.le_refl _)))))
end Go.Proofs.YtlcfgpjgjdjpoaaDoor
