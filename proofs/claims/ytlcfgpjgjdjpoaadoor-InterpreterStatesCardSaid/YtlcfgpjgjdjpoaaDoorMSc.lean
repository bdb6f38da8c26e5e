/-
  Mirrors of functions, written by wip/mir.py.
-/
import Derived.Test.YtlcfgpjgjdjpoaaDoorMSb
namespace Go.Proofs.YtlcfgpjgjdjpoaaDoor
open Go.RowKit
open Nat renaming reduceAdd → nA, reduceSub → nS, reduceMul → nM, reduceEqDiff → nE, reduceLeDiff → nL, reduceLT → nT, reduceBEq → nB
open Int renaming reduceLT → iT, reduceToNat → iN, reduceEq → iE
set_option linter.unusedVariables false
set_option linter.unusedSimpArgs false
set_option maxRecDepth 100000

def inp_Step (a0 : ModalState) (a1 : CycleCycle) (a2 : ApiBlock) (a3 : TableTable) (a4 : ApiPos) : Option ((List ApiMotion) × ModalState × CycleCycle × Int) :=
  bindO (inp_checked a3 a4) fun (y101 : Int) =>
  if (y101 != 0) = true then
    bindO (some ()) fun (v103 : Unit) =>
    some ([], ModalState.mk 0 0 0 0 0 0 0 0, CycleCycle.mk 0 0 0 0 0 0 false, y101)
  else
    bindO (bindO (bk_Valid a2) fun (y104 : Int) =>
        if (y104 != 0) = true then
          some true
        else
          bindO (md_Check a2) fun (y105 : Int) =>
          if (y105 != 0) = true then
            some true
          else
            bindO (inp_known a2) fun (y106 : Bool) =>
            some (!y106)) fun (v107 : Bool) =>
    if v107 = true then
      bindO (some ()) fun (v109 : Unit) =>
      some ([], ModalState.mk 0 0 0 0 0 0 0 0, CycleCycle.mk 0 0 0 0 0 0 false, 1)
    else
      bindO (md_Apply a0 a2) fun (y110 : ModalState × Int) =>
      if (y110.2 != 0) = true then
        bindO (some ()) fun (v112 : Unit) =>
        some ([], ModalState.mk 0 0 0 0 0 0 0 0, CycleCycle.mk 0 0 0 0 0 0 false, y110.2)
      else
        bindO (inp_cycles y110.1.Motion) fun (y113 : Bool) =>
        bindO (if (!y113) = true then
              some (CycleCycle.mk 0 0 0 0 0 0 false)
            else
              some (CycleCycle.mk a1.Code a1.R a1.Z a1.Q a1.Rate a1.Initial a1.High)) fun (v114 : CycleCycle) =>
        bindO (inp_has a2 [88, 89, 90, 73, 74, 81, 82]) fun (y115 : Bool) =>
        if (!y115) = true then
          some ([], y110.1, v114, 0)
        else
          bindO (bindO (inp_has a2 [73, 74]) fun (y116 : Bool) =>
              if y116 = true then
                if (y110.1.Motion != 2000) = true then
                  if (y110.1.Motion != 3000) = true then
                    some true
                  else
                    bindO (inp_has a2 [81, 82]) fun (y117 : Bool) =>
                    if y117 = true then
                      bindO (inp_cycles y110.1.Motion) fun (y118 : Bool) =>
                      some (!y118)
                    else
                      some false
                else
                  bindO (inp_has a2 [81, 82]) fun (y119 : Bool) =>
                  if y119 = true then
                    bindO (inp_cycles y110.1.Motion) fun (y120 : Bool) =>
                    some (!y120)
                  else
                    some false
              else
                bindO (inp_has a2 [81, 82]) fun (y121 : Bool) =>
                if y121 = true then
                  bindO (inp_cycles y110.1.Motion) fun (y122 : Bool) =>
                  some (!y122)
                else
                  some false) fun (v123 : Bool) =>
          if v123 = true then
            bindO (some ()) fun (v125 : Unit) =>
            some ([], ModalState.mk 0 0 0 0 0 0 0 0, CycleCycle.mk 0 0 0 0 0 0 false, 1)
          else
            if ((y110.1.Motion == 80000) || ((y110.1.Motion != 0) && (decide (y110.1.Feed ≤ 0)))) = true then
              bindO (some ()) fun (v127 : Unit) =>
              some ([], ModalState.mk 0 0 0 0 0 0 0 0, CycleCycle.mk 0 0 0 0 0 0 false, 13)
            else
              bindO (if (y110.1.Length == 43000) = true then
                    some (IntKind.i64.wrap (Int.tdiv y110.1.Offset 1000))
                  else
                    some 0) fun (v128 : Int) =>
              bindO (tb_Work (TableTable.mk a3.Work a3.Lengths) y110.1.Work v128 a4) fun (y129 : ApiPos × Int) =>
              if (y129.2 != 0) = true then
                bindO (some ()) fun (v131 : Unit) =>
                some ([], ModalState.mk 0 0 0 0 0 0 0 0, CycleCycle.mk 0 0 0 0 0 0 false, y129.2)
              else
                bindO (inp_positions y110.1 v114 (ApiBlock.mk a2.Skip a2.Words a2.Comment) y129.1) fun (y132 : (List InterpreterReached) × CycleCycle × Int) =>
                if (y132.2.2 != 0) = true then
                  bindO (some ()) fun (v134 : Unit) =>
                  some ([], ModalState.mk 0 0 0 0 0 0 0 0, CycleCycle.mk 0 0 0 0 0 0 false, y132.2.2)
                else
                  bindX (guardO (okIdx y132.1) (
                      rangeX (fun (i274 : Nat) (e276 : InterpreterReached) (v275 : (List ApiMotion) × ApiPos) =>
                        bindO (tb_Machine (TableTable.mk a3.Work a3.Lengths) y110.1.Work v128 e276.at_) fun (y281 : ApiPos × Int) =>
                        if (y281.2 != 0) = true then
                          bindO (some ()) fun (v283 : Unit) =>
                          some (.ret (.ret ([], ModalState.mk 0 0 0 0 0 0 0 0, CycleCycle.mk 0 0 0 0 0 0 false, y281.2)))
                        else
                          bindO (if (!((y281.1.X == v275.2.X) && ((y281.1.Y == v275.2.Y) && (y281.1.Z == v275.2.Z)))) = true then
                                guardO (okLen (v275.1.length + 1)) (
                                some (v275.1 ++ [ApiMotion.mk v275.2 y281.1 e276.rate (IntKind.i64.wrap (Int.tdiv y110.1.Tool 1000)) 0]))
                              else
                                some v275.1) fun (v284 : (List ApiMotion)) =>
                          some (.go (v284, y281.1))) (fun (v275 : (List ApiMotion) × ApiPos) => some (.go (v275.1, v275.2))) y132.1 0 ([], a4))) fun (v238 : (List ApiMotion) × ApiPos) =>
                  some (v238.1, y110.1, y132.2.1, 0)
set_option maxHeartbeats 8000000 in
theorem inp_Step_specX {a0 : ModalState} {a1 : CycleCycle} {a2 : ApiBlock} {a3 : TableTable} {a4 : ApiPos} {y : (List ApiMotion) × ModalState × CycleCycle × Int} (h : inp_Step a0 a1 a2 a3 a4 = some y) : SpecX gP 21 [.agg [.d (.int .i64 a0.Motion), .d (.int .i64 a0.Distance), .d (.int .i64 a0.Work), .d (.int .i64 a0.Length), .d (.int .i64 a0.Return), .d (.int .i64 a0.Feed), .d (.int .i64 a0.Tool), .d (.int .i64 a0.Offset)], .agg [.d (.int .i64 a1.Code), .d (.int .i64 a1.R), .d (.int .i64 a1.Z), .d (.int .i64 a1.Q), .d (.int .i64 a1.Rate), .d (.int .i64 a1.Initial), .d (.bool a1.High)], .agg [.d (.bool a2.Skip), .d (.list (List.map encApiWord a2.Words)), .d (.str a2.Comment)], .agg [.d (.int .i64 a3.Work.e0.X), .d (.int .i64 a3.Work.e0.Y), .d (.int .i64 a3.Work.e0.Z), .d (.int .i64 a3.Work.e1.X), .d (.int .i64 a3.Work.e1.Y), .d (.int .i64 a3.Work.e1.Z), .d (.int .i64 a3.Work.e2.X), .d (.int .i64 a3.Work.e2.Y), .d (.int .i64 a3.Work.e2.Z), .d (.int .i64 a3.Work.e3.X), .d (.int .i64 a3.Work.e3.Y), .d (.int .i64 a3.Work.e3.Z), .d (.int .i64 a3.Work.e4.X), .d (.int .i64 a3.Work.e4.Y), .d (.int .i64 a3.Work.e4.Z), .d (.int .i64 a3.Work.e5.X), .d (.int .i64 a3.Work.e5.Y), .d (.int .i64 a3.Work.e5.Z), .d (.list (List.map encTableLength a3.Lengths))], .agg [.d (.int .i64 a4.X), .d (.int .i64 a4.Y), .d (.int .i64 a4.Z)]] 62 (List.map encApiMotion y.1) [.agg [.d (.int .i64 y.2.1.Motion), .d (.int .i64 y.2.1.Distance), .d (.int .i64 y.2.1.Work), .d (.int .i64 y.2.1.Length), .d (.int .i64 y.2.1.Return), .d (.int .i64 y.2.1.Feed), .d (.int .i64 y.2.1.Tool), .d (.int .i64 y.2.1.Offset)], .agg [.d (.int .i64 y.2.2.1.Code), .d (.int .i64 y.2.2.1.R), .d (.int .i64 y.2.2.1.Z), .d (.int .i64 y.2.2.1.Q), .d (.int .i64 y.2.2.1.Rate), .d (.int .i64 y.2.2.1.Initial), .d (.bool y.2.2.1.High)], .d (.int .i64 y.2.2.2)] := by
  refine specX_mir Tryd.func21 rfl (by kernel_rfl) (by kernel_rfl) (fun y : (List ApiMotion) × ModalState × CycleCycle × Int => List.map encApiMotion y.1) (fun y : (List ApiMotion) × ModalState × CycleCycle × Int => [.agg [.d (.int .i64 y.2.1.Motion), .d (.int .i64 y.2.1.Distance), .d (.int .i64 y.2.1.Work), .d (.int .i64 y.2.1.Length), .d (.int .i64 y.2.1.Return), .d (.int .i64 y.2.1.Feed), .d (.int .i64 y.2.1.Tool), .d (.int .i64 y.2.1.Offset)], .agg [.d (.int .i64 y.2.2.1.Code), .d (.int .i64 y.2.2.1.R), .d (.int .i64 y.2.2.1.Z), .d (.int .i64 y.2.2.1.Q), .d (.int .i64 y.2.2.1.Rate), .d (.int .i64 y.2.2.1.Initial), .d (.bool y.2.2.1.High)], .d (.int .i64 y.2.2.2)]) (sc_map (fun _ => rfl) _) (by rw [show Tryd.prog.cellsOf 62 = 9 from (by kernel_rfl)]; exact al_ApiMotion) rfl ?_ h
  unfold inp_Step
  simp only [List.replicate, List.length, nS, nA, Tryd.ntmps21, SV]
  refine Mir.seqK ?_
  refine Mir.region fun e h => ?_
  simp only [↓reduceIte, reduceCtorEq, nA, nS, nM, nE, nL, nT, nB, iT, iN, iE, and_self, SR, SV, zero_65, zero_68, encApiMotion, encApiWord, encInterpreterReached, encTableLength]
  refine Mir.use (e := e) ?_ h
  refine Mir.seqK ?_
  refine Mir.seqK ?_
  refine Mir.bind fun y101 hy1 => ?_
  refine Mir.region fun e h => ?_
  simp only [↓reduceIte, reduceCtorEq, nA, nS, nM, nE, nL, nT, nB, iT, iN, iE, and_self, SR, SV, ag_54, sz_54, ag_24, sz_24, encApiMotion, encApiWord, encInterpreterReached, encTableLength]
  refine SpecS.by (inp_checked_spec hy1) (by simp only [↓reduceIte, reduceCtorEq, nA, nE, nL, and_self, and_true, true_and, SL, encApiMotion, encApiWord, encInterpreterReached, encTableLength]) ?_
  simp only [↓reduceIte, reduceCtorEq, nA, nS, nM, nE, nL, nT, nB, iT, iN, iE, and_self, SR, SV, encApiMotion, encApiWord, encInterpreterReached, encTableLength]
  refine Mir.use (e := e) ?_ h
  refine Mir.seqK ?_
  refine Mir.region fun e h => ?_
  simp only [↓reduceIte, reduceCtorEq, nA, nS, nM, nE, nL, nT, nB, iT, iN, iE, and_self, SR, SV, encApiMotion, encApiWord, encInterpreterReached, encTableLength]
  refine Mir.use (e := e) ?_ h
  refine Mir.cond rfl (fun hb4 => ?_) (fun hb4 => ?_)
  · refine Mir.seqK ?_
    refine Mir.bind fun v103 hv5 => ?_
    refine Mir.region fun e h => ?_
    simp only [↓reduceIte, reduceCtorEq, nA, nS, nM, nE, nL, nT, nB, iT, iN, iE, and_self, SR, SV, encApiWord, encTableLength]
    refine SpecS.inl Tryd.func46 rfl (by kernel_rfl) (by kernel_rfl) (fun v103 : Unit => .tuple [.nil, .agg [.d (.int .i64 0), .d (.int .i64 0), .d (.int .i64 0), .d (.int .i64 0), .d (.int .i64 0), .d (.int .i64 0), .d (.int .i64 0), .d (.int .i64 0)], .agg [.d (.int .i64 0), .d (.int .i64 0), .d (.int .i64 0), .d (.int .i64 0), .d (.int .i64 0), .d (.int .i64 0), .d (.bool false)], .d (.int .i64 y101)]) (fun v103 : Unit => ⟨[[.d (.int .i64 a0.Motion), .d (.int .i64 a0.Distance), .d (.int .i64 a0.Work), .d (.int .i64 a0.Length), .d (.int .i64 a0.Return), .d (.int .i64 a0.Feed), .d (.int .i64 a0.Tool), .d (.int .i64 a0.Offset)], [.d (.int .i64 a1.Code), .d (.int .i64 a1.R), .d (.int .i64 a1.Z), .d (.int .i64 a1.Q), .d (.int .i64 a1.Rate), .d (.int .i64 a1.Initial), .d (.bool a1.High)], [.d (.bool a2.Skip), .d (.list (List.map encApiWord a2.Words)), .d (.str a2.Comment)], [.d (.int .i64 a3.Work.e0.X), .d (.int .i64 a3.Work.e0.Y), .d (.int .i64 a3.Work.e0.Z), .d (.int .i64 a3.Work.e1.X), .d (.int .i64 a3.Work.e1.Y), .d (.int .i64 a3.Work.e1.Z), .d (.int .i64 a3.Work.e2.X), .d (.int .i64 a3.Work.e2.Y), .d (.int .i64 a3.Work.e2.Z), .d (.int .i64 a3.Work.e3.X), .d (.int .i64 a3.Work.e3.Y), .d (.int .i64 a3.Work.e3.Z), .d (.int .i64 a3.Work.e4.X), .d (.int .i64 a3.Work.e4.Y), .d (.int .i64 a3.Work.e4.Z), .d (.int .i64 a3.Work.e5.X), .d (.int .i64 a3.Work.e5.Y), .d (.int .i64 a3.Work.e5.Z), .d (.list (List.map encTableLength a3.Lengths))], [.d (.int .i64 a4.X), .d (.int .i64 a4.Y), .d (.int .i64 a4.Z)], [.d (.int .i64 0), .d (.int .i64 0), .d (.int .i64 0), .d (.int .i64 0), .d (.int .i64 0), .d (.int .i64 0), .d (.int .i64 0), .d (.int .i64 0)], [.d (.int .i64 0), .d (.int .i64 0), .d (.int .i64 0), .d (.int .i64 0), .d (.int .i64 0), .d (.int .i64 0), .d (.bool false)]], []⟩) hv5 rfl ?_ ?_
    · simp only [List.replicate, List.length, nS, nA, Tryd.ntmps46, SV]
      refine Mir.seqK ?_
      refine Mir.region fun e h => ?_
      simp only [↓reduceIte, reduceCtorEq, nA, nS, nM, nE, nL, nT, nB, iT, iN, iE, and_self, SR, SV, zero_65, zero_68, encApiWord, encTableLength]
      refine Mir.use (e := e) ?_ h
      refine Mir.seqK ?_
      refine Mir.region fun e h => ?_
      simp only [↓reduceIte, reduceCtorEq, nA, nS, nM, nE, nL, nT, nB, iT, iN, iE, and_self, SR, SV, zero_65, pl_65, zero_68, pl_68, sz_65, sz_68, encApiWord, encTableLength]
      refine Mir.use (e := e) ?_ h
      refine Mir.ret fun e h => ?_
      cases h
      simp only [↓reduceIte, reduceCtorEq, nA, nE, nL, and_self, and_true, true_and, SL, encApiWord, encTableLength, Tryd.results46, ag_65, sz_65, ag_68, sz_68]
    simp only [↓reduceIte, reduceCtorEq, nA, nS, nM, nE, nL, nT, nB, iT, iN, iE, and_self, SR, SV, sz_65, sz_68, encApiWord, encTableLength]
    refine Mir.use (e := e) ?_ h
    refine Mir.ret fun e h => ?_
    cases h
    simp only [↓reduceIte, reduceCtorEq, nA, nE, nL, and_self, and_true, true_and, SL, encApiWord, encTableLength, Tryd.results21, ag_65, sz_65, ag_68, sz_68, fx_r, fx_n, xr_o, xr_n, rowT]
  · refine Mir.skip ?_
    refine Mir.toK ?_
    refine Mir.seqK ?_
    refine Mir.seqK ?_
    refine Mir.joinO (fun v107 : Bool => [U, U, U, U, U, .ptr 0 0, .ptr 1 0, .ptr 2 0, .ptr 3 0, .ptr 4 0, U, .ptr 5 0, .ptr 6 0, U, U, U, U, U, U, U, U, U, U, U, U, U, U, U, U, U, U, U, U, U, U, U, U, U, U, U, U, U, U, U, U, U, U, .d (.bool v107), U, U, U, U, U, U, U, U, U, U, U, U, U, U, U, U, U, U, U, U, U, U, U, U, U, U, U, U, U, U, U, U, U, U, U, U, U, U, U, U, U, U, U, U, U, U, U, U, U, U, U, U, U, U, U, U, U, U, U, U, U, U, U, U, U, U, U, U, U, U, U, U, U, U, U, U, U, U, U, U, U, U, U, U, U, U, U, U, U, U, U, U, U, U, U, U, U, U, U, U, U, U, U, U, U, U, U, U, U, U, U, U, U, U, U, U, U, U, U, U, U, U, U, U, U, U, U, U, U, U, U, U, U, U, U, U, U, U, U, U, U, U, U, U, U, U, U, U, U, U, U, U, U, U, U, U, U]) (fun v107 : Bool => ⟨[[.d (.int .i64 a0.Motion), .d (.int .i64 a0.Distance), .d (.int .i64 a0.Work), .d (.int .i64 a0.Length), .d (.int .i64 a0.Return), .d (.int .i64 a0.Feed), .d (.int .i64 a0.Tool), .d (.int .i64 a0.Offset)], [.d (.int .i64 a1.Code), .d (.int .i64 a1.R), .d (.int .i64 a1.Z), .d (.int .i64 a1.Q), .d (.int .i64 a1.Rate), .d (.int .i64 a1.Initial), .d (.bool a1.High)], [.d (.bool a2.Skip), .d (.list (List.map encApiWord a2.Words)), .d (.str a2.Comment)], [.d (.int .i64 a3.Work.e0.X), .d (.int .i64 a3.Work.e0.Y), .d (.int .i64 a3.Work.e0.Z), .d (.int .i64 a3.Work.e1.X), .d (.int .i64 a3.Work.e1.Y), .d (.int .i64 a3.Work.e1.Z), .d (.int .i64 a3.Work.e2.X), .d (.int .i64 a3.Work.e2.Y), .d (.int .i64 a3.Work.e2.Z), .d (.int .i64 a3.Work.e3.X), .d (.int .i64 a3.Work.e3.Y), .d (.int .i64 a3.Work.e3.Z), .d (.int .i64 a3.Work.e4.X), .d (.int .i64 a3.Work.e4.Y), .d (.int .i64 a3.Work.e4.Z), .d (.int .i64 a3.Work.e5.X), .d (.int .i64 a3.Work.e5.Y), .d (.int .i64 a3.Work.e5.Z), .d (.list (List.map encTableLength a3.Lengths))], [.d (.int .i64 a4.X), .d (.int .i64 a4.Y), .d (.int .i64 a4.Z)], [.d (.int .i64 0), .d (.int .i64 0), .d (.int .i64 0), .d (.int .i64 0), .d (.int .i64 0), .d (.int .i64 0), .d (.int .i64 0), .d (.int .i64 0)], [.d (.int .i64 0), .d (.int .i64 0), .d (.int .i64 0), .d (.int .i64 0), .d (.int .i64 0), .d (.int .i64 0), .d (.bool false)]], []⟩) (fun _ => rfl) ?_ ?_
    · refine Mir.bind fun y104 hy6 => ?_
      refine Mir.ite (fun hb7 => ?_) (fun hb7 => ?_)
      · refine Mir.region fun e h => ?_
        simp only [↓reduceIte, reduceCtorEq, nA, nS, nM, nE, nL, nT, nB, iT, iN, iE, and_self, SR, SV, ag_42, sz_42, encApiWord, encTableLength, hb7]
        refine SpecS.by (bk_Valid_spec hy6) (by simp only [↓reduceIte, reduceCtorEq, nA, nE, nL, and_self, and_true, true_and, SL, encApiWord, encTableLength, hb7]) ?_
        simp only [↓reduceIte, reduceCtorEq, nA, nS, nM, nE, nL, nT, nB, iT, iN, iE, and_self, SR, SV, encApiWord, encTableLength, hb7]
        cases h
        simp only [↓reduceIte, reduceCtorEq, nA, nE, nL, and_self, and_true, true_and, SL, encApiWord, encTableLength, hb7]
      · refine Mir.bind fun y105 hy8 => ?_
        refine Mir.ite (fun hb9 => ?_) (fun hb9 => ?_)
        · refine Mir.region fun e h => ?_
          simp only [↓reduceIte, reduceCtorEq, nA, nS, nM, nE, nL, nT, nB, iT, iN, iE, and_self, SR, SV, ag_42, sz_42, encApiWord, encTableLength, hb7, hb9]
          refine SpecS.by (bk_Valid_spec hy6) (by simp only [↓reduceIte, reduceCtorEq, nA, nE, nL, and_self, and_true, true_and, SL, encApiWord, encTableLength, hb7, hb9]) ?_
          simp only [↓reduceIte, reduceCtorEq, nA, nS, nM, nE, nL, nT, nB, iT, iN, iE, and_self, SR, SV, ag_42, sz_42, encApiWord, encTableLength, hb7, hb9]
          refine SpecS.by (md_Check_spec hy8) (by simp only [↓reduceIte, reduceCtorEq, nA, nE, nL, and_self, and_true, true_and, SL, encApiWord, encTableLength, hb7, hb9]) ?_
          simp only [↓reduceIte, reduceCtorEq, nA, nS, nM, nE, nL, nT, nB, iT, iN, iE, and_self, SR, SV, encApiWord, encTableLength, hb7, hb9]
          cases h
          simp only [↓reduceIte, reduceCtorEq, nA, nE, nL, and_self, and_true, true_and, SL, encApiWord, encTableLength, hb7, hb9]
        · refine Mir.bind fun y106 hy10 => ?_
          refine Mir.region fun e h => ?_
          simp only [↓reduceIte, reduceCtorEq, nA, nS, nM, nE, nL, nT, nB, iT, iN, iE, and_self, SR, SV, ag_42, sz_42, encApiWord, encTableLength, hb7, hb9]
          refine SpecS.by (bk_Valid_spec hy6) (by simp only [↓reduceIte, reduceCtorEq, nA, nE, nL, and_self, and_true, true_and, SL, encApiWord, encTableLength, hb7, hb9]) ?_
          simp only [↓reduceIte, reduceCtorEq, nA, nS, nM, nE, nL, nT, nB, iT, iN, iE, and_self, SR, SV, ag_42, sz_42, encApiWord, encTableLength, hb7, hb9]
          refine SpecS.by (md_Check_spec hy8) (by simp only [↓reduceIte, reduceCtorEq, nA, nE, nL, and_self, and_true, true_and, SL, encApiWord, encTableLength, hb7, hb9]) ?_
          simp only [↓reduceIte, reduceCtorEq, nA, nS, nM, nE, nL, nT, nB, iT, iN, iE, and_self, SR, SV, ag_42, sz_42, encApiWord, encTableLength, hb7, hb9]
          refine SpecS.by (inp_known_spec hy10) (by simp only [↓reduceIte, reduceCtorEq, nA, nE, nL, and_self, and_true, true_and, SL, encApiWord, encTableLength, hb7, hb9]) ?_
          simp only [↓reduceIte, reduceCtorEq, nA, nS, nM, nE, nL, nT, nB, iT, iN, iE, and_self, SR, SV, encApiWord, encTableLength, hb7, hb9]
          cases h
          simp only [↓reduceIte, reduceCtorEq, nA, nE, nL, and_self, and_true, true_and, SL, encApiWord, encTableLength, hb7, hb9]
    · intro v107
      refine Mir.toK ?_
      refine Mir.cond rfl (fun hb13 => ?_) (fun hb13 => ?_)
      · refine Mir.seqK ?_
        refine Mir.bind fun v109 hv14 => ?_
        refine Mir.region fun e h => ?_
        simp only [↓reduceIte, reduceCtorEq, nA, nS, nM, nE, nL, nT, nB, iT, iN, iE, and_self, SR, SV, encApiWord, encTableLength]
        refine SpecS.inl Tryd.func46 rfl (by kernel_rfl) (by kernel_rfl) (fun v109 : Unit => .tuple [.nil, .agg [.d (.int .i64 0), .d (.int .i64 0), .d (.int .i64 0), .d (.int .i64 0), .d (.int .i64 0), .d (.int .i64 0), .d (.int .i64 0), .d (.int .i64 0)], .agg [.d (.int .i64 0), .d (.int .i64 0), .d (.int .i64 0), .d (.int .i64 0), .d (.int .i64 0), .d (.int .i64 0), .d (.bool false)], .d (.int .i64 1)]) (fun v109 : Unit => ⟨[[.d (.int .i64 a0.Motion), .d (.int .i64 a0.Distance), .d (.int .i64 a0.Work), .d (.int .i64 a0.Length), .d (.int .i64 a0.Return), .d (.int .i64 a0.Feed), .d (.int .i64 a0.Tool), .d (.int .i64 a0.Offset)], [.d (.int .i64 a1.Code), .d (.int .i64 a1.R), .d (.int .i64 a1.Z), .d (.int .i64 a1.Q), .d (.int .i64 a1.Rate), .d (.int .i64 a1.Initial), .d (.bool a1.High)], [.d (.bool a2.Skip), .d (.list (List.map encApiWord a2.Words)), .d (.str a2.Comment)], [.d (.int .i64 a3.Work.e0.X), .d (.int .i64 a3.Work.e0.Y), .d (.int .i64 a3.Work.e0.Z), .d (.int .i64 a3.Work.e1.X), .d (.int .i64 a3.Work.e1.Y), .d (.int .i64 a3.Work.e1.Z), .d (.int .i64 a3.Work.e2.X), .d (.int .i64 a3.Work.e2.Y), .d (.int .i64 a3.Work.e2.Z), .d (.int .i64 a3.Work.e3.X), .d (.int .i64 a3.Work.e3.Y), .d (.int .i64 a3.Work.e3.Z), .d (.int .i64 a3.Work.e4.X), .d (.int .i64 a3.Work.e4.Y), .d (.int .i64 a3.Work.e4.Z), .d (.int .i64 a3.Work.e5.X), .d (.int .i64 a3.Work.e5.Y), .d (.int .i64 a3.Work.e5.Z), .d (.list (List.map encTableLength a3.Lengths))], [.d (.int .i64 a4.X), .d (.int .i64 a4.Y), .d (.int .i64 a4.Z)], [.d (.int .i64 0), .d (.int .i64 0), .d (.int .i64 0), .d (.int .i64 0), .d (.int .i64 0), .d (.int .i64 0), .d (.int .i64 0), .d (.int .i64 0)], [.d (.int .i64 0), .d (.int .i64 0), .d (.int .i64 0), .d (.int .i64 0), .d (.int .i64 0), .d (.int .i64 0), .d (.bool false)]], []⟩) hv14 rfl ?_ ?_
        · simp only [List.replicate, List.length, nS, nA, Tryd.ntmps46, SV]
          refine Mir.seqK ?_
          refine Mir.region fun e h => ?_
          simp only [↓reduceIte, reduceCtorEq, nA, nS, nM, nE, nL, nT, nB, iT, iN, iE, and_self, SR, SV, zero_65, zero_68, encApiWord, encTableLength]
          refine Mir.use (e := e) ?_ h
          refine Mir.seqK ?_
          refine Mir.region fun e h => ?_
          simp only [↓reduceIte, reduceCtorEq, nA, nS, nM, nE, nL, nT, nB, iT, iN, iE, and_self, SR, SV, zero_65, pl_65, zero_68, pl_68, sz_65, sz_68, encApiWord, encTableLength]
          refine Mir.use (e := e) ?_ h
          refine Mir.ret fun e h => ?_
          cases h
          simp only [↓reduceIte, reduceCtorEq, nA, nE, nL, and_self, and_true, true_and, SL, encApiWord, encTableLength, Tryd.results46, ag_65, sz_65, ag_68, sz_68]
        simp only [↓reduceIte, reduceCtorEq, nA, nS, nM, nE, nL, nT, nB, iT, iN, iE, and_self, SR, SV, sz_65, sz_68, encApiWord, encTableLength]
        refine Mir.use (e := e) ?_ h
        refine Mir.ret fun e h => ?_
        cases h
        simp only [↓reduceIte, reduceCtorEq, nA, nE, nL, and_self, and_true, true_and, SL, encApiWord, encTableLength, Tryd.results21, ag_65, sz_65, ag_68, sz_68, fx_r, fx_n, xr_o, xr_n, rowT]
      · refine Mir.skip ?_
        refine Mir.toK ?_
        refine Mir.seqK ?_
        refine Mir.bind fun y110 hy15 => ?_
        refine Mir.region fun e h => ?_
        simp only [↓reduceIte, reduceCtorEq, nA, nS, nM, nE, nL, nT, nB, iT, iN, iE, and_self, SR, SV, ag_65, sz_65, ag_42, sz_42, encApiMotion, encApiWord, encInterpreterReached, encTableLength]
        refine SpecS.by (md_Apply_spec hy15) (by simp only [↓reduceIte, reduceCtorEq, nA, nE, nL, and_self, and_true, true_and, SL, encApiMotion, encApiWord, encInterpreterReached, encTableLength]) ?_
        simp only [↓reduceIte, reduceCtorEq, nA, nS, nM, nE, nL, nT, nB, iT, iN, iE, and_self, SR, SV, sz_65, encApiMotion, encApiWord, encInterpreterReached, encTableLength]
        refine Mir.use (e := e) ?_ h
        refine Mir.seqK ?_
        refine Mir.seqK ?_
        refine Mir.region fun e h => ?_
        simp only [↓reduceIte, reduceCtorEq, nA, nS, nM, nE, nL, nT, nB, iT, iN, iE, and_self, SR, SV, encApiMotion, encApiWord, encInterpreterReached, encTableLength]
        refine Mir.use (e := e) ?_ h
        refine Mir.cond rfl (fun hb18 => ?_) (fun hb18 => ?_)
        · refine Mir.seqK ?_
          refine Mir.bind fun v112 hv19 => ?_
          refine Mir.region fun e h => ?_
          simp only [↓reduceIte, reduceCtorEq, nA, nS, nM, nE, nL, nT, nB, iT, iN, iE, and_self, SR, SV, encApiWord, encTableLength]
          refine SpecS.inl Tryd.func46 rfl (by kernel_rfl) (by kernel_rfl) (fun v112 : Unit => .tuple [.nil, .agg [.d (.int .i64 0), .d (.int .i64 0), .d (.int .i64 0), .d (.int .i64 0), .d (.int .i64 0), .d (.int .i64 0), .d (.int .i64 0), .d (.int .i64 0)], .agg [.d (.int .i64 0), .d (.int .i64 0), .d (.int .i64 0), .d (.int .i64 0), .d (.int .i64 0), .d (.int .i64 0), .d (.bool false)], .d (.int .i64 y110.2)]) (fun v112 : Unit => ⟨[[.d (.int .i64 y110.1.Motion), .d (.int .i64 y110.1.Distance), .d (.int .i64 y110.1.Work), .d (.int .i64 y110.1.Length), .d (.int .i64 y110.1.Return), .d (.int .i64 y110.1.Feed), .d (.int .i64 y110.1.Tool), .d (.int .i64 y110.1.Offset)], [.d (.int .i64 a1.Code), .d (.int .i64 a1.R), .d (.int .i64 a1.Z), .d (.int .i64 a1.Q), .d (.int .i64 a1.Rate), .d (.int .i64 a1.Initial), .d (.bool a1.High)], [.d (.bool a2.Skip), .d (.list (List.map encApiWord a2.Words)), .d (.str a2.Comment)], [.d (.int .i64 a3.Work.e0.X), .d (.int .i64 a3.Work.e0.Y), .d (.int .i64 a3.Work.e0.Z), .d (.int .i64 a3.Work.e1.X), .d (.int .i64 a3.Work.e1.Y), .d (.int .i64 a3.Work.e1.Z), .d (.int .i64 a3.Work.e2.X), .d (.int .i64 a3.Work.e2.Y), .d (.int .i64 a3.Work.e2.Z), .d (.int .i64 a3.Work.e3.X), .d (.int .i64 a3.Work.e3.Y), .d (.int .i64 a3.Work.e3.Z), .d (.int .i64 a3.Work.e4.X), .d (.int .i64 a3.Work.e4.Y), .d (.int .i64 a3.Work.e4.Z), .d (.int .i64 a3.Work.e5.X), .d (.int .i64 a3.Work.e5.Y), .d (.int .i64 a3.Work.e5.Z), .d (.list (List.map encTableLength a3.Lengths))], [.d (.int .i64 a4.X), .d (.int .i64 a4.Y), .d (.int .i64 a4.Z)], [.d (.int .i64 0), .d (.int .i64 0), .d (.int .i64 0), .d (.int .i64 0), .d (.int .i64 0), .d (.int .i64 0), .d (.int .i64 0), .d (.int .i64 0)], [.d (.int .i64 0), .d (.int .i64 0), .d (.int .i64 0), .d (.int .i64 0), .d (.int .i64 0), .d (.int .i64 0), .d (.bool false)]], []⟩) hv19 rfl ?_ ?_
          · simp only [List.replicate, List.length, nS, nA, Tryd.ntmps46, SV]
            refine Mir.seqK ?_
            refine Mir.region fun e h => ?_
            simp only [↓reduceIte, reduceCtorEq, nA, nS, nM, nE, nL, nT, nB, iT, iN, iE, and_self, SR, SV, zero_65, zero_68, encApiWord, encTableLength]
            refine Mir.use (e := e) ?_ h
            refine Mir.seqK ?_
            refine Mir.region fun e h => ?_
            simp only [↓reduceIte, reduceCtorEq, nA, nS, nM, nE, nL, nT, nB, iT, iN, iE, and_self, SR, SV, zero_65, pl_65, zero_68, pl_68, sz_65, sz_68, encApiWord, encTableLength]
            refine Mir.use (e := e) ?_ h
            refine Mir.ret fun e h => ?_
            cases h
            simp only [↓reduceIte, reduceCtorEq, nA, nE, nL, and_self, and_true, true_and, SL, encApiWord, encTableLength, Tryd.results46, ag_65, sz_65, ag_68, sz_68]
          simp only [↓reduceIte, reduceCtorEq, nA, nS, nM, nE, nL, nT, nB, iT, iN, iE, and_self, SR, SV, sz_65, sz_68, encApiWord, encTableLength]
          refine Mir.use (e := e) ?_ h
          refine Mir.ret fun e h => ?_
          cases h
          simp only [↓reduceIte, reduceCtorEq, nA, nE, nL, and_self, and_true, true_and, SL, encApiWord, encTableLength, Tryd.results21, ag_65, sz_65, ag_68, sz_68, fx_r, fx_n, xr_o, xr_n, rowT]
        · refine Mir.skip ?_
          refine Mir.toK ?_
          refine Mir.seqK ?_
          refine Mir.seqK ?_
          refine Mir.bind fun y113 hy20 => ?_
          refine Mir.region fun e h => ?_
          simp only [↓reduceIte, reduceCtorEq, nA, nS, nM, nE, nL, nT, nB, iT, iN, iE, and_self, SR, SV, fld_65_0, sz_2, ag_2, encApiMotion, encApiWord, encInterpreterReached, encTableLength]
          refine SpecS.by (inp_cycles_spec hy20) (by simp only [↓reduceIte, reduceCtorEq, nA, nE, nL, and_self, and_true, true_and, SL, encApiMotion, encApiWord, encInterpreterReached, encTableLength]) ?_
          simp only [↓reduceIte, reduceCtorEq, nA, nS, nM, nE, nL, nT, nB, iT, iN, iE, and_self, SR, SV, encApiMotion, encApiWord, encInterpreterReached, encTableLength]
          refine Mir.use (e := e) ?_ h
          refine Mir.joinO (fun v114 : CycleCycle => [U, U, U, U, U, .ptr 0 0, .ptr 1 0, .ptr 2 0, .ptr 3 0, .ptr 4 0, U, .ptr 5 0, .ptr 6 0, U, U, U, U, U, U, U, U, U, U, U, U, U, U, U, U, U, U, U, U, U, U, U, U, U, U, U, U, U, U, U, U, U, U, U, U, U, U, U, U, U, U, U, U, U, U, U, U, U, U, U, U, U, U, U, U, U, U, U, U, U, U, U, U, U, U, U, U, U, U, U, U, U, U, U, U, U, U, U, U, U, U, U, U, U, U, U, U, U, U, U, U, U, U, U, U, U, U, U, U, U, U, U, U, U, U, U, U, U, U, U, U, U, U, U, U, U, U, U, U, U, U, U, U, U, U, U, U, U, U, U, U, U, U, U, U, U, U, U, U, U, U, U, U, U, U, U, U, U, U, U, U, U, U, U, U, U, U, U, U, U, U, U, U, U, U, U, U, U, U, U, U, U, U, U, U, U, U, U, U, U, U, U, U, U, U, U, U, U, U, U, U]) (fun v114 : CycleCycle => ⟨[[.d (.int .i64 y110.1.Motion), .d (.int .i64 y110.1.Distance), .d (.int .i64 y110.1.Work), .d (.int .i64 y110.1.Length), .d (.int .i64 y110.1.Return), .d (.int .i64 y110.1.Feed), .d (.int .i64 y110.1.Tool), .d (.int .i64 y110.1.Offset)], [.d (.int .i64 v114.Code), .d (.int .i64 v114.R), .d (.int .i64 v114.Z), .d (.int .i64 v114.Q), .d (.int .i64 v114.Rate), .d (.int .i64 v114.Initial), .d (.bool v114.High)], [.d (.bool a2.Skip), .d (.list (List.map encApiWord a2.Words)), .d (.str a2.Comment)], [.d (.int .i64 a3.Work.e0.X), .d (.int .i64 a3.Work.e0.Y), .d (.int .i64 a3.Work.e0.Z), .d (.int .i64 a3.Work.e1.X), .d (.int .i64 a3.Work.e1.Y), .d (.int .i64 a3.Work.e1.Z), .d (.int .i64 a3.Work.e2.X), .d (.int .i64 a3.Work.e2.Y), .d (.int .i64 a3.Work.e2.Z), .d (.int .i64 a3.Work.e3.X), .d (.int .i64 a3.Work.e3.Y), .d (.int .i64 a3.Work.e3.Z), .d (.int .i64 a3.Work.e4.X), .d (.int .i64 a3.Work.e4.Y), .d (.int .i64 a3.Work.e4.Z), .d (.int .i64 a3.Work.e5.X), .d (.int .i64 a3.Work.e5.Y), .d (.int .i64 a3.Work.e5.Z), .d (.list (List.map encTableLength a3.Lengths))], [.d (.int .i64 a4.X), .d (.int .i64 a4.Y), .d (.int .i64 a4.Z)], [.d (.int .i64 0), .d (.int .i64 0), .d (.int .i64 0), .d (.int .i64 0), .d (.int .i64 0), .d (.int .i64 0), .d (.int .i64 0), .d (.int .i64 0)], [.d (.int .i64 0), .d (.int .i64 0), .d (.int .i64 0), .d (.int .i64 0), .d (.int .i64 0), .d (.int .i64 0), .d (.bool false)]], []⟩) (fun _ => rfl) ?_ ?_
          · refine Mir.cond rfl (fun hb22 => ?_) (fun hb22 => ?_)
            · refine Mir.region fun e h => ?_
              simp only [↓reduceIte, reduceCtorEq, nA, nS, nM, nE, nL, nT, nB, iT, iN, iE, and_self, SR, SV, zero_68, pl_68, sz_68, encApiWord, encTableLength]
              cases h
              simp only [↓reduceIte, reduceCtorEq, nA, nE, nL, and_self, and_true, true_and, SL, encApiWord, encTableLength, Tryd.results21, ag_65, sz_65, ag_68, sz_68]
            · refine Mir.skip fun e h => ?_
              cases h
              simp only [↓reduceIte, reduceCtorEq, nA, nE, nL, and_self, and_true, true_and, SL, encApiWord, encTableLength, Tryd.results21, ag_65, sz_65, ag_68, sz_68]
          · intro v114
            refine Mir.toK ?_
            refine Mir.seqK ?_
            refine Mir.seqK ?_
            refine Mir.bind fun y115 hy23 => ?_
            refine Mir.region fun e h => ?_
            simp only [↓reduceIte, reduceCtorEq, nA, nS, nM, nE, nL, nT, nB, iT, iN, iE, and_self, SR, SV, ag_42, sz_42, encApiMotion, encApiWord, encInterpreterReached, encTableLength]
            refine SpecS.by (inp_has_spec hy23) (by simp only [↓reduceIte, reduceCtorEq, nA, nE, nL, and_self, and_true, true_and, SL, encApiMotion, encApiWord, encInterpreterReached, encTableLength]) ?_
            simp only [↓reduceIte, reduceCtorEq, nA, nS, nM, nE, nL, nT, nB, iT, iN, iE, and_self, SR, SV, encApiMotion, encApiWord, encInterpreterReached, encTableLength]
            refine Mir.use (e := e) ?_ h
            refine Mir.cond rfl (fun hb25 => ?_) (fun hb25 => ?_)
            · refine Mir.seqK ?_
              refine Mir.regionD [(6, 11)] (by kernel_rfl) fun e h => ?_
              simp only [↓reduceIte, reduceCtorEq, nA, nS, nM, nE, nL, nT, nB, iT, iN, iE, and_self, SR, SV, sepL_nil, sepL_cons, sepV_ne, sepV_d, sepV_i, true_and, Bool.and_self, ag_65, sz_65, ag_68, sz_68, encApiWord, encTableLength]
              refine Mir.use (e := e) ?_ h
              refine Mir.ret fun e h => ?_
              cases h
              simp only [↓reduceIte, reduceCtorEq, nA, nE, nL, and_self, and_true, true_and, SL, encApiWord, encTableLength, Tryd.results21, ag_65, sz_65, ag_68, sz_68, fx_r, fx_n, xr_o, xr_n, rowT]
            · refine Mir.skip ?_
              refine Mir.toK ?_
              refine Mir.seqK ?_
              refine Mir.seqK ?_
              refine Mir.joinO (fun v123 : Bool => [U, U, U, U, U, .ptr 0 0, .ptr 1 0, .ptr 2 0, .ptr 3 0, .ptr 4 0, U, .ptr 5 0, .ptr 6 0, U, U, U, U, U, U, U, U, U, U, U, U, U, U, U, U, U, U, U, U, U, U, U, U, U, U, U, U, U, U, U, U, U, U, U, U, U, U, U, U, U, U, U, U, U, U, U, U, U, U, U, U, U, U, U, U, U, U, U, U, U, U, U, U, U, U, U, U, U, U, U, U, U, U, U, U, U, U, U, U, U, U, U, U, U, .d (.bool v123), U, U, U, U, U, U, U, U, U, U, U, U, U, U, U, U, U, U, U, U, U, U, U, U, U, U, U, U, U, U, U, U, U, U, U, U, U, U, U, U, U, U, U, U, U, U, U, U, U, U, U, U, U, U, U, U, U, U, U, U, U, U, U, U, U, U, U, U, U, U, U, U, U, U, U, U, U, U, U, U, U, U, U, U, U, U, U, U, U, U, U, U, U, U, U, U, U, U, U, U, U, U, U, U, U, U]) (fun v123 : Bool => ⟨[[.d (.int .i64 y110.1.Motion), .d (.int .i64 y110.1.Distance), .d (.int .i64 y110.1.Work), .d (.int .i64 y110.1.Length), .d (.int .i64 y110.1.Return), .d (.int .i64 y110.1.Feed), .d (.int .i64 y110.1.Tool), .d (.int .i64 y110.1.Offset)], [.d (.int .i64 v114.Code), .d (.int .i64 v114.R), .d (.int .i64 v114.Z), .d (.int .i64 v114.Q), .d (.int .i64 v114.Rate), .d (.int .i64 v114.Initial), .d (.bool v114.High)], [.d (.bool a2.Skip), .d (.list (List.map encApiWord a2.Words)), .d (.str a2.Comment)], [.d (.int .i64 a3.Work.e0.X), .d (.int .i64 a3.Work.e0.Y), .d (.int .i64 a3.Work.e0.Z), .d (.int .i64 a3.Work.e1.X), .d (.int .i64 a3.Work.e1.Y), .d (.int .i64 a3.Work.e1.Z), .d (.int .i64 a3.Work.e2.X), .d (.int .i64 a3.Work.e2.Y), .d (.int .i64 a3.Work.e2.Z), .d (.int .i64 a3.Work.e3.X), .d (.int .i64 a3.Work.e3.Y), .d (.int .i64 a3.Work.e3.Z), .d (.int .i64 a3.Work.e4.X), .d (.int .i64 a3.Work.e4.Y), .d (.int .i64 a3.Work.e4.Z), .d (.int .i64 a3.Work.e5.X), .d (.int .i64 a3.Work.e5.Y), .d (.int .i64 a3.Work.e5.Z), .d (.list (List.map encTableLength a3.Lengths))], [.d (.int .i64 a4.X), .d (.int .i64 a4.Y), .d (.int .i64 a4.Z)], [.d (.int .i64 0), .d (.int .i64 0), .d (.int .i64 0), .d (.int .i64 0), .d (.int .i64 0), .d (.int .i64 0), .d (.int .i64 0), .d (.int .i64 0)], [.d (.int .i64 0), .d (.int .i64 0), .d (.int .i64 0), .d (.int .i64 0), .d (.int .i64 0), .d (.int .i64 0), .d (.bool false)]], []⟩) (fun _ => rfl) ?_ ?_
              · refine Mir.bind fun y116 hy26 => ?_
                refine Mir.ite (fun hb27 => ?_) (fun hb27 => ?_)
                · refine Mir.ite (fun hb28 => ?_) (fun hb28 => ?_)
                  · refine Mir.ite (fun hb29 => ?_) (fun hb29 => ?_)
                    · refine Mir.region fun e h => ?_
                      simp only [↓reduceIte, reduceCtorEq, nA, nS, nM, nE, nL, nT, nB, iT, iN, iE, and_self, SR, SV, ag_42, sz_42, encApiWord, encTableLength, hb27, hb28, hb29]
                      refine SpecS.by (inp_has_spec hy26) (by simp only [↓reduceIte, reduceCtorEq, nA, nE, nL, and_self, and_true, true_and, SL, encApiWord, encTableLength, hb27, hb28, hb29]) ?_
                      simp only [↓reduceIte, reduceCtorEq, nA, nS, nM, nE, nL, nT, nB, iT, iN, iE, and_self, SR, SV, fld_65_0, sz_2, ag_2, encApiWord, encTableLength, hb27, hb28, hb29]
                      cases h
                      simp only [↓reduceIte, reduceCtorEq, nA, nE, nL, and_self, and_true, true_and, SL, encApiWord, encTableLength, hb27, hb28, hb29]
                    · refine Mir.bind fun y117 hy30 => ?_
                      refine Mir.ite (fun hb31 => ?_) (fun hb31 => ?_)
                      · refine Mir.bind fun y118 hy32 => ?_
                        refine Mir.region fun e h => ?_
                        simp only [↓reduceIte, reduceCtorEq, nA, nS, nM, nE, nL, nT, nB, iT, iN, iE, and_self, SR, SV, ag_42, sz_42, encApiWord, encTableLength, hb27, hb28, hb29, hb31]
                        refine SpecS.by (inp_has_spec hy26) (by simp only [↓reduceIte, reduceCtorEq, nA, nE, nL, and_self, and_true, true_and, SL, encApiWord, encTableLength, hb27, hb28, hb29, hb31]) ?_
                        simp only [↓reduceIte, reduceCtorEq, nA, nS, nM, nE, nL, nT, nB, iT, iN, iE, and_self, SR, SV, fld_65_0, sz_2, ag_2, ag_42, sz_42, encApiWord, encTableLength, hb27, hb28, hb29, hb31]
                        refine SpecS.by (inp_has_spec hy30) (by simp only [↓reduceIte, reduceCtorEq, nA, nE, nL, and_self, and_true, true_and, SL, encApiWord, encTableLength, hb27, hb28, hb29, hb31]) ?_
                        simp only [↓reduceIte, reduceCtorEq, nA, nS, nM, nE, nL, nT, nB, iT, iN, iE, and_self, SR, SV, fld_65_0, sz_2, ag_2, encApiWord, encTableLength, hb27, hb28, hb29, hb31]
                        refine SpecS.by (inp_cycles_spec hy32) (by simp only [↓reduceIte, reduceCtorEq, nA, nE, nL, and_self, and_true, true_and, SL, encApiWord, encTableLength, hb27, hb28, hb29, hb31]) ?_
                        simp only [↓reduceIte, reduceCtorEq, nA, nS, nM, nE, nL, nT, nB, iT, iN, iE, and_self, SR, SV, encApiWord, encTableLength, hb27, hb28, hb29, hb31]
                        cases h
                        simp only [↓reduceIte, reduceCtorEq, nA, nE, nL, and_self, and_true, true_and, SL, encApiWord, encTableLength, hb27, hb28, hb29, hb31]
                      · refine Mir.region fun e h => ?_
                        simp only [↓reduceIte, reduceCtorEq, nA, nS, nM, nE, nL, nT, nB, iT, iN, iE, and_self, SR, SV, ag_42, sz_42, encApiWord, encTableLength, hb27, hb28, hb29, hb31]
                        refine SpecS.by (inp_has_spec hy26) (by simp only [↓reduceIte, reduceCtorEq, nA, nE, nL, and_self, and_true, true_and, SL, encApiWord, encTableLength, hb27, hb28, hb29, hb31]) ?_
                        simp only [↓reduceIte, reduceCtorEq, nA, nS, nM, nE, nL, nT, nB, iT, iN, iE, and_self, SR, SV, fld_65_0, sz_2, ag_2, ag_42, sz_42, encApiWord, encTableLength, hb27, hb28, hb29, hb31]
                        refine SpecS.by (inp_has_spec hy30) (by simp only [↓reduceIte, reduceCtorEq, nA, nE, nL, and_self, and_true, true_and, SL, encApiWord, encTableLength, hb27, hb28, hb29, hb31]) ?_
                        simp only [↓reduceIte, reduceCtorEq, nA, nS, nM, nE, nL, nT, nB, iT, iN, iE, and_self, SR, SV, encApiWord, encTableLength, hb27, hb28, hb29, hb31]
                        cases h
                        simp only [↓reduceIte, reduceCtorEq, nA, nE, nL, and_self, and_true, true_and, SL, encApiWord, encTableLength, hb27, hb28, hb29, hb31]
                  · refine Mir.bind fun y119 hy33 => ?_
                    refine Mir.ite (fun hb34 => ?_) (fun hb34 => ?_)
                    · refine Mir.bind fun y120 hy35 => ?_
                      refine Mir.region fun e h => ?_
                      simp only [↓reduceIte, reduceCtorEq, nA, nS, nM, nE, nL, nT, nB, iT, iN, iE, and_self, SR, SV, ag_42, sz_42, encApiWord, encTableLength, hb27, hb28, hb34]
                      refine SpecS.by (inp_has_spec hy26) (by simp only [↓reduceIte, reduceCtorEq, nA, nE, nL, and_self, and_true, true_and, SL, encApiWord, encTableLength, hb27, hb28, hb34]) ?_
                      simp only [↓reduceIte, reduceCtorEq, nA, nS, nM, nE, nL, nT, nB, iT, iN, iE, and_self, SR, SV, fld_65_0, sz_2, ag_2, ag_42, sz_42, encApiWord, encTableLength, hb27, hb28, hb34]
                      refine SpecS.by (inp_has_spec hy33) (by simp only [↓reduceIte, reduceCtorEq, nA, nE, nL, and_self, and_true, true_and, SL, encApiWord, encTableLength, hb27, hb28, hb34]) ?_
                      simp only [↓reduceIte, reduceCtorEq, nA, nS, nM, nE, nL, nT, nB, iT, iN, iE, and_self, SR, SV, fld_65_0, sz_2, ag_2, encApiWord, encTableLength, hb27, hb28, hb34]
                      refine SpecS.by (inp_cycles_spec hy35) (by simp only [↓reduceIte, reduceCtorEq, nA, nE, nL, and_self, and_true, true_and, SL, encApiWord, encTableLength, hb27, hb28, hb34]) ?_
                      simp only [↓reduceIte, reduceCtorEq, nA, nS, nM, nE, nL, nT, nB, iT, iN, iE, and_self, SR, SV, encApiWord, encTableLength, hb27, hb28, hb34]
                      cases h
                      simp only [↓reduceIte, reduceCtorEq, nA, nE, nL, and_self, and_true, true_and, SL, encApiWord, encTableLength, hb27, hb28, hb34]
                    · refine Mir.region fun e h => ?_
                      simp only [↓reduceIte, reduceCtorEq, nA, nS, nM, nE, nL, nT, nB, iT, iN, iE, and_self, SR, SV, ag_42, sz_42, encApiWord, encTableLength, hb27, hb28, hb34]
                      refine SpecS.by (inp_has_spec hy26) (by simp only [↓reduceIte, reduceCtorEq, nA, nE, nL, and_self, and_true, true_and, SL, encApiWord, encTableLength, hb27, hb28, hb34]) ?_
                      simp only [↓reduceIte, reduceCtorEq, nA, nS, nM, nE, nL, nT, nB, iT, iN, iE, and_self, SR, SV, fld_65_0, sz_2, ag_2, ag_42, sz_42, encApiWord, encTableLength, hb27, hb28, hb34]
                      refine SpecS.by (inp_has_spec hy33) (by simp only [↓reduceIte, reduceCtorEq, nA, nE, nL, and_self, and_true, true_and, SL, encApiWord, encTableLength, hb27, hb28, hb34]) ?_
                      simp only [↓reduceIte, reduceCtorEq, nA, nS, nM, nE, nL, nT, nB, iT, iN, iE, and_self, SR, SV, encApiWord, encTableLength, hb27, hb28, hb34]
                      cases h
                      simp only [↓reduceIte, reduceCtorEq, nA, nE, nL, and_self, and_true, true_and, SL, encApiWord, encTableLength, hb27, hb28, hb34]
                · refine Mir.bind fun y121 hy36 => ?_
                  refine Mir.ite (fun hb37 => ?_) (fun hb37 => ?_)
                  · refine Mir.bind fun y122 hy38 => ?_
                    refine Mir.region fun e h => ?_
                    simp only [↓reduceIte, reduceCtorEq, nA, nS, nM, nE, nL, nT, nB, iT, iN, iE, and_self, SR, SV, ag_42, sz_42, encApiWord, encTableLength, hb27, hb37]
                    refine SpecS.by (inp_has_spec hy26) (by simp only [↓reduceIte, reduceCtorEq, nA, nE, nL, and_self, and_true, true_and, SL, encApiWord, encTableLength, hb27, hb37]) ?_
                    simp only [↓reduceIte, reduceCtorEq, nA, nS, nM, nE, nL, nT, nB, iT, iN, iE, and_self, SR, SV, ag_42, sz_42, encApiWord, encTableLength, hb27, hb37]
                    refine SpecS.by (inp_has_spec hy36) (by simp only [↓reduceIte, reduceCtorEq, nA, nE, nL, and_self, and_true, true_and, SL, encApiWord, encTableLength, hb27, hb37]) ?_
                    simp only [↓reduceIte, reduceCtorEq, nA, nS, nM, nE, nL, nT, nB, iT, iN, iE, and_self, SR, SV, fld_65_0, sz_2, ag_2, encApiWord, encTableLength, hb27, hb37]
                    refine SpecS.by (inp_cycles_spec hy38) (by simp only [↓reduceIte, reduceCtorEq, nA, nE, nL, and_self, and_true, true_and, SL, encApiWord, encTableLength, hb27, hb37]) ?_
                    simp only [↓reduceIte, reduceCtorEq, nA, nS, nM, nE, nL, nT, nB, iT, iN, iE, and_self, SR, SV, encApiWord, encTableLength, hb27, hb37]
                    cases h
                    simp only [↓reduceIte, reduceCtorEq, nA, nE, nL, and_self, and_true, true_and, SL, encApiWord, encTableLength, hb27, hb37]
                  · refine Mir.region fun e h => ?_
                    simp only [↓reduceIte, reduceCtorEq, nA, nS, nM, nE, nL, nT, nB, iT, iN, iE, and_self, SR, SV, ag_42, sz_42, encApiWord, encTableLength, hb27, hb37]
                    refine SpecS.by (inp_has_spec hy26) (by simp only [↓reduceIte, reduceCtorEq, nA, nE, nL, and_self, and_true, true_and, SL, encApiWord, encTableLength, hb27, hb37]) ?_
                    simp only [↓reduceIte, reduceCtorEq, nA, nS, nM, nE, nL, nT, nB, iT, iN, iE, and_self, SR, SV, ag_42, sz_42, encApiWord, encTableLength, hb27, hb37]
                    refine SpecS.by (inp_has_spec hy36) (by simp only [↓reduceIte, reduceCtorEq, nA, nE, nL, and_self, and_true, true_and, SL, encApiWord, encTableLength, hb27, hb37]) ?_
                    simp only [↓reduceIte, reduceCtorEq, nA, nS, nM, nE, nL, nT, nB, iT, iN, iE, and_self, SR, SV, encApiWord, encTableLength, hb27, hb37]
                    cases h
                    simp only [↓reduceIte, reduceCtorEq, nA, nE, nL, and_self, and_true, true_and, SL, encApiWord, encTableLength, hb27, hb37]
              · intro v123
                refine Mir.toK ?_
                refine Mir.cond rfl (fun hb41 => ?_) (fun hb41 => ?_)
                · refine Mir.seqK ?_
                  refine Mir.bind fun v125 hv42 => ?_
                  refine Mir.region fun e h => ?_
                  simp only [↓reduceIte, reduceCtorEq, nA, nS, nM, nE, nL, nT, nB, iT, iN, iE, and_self, SR, SV, encApiWord, encTableLength]
                  refine SpecS.inl Tryd.func46 rfl (by kernel_rfl) (by kernel_rfl) (fun v125 : Unit => .tuple [.nil, .agg [.d (.int .i64 0), .d (.int .i64 0), .d (.int .i64 0), .d (.int .i64 0), .d (.int .i64 0), .d (.int .i64 0), .d (.int .i64 0), .d (.int .i64 0)], .agg [.d (.int .i64 0), .d (.int .i64 0), .d (.int .i64 0), .d (.int .i64 0), .d (.int .i64 0), .d (.int .i64 0), .d (.bool false)], .d (.int .i64 1)]) (fun v125 : Unit => ⟨[[.d (.int .i64 y110.1.Motion), .d (.int .i64 y110.1.Distance), .d (.int .i64 y110.1.Work), .d (.int .i64 y110.1.Length), .d (.int .i64 y110.1.Return), .d (.int .i64 y110.1.Feed), .d (.int .i64 y110.1.Tool), .d (.int .i64 y110.1.Offset)], [.d (.int .i64 v114.Code), .d (.int .i64 v114.R), .d (.int .i64 v114.Z), .d (.int .i64 v114.Q), .d (.int .i64 v114.Rate), .d (.int .i64 v114.Initial), .d (.bool v114.High)], [.d (.bool a2.Skip), .d (.list (List.map encApiWord a2.Words)), .d (.str a2.Comment)], [.d (.int .i64 a3.Work.e0.X), .d (.int .i64 a3.Work.e0.Y), .d (.int .i64 a3.Work.e0.Z), .d (.int .i64 a3.Work.e1.X), .d (.int .i64 a3.Work.e1.Y), .d (.int .i64 a3.Work.e1.Z), .d (.int .i64 a3.Work.e2.X), .d (.int .i64 a3.Work.e2.Y), .d (.int .i64 a3.Work.e2.Z), .d (.int .i64 a3.Work.e3.X), .d (.int .i64 a3.Work.e3.Y), .d (.int .i64 a3.Work.e3.Z), .d (.int .i64 a3.Work.e4.X), .d (.int .i64 a3.Work.e4.Y), .d (.int .i64 a3.Work.e4.Z), .d (.int .i64 a3.Work.e5.X), .d (.int .i64 a3.Work.e5.Y), .d (.int .i64 a3.Work.e5.Z), .d (.list (List.map encTableLength a3.Lengths))], [.d (.int .i64 a4.X), .d (.int .i64 a4.Y), .d (.int .i64 a4.Z)], [.d (.int .i64 0), .d (.int .i64 0), .d (.int .i64 0), .d (.int .i64 0), .d (.int .i64 0), .d (.int .i64 0), .d (.int .i64 0), .d (.int .i64 0)], [.d (.int .i64 0), .d (.int .i64 0), .d (.int .i64 0), .d (.int .i64 0), .d (.int .i64 0), .d (.int .i64 0), .d (.bool false)]], []⟩) hv42 rfl ?_ ?_
                  · simp only [List.replicate, List.length, nS, nA, Tryd.ntmps46, SV]
                    refine Mir.seqK ?_
                    refine Mir.region fun e h => ?_
                    simp only [↓reduceIte, reduceCtorEq, nA, nS, nM, nE, nL, nT, nB, iT, iN, iE, and_self, SR, SV, zero_65, zero_68, encApiWord, encTableLength]
                    refine Mir.use (e := e) ?_ h
                    refine Mir.seqK ?_
                    refine Mir.region fun e h => ?_
                    simp only [↓reduceIte, reduceCtorEq, nA, nS, nM, nE, nL, nT, nB, iT, iN, iE, and_self, SR, SV, zero_65, pl_65, zero_68, pl_68, sz_65, sz_68, encApiWord, encTableLength]
                    refine Mir.use (e := e) ?_ h
                    refine Mir.ret fun e h => ?_
                    cases h
                    simp only [↓reduceIte, reduceCtorEq, nA, nE, nL, and_self, and_true, true_and, SL, encApiWord, encTableLength, Tryd.results46, ag_65, sz_65, ag_68, sz_68]
                  simp only [↓reduceIte, reduceCtorEq, nA, nS, nM, nE, nL, nT, nB, iT, iN, iE, and_self, SR, SV, sz_65, sz_68, encApiWord, encTableLength]
                  refine Mir.use (e := e) ?_ h
                  refine Mir.ret fun e h => ?_
                  cases h
                  simp only [↓reduceIte, reduceCtorEq, nA, nE, nL, and_self, and_true, true_and, SL, encApiWord, encTableLength, Tryd.results21, ag_65, sz_65, ag_68, sz_68, fx_r, fx_n, xr_o, xr_n, rowT]
                · refine Mir.skip ?_
                  refine Mir.toK ?_
                  refine Mir.seqK ?_
                  refine Mir.seqK ?_
                  refine Mir.joinV [U, U, U, U, U, .ptr 0 0, .ptr 1 0, .ptr 2 0, .ptr 3 0, .ptr 4 0, U, .ptr 5 0, .ptr 6 0, U, U, U, U, U, U, U, U, U, U, U, U, U, U, U, U, U, U, U, U, U, U, U, U, U, U, U, U, U, U, U, U, U, U, U, U, U, U, U, U, U, U, U, U, U, U, U, U, U, U, U, U, U, U, U, U, U, U, U, U, U, U, U, U, U, U, U, U, U, U, U, U, U, U, U, U, U, U, U, U, U, U, U, U, U, U, U, U, U, U, U, U, U, U, U, U, U, U, U, U, U, U, U, .d (.bool ((y110.1.Motion == 80000) || ((y110.1.Motion != 0) && (decide (y110.1.Feed ≤ 0))))), U, U, U, U, U, U, U, U, U, U, U, U, U, U, U, U, U, U, U, U, U, U, U, U, U, U, U, U, U, U, U, U, U, U, U, U, U, U, U, U, U, U, U, U, U, U, U, U, U, U, U, U, U, U, U, U, U, U, U, U, U, U, U, U, U, U, U, U, U, U, U, U, U, U, U, U, U, U, U, U, U, U, U, U, U, U, U, U] ⟨[[.d (.int .i64 y110.1.Motion), .d (.int .i64 y110.1.Distance), .d (.int .i64 y110.1.Work), .d (.int .i64 y110.1.Length), .d (.int .i64 y110.1.Return), .d (.int .i64 y110.1.Feed), .d (.int .i64 y110.1.Tool), .d (.int .i64 y110.1.Offset)], [.d (.int .i64 v114.Code), .d (.int .i64 v114.R), .d (.int .i64 v114.Z), .d (.int .i64 v114.Q), .d (.int .i64 v114.Rate), .d (.int .i64 v114.Initial), .d (.bool v114.High)], [.d (.bool a2.Skip), .d (.list (List.map encApiWord a2.Words)), .d (.str a2.Comment)], [.d (.int .i64 a3.Work.e0.X), .d (.int .i64 a3.Work.e0.Y), .d (.int .i64 a3.Work.e0.Z), .d (.int .i64 a3.Work.e1.X), .d (.int .i64 a3.Work.e1.Y), .d (.int .i64 a3.Work.e1.Z), .d (.int .i64 a3.Work.e2.X), .d (.int .i64 a3.Work.e2.Y), .d (.int .i64 a3.Work.e2.Z), .d (.int .i64 a3.Work.e3.X), .d (.int .i64 a3.Work.e3.Y), .d (.int .i64 a3.Work.e3.Z), .d (.int .i64 a3.Work.e4.X), .d (.int .i64 a3.Work.e4.Y), .d (.int .i64 a3.Work.e4.Z), .d (.int .i64 a3.Work.e5.X), .d (.int .i64 a3.Work.e5.Y), .d (.int .i64 a3.Work.e5.Z), .d (.list (List.map encTableLength a3.Lengths))], [.d (.int .i64 a4.X), .d (.int .i64 a4.Y), .d (.int .i64 a4.Z)], [.d (.int .i64 0), .d (.int .i64 0), .d (.int .i64 0), .d (.int .i64 0), .d (.int .i64 0), .d (.int .i64 0), .d (.int .i64 0), .d (.int .i64 0)], [.d (.int .i64 0), .d (.int .i64 0), .d (.int .i64 0), .d (.int .i64 0), .d (.int .i64 0), .d (.int .i64 0), .d (.bool false)]], []⟩ rfl ?_ ?_
                  · refine SWs.region ?_
                    rcases Bool.eq_false_or_eq_true (y110.1.Motion == 80000) with hb43 | hb43
                    · simp only [↓reduceIte, reduceCtorEq, nA, nS, nM, nE, nL, nT, nB, iT, iN, iE, and_self, SR, SV, SL, Bool.true_and, Bool.false_and, Bool.true_or, Bool.false_or, Bool.or_true, Bool.or_false, Bool.and_true, Bool.and_false, Bool.not_true, Bool.not_false, fld_65_0, sz_2, ag_2, hb43, encApiMotion, encApiWord, encInterpreterReached, encTableLength]
                    · rcases Bool.eq_false_or_eq_true (y110.1.Motion != 0) with hb44 | hb44
                      · simp only [↓reduceIte, reduceCtorEq, nA, nS, nM, nE, nL, nT, nB, iT, iN, iE, and_self, SR, SV, SL, Bool.true_and, Bool.false_and, Bool.true_or, Bool.false_or, Bool.or_true, Bool.or_false, Bool.and_true, Bool.and_false, Bool.not_true, Bool.not_false, fld_65_0, sz_2, ag_2, fld_65_5, hb43, hb44, encApiMotion, encApiWord, encInterpreterReached, encTableLength]
                      · simp only [↓reduceIte, reduceCtorEq, nA, nS, nM, nE, nL, nT, nB, iT, iN, iE, and_self, SR, SV, SL, Bool.true_and, Bool.false_and, Bool.true_or, Bool.false_or, Bool.or_true, Bool.or_false, Bool.and_true, Bool.and_false, Bool.not_true, Bool.not_false, fld_65_0, sz_2, ag_2, hb43, hb44, encApiMotion, encApiWord, encInterpreterReached, encTableLength]
                  · refine Mir.toK ?_
                    refine Mir.cond rfl (fun hb47 => ?_) (fun hb47 => ?_)
                    · refine Mir.seqK ?_
                      refine Mir.bind fun v127 hv48 => ?_
                      refine Mir.region fun e h => ?_
                      simp only [↓reduceIte, reduceCtorEq, nA, nS, nM, nE, nL, nT, nB, iT, iN, iE, and_self, SR, SV, encApiWord, encTableLength]
                      refine SpecS.inl Tryd.func46 rfl (by kernel_rfl) (by kernel_rfl) (fun v127 : Unit => .tuple [.nil, .agg [.d (.int .i64 0), .d (.int .i64 0), .d (.int .i64 0), .d (.int .i64 0), .d (.int .i64 0), .d (.int .i64 0), .d (.int .i64 0), .d (.int .i64 0)], .agg [.d (.int .i64 0), .d (.int .i64 0), .d (.int .i64 0), .d (.int .i64 0), .d (.int .i64 0), .d (.int .i64 0), .d (.bool false)], .d (.int .i64 13)]) (fun v127 : Unit => ⟨[[.d (.int .i64 y110.1.Motion), .d (.int .i64 y110.1.Distance), .d (.int .i64 y110.1.Work), .d (.int .i64 y110.1.Length), .d (.int .i64 y110.1.Return), .d (.int .i64 y110.1.Feed), .d (.int .i64 y110.1.Tool), .d (.int .i64 y110.1.Offset)], [.d (.int .i64 v114.Code), .d (.int .i64 v114.R), .d (.int .i64 v114.Z), .d (.int .i64 v114.Q), .d (.int .i64 v114.Rate), .d (.int .i64 v114.Initial), .d (.bool v114.High)], [.d (.bool a2.Skip), .d (.list (List.map encApiWord a2.Words)), .d (.str a2.Comment)], [.d (.int .i64 a3.Work.e0.X), .d (.int .i64 a3.Work.e0.Y), .d (.int .i64 a3.Work.e0.Z), .d (.int .i64 a3.Work.e1.X), .d (.int .i64 a3.Work.e1.Y), .d (.int .i64 a3.Work.e1.Z), .d (.int .i64 a3.Work.e2.X), .d (.int .i64 a3.Work.e2.Y), .d (.int .i64 a3.Work.e2.Z), .d (.int .i64 a3.Work.e3.X), .d (.int .i64 a3.Work.e3.Y), .d (.int .i64 a3.Work.e3.Z), .d (.int .i64 a3.Work.e4.X), .d (.int .i64 a3.Work.e4.Y), .d (.int .i64 a3.Work.e4.Z), .d (.int .i64 a3.Work.e5.X), .d (.int .i64 a3.Work.e5.Y), .d (.int .i64 a3.Work.e5.Z), .d (.list (List.map encTableLength a3.Lengths))], [.d (.int .i64 a4.X), .d (.int .i64 a4.Y), .d (.int .i64 a4.Z)], [.d (.int .i64 0), .d (.int .i64 0), .d (.int .i64 0), .d (.int .i64 0), .d (.int .i64 0), .d (.int .i64 0), .d (.int .i64 0), .d (.int .i64 0)], [.d (.int .i64 0), .d (.int .i64 0), .d (.int .i64 0), .d (.int .i64 0), .d (.int .i64 0), .d (.int .i64 0), .d (.bool false)]], []⟩) hv48 rfl ?_ ?_
                      · simp only [List.replicate, List.length, nS, nA, Tryd.ntmps46, SV]
                        refine Mir.seqK ?_
                        refine Mir.region fun e h => ?_
                        simp only [↓reduceIte, reduceCtorEq, nA, nS, nM, nE, nL, nT, nB, iT, iN, iE, and_self, SR, SV, zero_65, zero_68, encApiWord, encTableLength]
                        refine Mir.use (e := e) ?_ h
                        refine Mir.seqK ?_
                        refine Mir.region fun e h => ?_
                        simp only [↓reduceIte, reduceCtorEq, nA, nS, nM, nE, nL, nT, nB, iT, iN, iE, and_self, SR, SV, zero_65, pl_65, zero_68, pl_68, sz_65, sz_68, encApiWord, encTableLength]
                        refine Mir.use (e := e) ?_ h
                        refine Mir.ret fun e h => ?_
                        cases h
                        simp only [↓reduceIte, reduceCtorEq, nA, nE, nL, and_self, and_true, true_and, SL, encApiWord, encTableLength, Tryd.results46, ag_65, sz_65, ag_68, sz_68]
                      simp only [↓reduceIte, reduceCtorEq, nA, nS, nM, nE, nL, nT, nB, iT, iN, iE, and_self, SR, SV, sz_65, sz_68, encApiWord, encTableLength]
                      refine Mir.use (e := e) ?_ h
                      refine Mir.ret fun e h => ?_
                      cases h
                      simp only [↓reduceIte, reduceCtorEq, nA, nE, nL, and_self, and_true, true_and, SL, encApiWord, encTableLength, Tryd.results21, ag_65, sz_65, ag_68, sz_68, fx_r, fx_n, xr_o, xr_n, rowT]
                    · refine Mir.skip ?_
                      refine Mir.toK ?_
                      refine Mir.seqK ?_
                      refine Mir.region fun e h => ?_
                      simp only [↓reduceIte, reduceCtorEq, nA, nS, nM, nE, nL, nT, nB, iT, iN, iE, and_self, SR, SV, encApiMotion, encApiWord, encInterpreterReached, encTableLength]
                      refine Mir.use (e := e) ?_ h
                      refine Mir.seqK ?_
                      refine Mir.seqK ?_
                      refine Mir.region fun e h => ?_
                      simp only [↓reduceIte, reduceCtorEq, nA, nS, nM, nE, nL, nT, nB, iT, iN, iE, and_self, SR, SV, fld_65_3, sz_2, ag_2, encApiMotion, encApiWord, encInterpreterReached, encTableLength]
                      refine Mir.use (e := e) ?_ h
                      refine Mir.joinO (fun v128 : Int => [U, U, U, U, U, .ptr 0 0, .ptr 1 0, .ptr 2 0, .ptr 3 0, .ptr 4 0, U, .ptr 5 0, .ptr 6 0, U, U, U, .d (.int .i64 v128), U, U, U, U, U, U, U, U, U, U, U, U, U, U, U, U, U, U, U, U, U, U, U, U, U, U, U, U, U, U, U, U, U, U, U, U, U, U, U, U, U, U, U, U, U, U, U, U, U, U, U, U, U, U, U, U, U, U, U, U, U, U, U, U, U, U, U, U, U, U, U, U, U, U, U, U, U, U, U, U, U, U, U, U, U, U, U, U, U, U, U, U, U, U, U, U, U, U, U, U, U, U, U, U, U, U, U, U, U, U, U, U, U, U, U, U, U, U, U, U, U, U, U, U, U, U, U, U, U, U, U, U, U, U, U, U, U, U, U, U, U, U, U, U, U, U, U, U, U, U, U, U, U, U, U, U, U, U, U, U, U, U, U, U, U, U, U, U, U, U, U, U, U, U, U, U, U, U, U, U, U, U, U, U, U, U, U, U]) (fun v128 : Int => ⟨[[.d (.int .i64 y110.1.Motion), .d (.int .i64 y110.1.Distance), .d (.int .i64 y110.1.Work), .d (.int .i64 y110.1.Length), .d (.int .i64 y110.1.Return), .d (.int .i64 y110.1.Feed), .d (.int .i64 y110.1.Tool), .d (.int .i64 y110.1.Offset)], [.d (.int .i64 v114.Code), .d (.int .i64 v114.R), .d (.int .i64 v114.Z), .d (.int .i64 v114.Q), .d (.int .i64 v114.Rate), .d (.int .i64 v114.Initial), .d (.bool v114.High)], [.d (.bool a2.Skip), .d (.list (List.map encApiWord a2.Words)), .d (.str a2.Comment)], [.d (.int .i64 a3.Work.e0.X), .d (.int .i64 a3.Work.e0.Y), .d (.int .i64 a3.Work.e0.Z), .d (.int .i64 a3.Work.e1.X), .d (.int .i64 a3.Work.e1.Y), .d (.int .i64 a3.Work.e1.Z), .d (.int .i64 a3.Work.e2.X), .d (.int .i64 a3.Work.e2.Y), .d (.int .i64 a3.Work.e2.Z), .d (.int .i64 a3.Work.e3.X), .d (.int .i64 a3.Work.e3.Y), .d (.int .i64 a3.Work.e3.Z), .d (.int .i64 a3.Work.e4.X), .d (.int .i64 a3.Work.e4.Y), .d (.int .i64 a3.Work.e4.Z), .d (.int .i64 a3.Work.e5.X), .d (.int .i64 a3.Work.e5.Y), .d (.int .i64 a3.Work.e5.Z), .d (.list (List.map encTableLength a3.Lengths))], [.d (.int .i64 a4.X), .d (.int .i64 a4.Y), .d (.int .i64 a4.Z)], [.d (.int .i64 0), .d (.int .i64 0), .d (.int .i64 0), .d (.int .i64 0), .d (.int .i64 0), .d (.int .i64 0), .d (.int .i64 0), .d (.int .i64 0)], [.d (.int .i64 0), .d (.int .i64 0), .d (.int .i64 0), .d (.int .i64 0), .d (.int .i64 0), .d (.int .i64 0), .d (.bool false)]], []⟩) (fun _ => rfl) ?_ ?_
                      · refine Mir.cond rfl (fun hb50 => ?_) (fun hb50 => ?_)
                        · refine Mir.region fun e h => ?_
                          simp only [↓reduceIte, reduceCtorEq, nA, nS, nM, nE, nL, nT, nB, iT, iN, iE, and_self, SR, SV, fld_65_7, sz_2, ag_2, encApiWord, encTableLength]
                          cases h
                          simp only [↓reduceIte, reduceCtorEq, nA, nE, nL, and_self, and_true, true_and, SL, encApiWord, encTableLength, Tryd.results21, ag_65, sz_65, ag_68, sz_68]
                        · refine Mir.skip fun e h => ?_
                          cases h
                          simp only [↓reduceIte, reduceCtorEq, nA, nE, nL, and_self, and_true, true_and, SL, encApiWord, encTableLength, Tryd.results21, ag_65, sz_65, ag_68, sz_68]
                      · intro v128
                        refine Mir.toK ?_
                        refine Mir.seqK ?_
                        refine Mir.bind fun y129 hy51 => ?_
                        refine Mir.region fun e h => ?_
                        simp only [↓reduceIte, reduceCtorEq, nA, nS, nM, nE, nL, nT, nB, iT, iN, iE, and_self, SR, SV, ag_54, sz_54, fld_65_2, sz_2, ag_2, ag_24, sz_24, encApiMotion, encApiWord, encInterpreterReached, encTableLength]
                        refine SpecS.by (tb_Work_spec hy51) (by simp only [↓reduceIte, reduceCtorEq, nA, nE, nL, and_self, and_true, true_and, SL, encApiMotion, encApiWord, encInterpreterReached, encTableLength]) ?_
                        simp only [↓reduceIte, reduceCtorEq, nA, nS, nM, nE, nL, nT, nB, iT, iN, iE, and_self, SR, SV, zero_24, sz_24, encApiMotion, encApiWord, encInterpreterReached, encTableLength]
                        refine Mir.use (e := e) ?_ h
                        refine Mir.seqK ?_
                        refine Mir.seqK ?_
                        refine Mir.region fun e h => ?_
                        simp only [↓reduceIte, reduceCtorEq, nA, nS, nM, nE, nL, nT, nB, iT, iN, iE, and_self, SR, SV, encApiMotion, encApiWord, encInterpreterReached, encTableLength]
                        refine Mir.use (e := e) ?_ h
                        refine Mir.cond rfl (fun hb54 => ?_) (fun hb54 => ?_)
                        · refine Mir.seqK ?_
                          refine Mir.bind fun v131 hv55 => ?_
                          refine Mir.region fun e h => ?_
                          simp only [↓reduceIte, reduceCtorEq, nA, nS, nM, nE, nL, nT, nB, iT, iN, iE, and_self, SR, SV, encApiWord, encTableLength]
                          refine SpecS.inl Tryd.func46 rfl (by kernel_rfl) (by kernel_rfl) (fun v131 : Unit => .tuple [.nil, .agg [.d (.int .i64 0), .d (.int .i64 0), .d (.int .i64 0), .d (.int .i64 0), .d (.int .i64 0), .d (.int .i64 0), .d (.int .i64 0), .d (.int .i64 0)], .agg [.d (.int .i64 0), .d (.int .i64 0), .d (.int .i64 0), .d (.int .i64 0), .d (.int .i64 0), .d (.int .i64 0), .d (.bool false)], .d (.int .i64 y129.2)]) (fun v131 : Unit => ⟨[[.d (.int .i64 y110.1.Motion), .d (.int .i64 y110.1.Distance), .d (.int .i64 y110.1.Work), .d (.int .i64 y110.1.Length), .d (.int .i64 y110.1.Return), .d (.int .i64 y110.1.Feed), .d (.int .i64 y110.1.Tool), .d (.int .i64 y110.1.Offset)], [.d (.int .i64 v114.Code), .d (.int .i64 v114.R), .d (.int .i64 v114.Z), .d (.int .i64 v114.Q), .d (.int .i64 v114.Rate), .d (.int .i64 v114.Initial), .d (.bool v114.High)], [.d (.bool a2.Skip), .d (.list (List.map encApiWord a2.Words)), .d (.str a2.Comment)], [.d (.int .i64 a3.Work.e0.X), .d (.int .i64 a3.Work.e0.Y), .d (.int .i64 a3.Work.e0.Z), .d (.int .i64 a3.Work.e1.X), .d (.int .i64 a3.Work.e1.Y), .d (.int .i64 a3.Work.e1.Z), .d (.int .i64 a3.Work.e2.X), .d (.int .i64 a3.Work.e2.Y), .d (.int .i64 a3.Work.e2.Z), .d (.int .i64 a3.Work.e3.X), .d (.int .i64 a3.Work.e3.Y), .d (.int .i64 a3.Work.e3.Z), .d (.int .i64 a3.Work.e4.X), .d (.int .i64 a3.Work.e4.Y), .d (.int .i64 a3.Work.e4.Z), .d (.int .i64 a3.Work.e5.X), .d (.int .i64 a3.Work.e5.Y), .d (.int .i64 a3.Work.e5.Z), .d (.list (List.map encTableLength a3.Lengths))], [.d (.int .i64 a4.X), .d (.int .i64 a4.Y), .d (.int .i64 a4.Z)], [.d (.int .i64 0), .d (.int .i64 0), .d (.int .i64 0), .d (.int .i64 0), .d (.int .i64 0), .d (.int .i64 0), .d (.int .i64 0), .d (.int .i64 0)], [.d (.int .i64 0), .d (.int .i64 0), .d (.int .i64 0), .d (.int .i64 0), .d (.int .i64 0), .d (.int .i64 0), .d (.bool false)], [.d (.int .i64 y129.1.X), .d (.int .i64 y129.1.Y), .d (.int .i64 y129.1.Z)]], []⟩) hv55 rfl ?_ ?_
                          · simp only [List.replicate, List.length, nS, nA, Tryd.ntmps46, SV]
                            refine Mir.seqK ?_
                            refine Mir.region fun e h => ?_
                            simp only [↓reduceIte, reduceCtorEq, nA, nS, nM, nE, nL, nT, nB, iT, iN, iE, and_self, SR, SV, zero_65, zero_68, encApiWord, encTableLength]
                            refine Mir.use (e := e) ?_ h
                            refine Mir.seqK ?_
                            refine Mir.region fun e h => ?_
                            simp only [↓reduceIte, reduceCtorEq, nA, nS, nM, nE, nL, nT, nB, iT, iN, iE, and_self, SR, SV, zero_65, pl_65, zero_68, pl_68, sz_65, sz_68, encApiWord, encTableLength]
                            refine Mir.use (e := e) ?_ h
                            refine Mir.ret fun e h => ?_
                            cases h
                            simp only [↓reduceIte, reduceCtorEq, nA, nE, nL, and_self, and_true, true_and, SL, encApiWord, encTableLength, Tryd.results46, ag_65, sz_65, ag_68, sz_68]
                          simp only [↓reduceIte, reduceCtorEq, nA, nS, nM, nE, nL, nT, nB, iT, iN, iE, and_self, SR, SV, sz_65, sz_68, encApiWord, encTableLength]
                          refine Mir.use (e := e) ?_ h
                          refine Mir.ret fun e h => ?_
                          cases h
                          simp only [↓reduceIte, reduceCtorEq, nA, nE, nL, and_self, and_true, true_and, SL, encApiWord, encTableLength, Tryd.results21, ag_65, sz_65, ag_68, sz_68, fx_r, fx_n, xr_o, xr_n, rowT]
                        · refine Mir.skip ?_
                          refine Mir.toK ?_
                          refine Mir.seqK ?_
                          refine Mir.bind fun y132 hy56 => ?_
                          refine Mir.region fun e h => ?_
                          simp only [↓reduceIte, reduceCtorEq, nA, nS, nM, nE, nL, nT, nB, iT, iN, iE, and_self, SR, SV, ag_65, sz_65, ag_68, sz_68, ag_42, sz_42, ag_24, sz_24, encApiMotion, encApiWord, encInterpreterReached, encTableLength]
                          refine SpecS.by (inp_positions_spec hy56) (by simp only [↓reduceIte, reduceCtorEq, nA, nE, nL, and_self, and_true, true_and, SL, encApiMotion, encApiWord, encInterpreterReached, encTableLength]) ?_
                          simp only [↓reduceIte, reduceCtorEq, nA, nS, nM, nE, nL, nT, nB, iT, iN, iE, and_self, SR, SV, sz_68, encApiMotion, encApiWord, encInterpreterReached, encTableLength]
                          refine Mir.use (e := e) ?_ h
                          refine Mir.seqK ?_
                          refine Mir.seqK ?_
                          refine Mir.region fun e h => ?_
                          simp only [↓reduceIte, reduceCtorEq, nA, nS, nM, nE, nL, nT, nB, iT, iN, iE, and_self, SR, SV, encApiMotion, encApiWord, encInterpreterReached, encTableLength]
                          refine Mir.use (e := e) ?_ h
                          refine Mir.cond rfl (fun hb59 => ?_) (fun hb59 => ?_)
                          · refine Mir.seqK ?_
                            refine Mir.bind fun v134 hv60 => ?_
                            refine Mir.region fun e h => ?_
                            simp only [↓reduceIte, reduceCtorEq, nA, nS, nM, nE, nL, nT, nB, iT, iN, iE, and_self, SR, SV, encApiWord, encTableLength]
                            refine SpecS.inl Tryd.func46 rfl (by kernel_rfl) (by kernel_rfl) (fun v134 : Unit => .tuple [.nil, .agg [.d (.int .i64 0), .d (.int .i64 0), .d (.int .i64 0), .d (.int .i64 0), .d (.int .i64 0), .d (.int .i64 0), .d (.int .i64 0), .d (.int .i64 0)], .agg [.d (.int .i64 0), .d (.int .i64 0), .d (.int .i64 0), .d (.int .i64 0), .d (.int .i64 0), .d (.int .i64 0), .d (.bool false)], .d (.int .i64 y132.2.2)]) (fun v134 : Unit => ⟨[[.d (.int .i64 y110.1.Motion), .d (.int .i64 y110.1.Distance), .d (.int .i64 y110.1.Work), .d (.int .i64 y110.1.Length), .d (.int .i64 y110.1.Return), .d (.int .i64 y110.1.Feed), .d (.int .i64 y110.1.Tool), .d (.int .i64 y110.1.Offset)], [.d (.int .i64 y132.2.1.Code), .d (.int .i64 y132.2.1.R), .d (.int .i64 y132.2.1.Z), .d (.int .i64 y132.2.1.Q), .d (.int .i64 y132.2.1.Rate), .d (.int .i64 y132.2.1.Initial), .d (.bool y132.2.1.High)], [.d (.bool a2.Skip), .d (.list (List.map encApiWord a2.Words)), .d (.str a2.Comment)], [.d (.int .i64 a3.Work.e0.X), .d (.int .i64 a3.Work.e0.Y), .d (.int .i64 a3.Work.e0.Z), .d (.int .i64 a3.Work.e1.X), .d (.int .i64 a3.Work.e1.Y), .d (.int .i64 a3.Work.e1.Z), .d (.int .i64 a3.Work.e2.X), .d (.int .i64 a3.Work.e2.Y), .d (.int .i64 a3.Work.e2.Z), .d (.int .i64 a3.Work.e3.X), .d (.int .i64 a3.Work.e3.Y), .d (.int .i64 a3.Work.e3.Z), .d (.int .i64 a3.Work.e4.X), .d (.int .i64 a3.Work.e4.Y), .d (.int .i64 a3.Work.e4.Z), .d (.int .i64 a3.Work.e5.X), .d (.int .i64 a3.Work.e5.Y), .d (.int .i64 a3.Work.e5.Z), .d (.list (List.map encTableLength a3.Lengths))], [.d (.int .i64 a4.X), .d (.int .i64 a4.Y), .d (.int .i64 a4.Z)], [.d (.int .i64 0), .d (.int .i64 0), .d (.int .i64 0), .d (.int .i64 0), .d (.int .i64 0), .d (.int .i64 0), .d (.int .i64 0), .d (.int .i64 0)], [.d (.int .i64 0), .d (.int .i64 0), .d (.int .i64 0), .d (.int .i64 0), .d (.int .i64 0), .d (.int .i64 0), .d (.bool false)], [.d (.int .i64 y129.1.X), .d (.int .i64 y129.1.Y), .d (.int .i64 y129.1.Z)]], []⟩) hv60 rfl ?_ ?_
                            · simp only [List.replicate, List.length, nS, nA, Tryd.ntmps46, SV]
                              refine Mir.seqK ?_
                              refine Mir.region fun e h => ?_
                              simp only [↓reduceIte, reduceCtorEq, nA, nS, nM, nE, nL, nT, nB, iT, iN, iE, and_self, SR, SV, zero_65, zero_68, encApiWord, encTableLength]
                              refine Mir.use (e := e) ?_ h
                              refine Mir.seqK ?_
                              refine Mir.region fun e h => ?_
                              simp only [↓reduceIte, reduceCtorEq, nA, nS, nM, nE, nL, nT, nB, iT, iN, iE, and_self, SR, SV, zero_65, pl_65, zero_68, pl_68, sz_65, sz_68, encApiWord, encTableLength]
                              refine Mir.use (e := e) ?_ h
                              refine Mir.ret fun e h => ?_
                              cases h
                              simp only [↓reduceIte, reduceCtorEq, nA, nE, nL, and_self, and_true, true_and, SL, encApiWord, encTableLength, Tryd.results46, ag_65, sz_65, ag_68, sz_68]
                            simp only [↓reduceIte, reduceCtorEq, nA, nS, nM, nE, nL, nT, nB, iT, iN, iE, and_self, SR, SV, sz_65, sz_68, encApiWord, encTableLength]
                            refine Mir.use (e := e) ?_ h
                            refine Mir.ret fun e h => ?_
                            cases h
                            simp only [↓reduceIte, reduceCtorEq, nA, nE, nL, and_self, and_true, true_and, SL, encApiWord, encTableLength, Tryd.results21, ag_65, sz_65, ag_68, sz_68, fx_r, fx_n, xr_o, xr_n, rowT]
                          · refine Mir.skip ?_
                            refine Mir.toK ?_
                            refine Mir.seqK ?_
                            refine Mir.region fun e h => ?_
                            simp only [↓reduceIte, reduceCtorEq, nA, nS, nM, nE, nL, nT, nB, iT, iN, iE, and_self, SR, SV, encApiMotion, encApiWord, encInterpreterReached, encTableLength]
                            refine Mir.use (e := e) ?_ h
                            refine Mir.seqK ?_
                            refine Mir.seqK ?_
                            refine Mir.region fun e h => ?_
                            simp only [↓reduceIte, reduceCtorEq, nA, nS, nM, nE, nL, nT, nB, iT, iN, iE, and_self, SR, SV, und_107, encApiMotion, encApiWord, encInterpreterReached, encTableLength]
                            refine Mir.use (e := e) ?_ h
                            refine Mir.gh [.slot 19 62] rfl ?_
                            refine Mir.join (fun v238 : (List ApiMotion) × ApiPos => [U, U, U, U, U, .ptr 0 0, .ptr 1 0, U, U, U, U, .ptr 5 0, .ptr 6 0, U, U, U, U, U, U, .own 0 (List.map encApiMotion v238.1), U, U, U, U, U, U, U, U, U, U, U, U, U, U, U, U, U, U, U, U, U, U, U, U, U, U, U, U, U, U, U, U, U, U, U, U, U, U, U, U, U, U, U, U, U, U, U, U, U, U, U, U, U, U, U, U, U, U, U, U, U, U, U, U, U, U, U, U, U, U, U, U, U, U, U, U, U, U, U, U, U, U, U, U, U, U, U, U, U, U, U, U, U, U, U, U, U, U, U, U, U, U, U, U, U, U, U, U, U, U, U, U, U, U, U, U, U, U, U, U, U, U, U, U, U, U, U, U, U, U, U, U, U, U, U, U, U, U, U, U, U, U, U, U, U, U, U, U, U, U, U, U, U, U, U, U, U, U, U, U, U, U, U, U, U, U, U, U, U, U, U, U, U, U, U, U, U, U, U, U, U, U, U, U, U]) (fun v238 : (List ApiMotion) × ApiPos => ⟨[[.d (.int .i64 y110.1.Motion), .d (.int .i64 y110.1.Distance), .d (.int .i64 y110.1.Work), .d (.int .i64 y110.1.Length), .d (.int .i64 y110.1.Return), .d (.int .i64 y110.1.Feed), .d (.int .i64 y110.1.Tool), .d (.int .i64 y110.1.Offset)], [.d (.int .i64 y132.2.1.Code), .d (.int .i64 y132.2.1.R), .d (.int .i64 y132.2.1.Z), .d (.int .i64 y132.2.1.Q), .d (.int .i64 y132.2.1.Rate), .d (.int .i64 y132.2.1.Initial), .d (.bool y132.2.1.High)], [.d (.bool a2.Skip), .d (.list (List.map encApiWord a2.Words)), .d (.str a2.Comment)], [.d (.int .i64 a3.Work.e0.X), .d (.int .i64 a3.Work.e0.Y), .d (.int .i64 a3.Work.e0.Z), .d (.int .i64 a3.Work.e1.X), .d (.int .i64 a3.Work.e1.Y), .d (.int .i64 a3.Work.e1.Z), .d (.int .i64 a3.Work.e2.X), .d (.int .i64 a3.Work.e2.Y), .d (.int .i64 a3.Work.e2.Z), .d (.int .i64 a3.Work.e3.X), .d (.int .i64 a3.Work.e3.Y), .d (.int .i64 a3.Work.e3.Z), .d (.int .i64 a3.Work.e4.X), .d (.int .i64 a3.Work.e4.Y), .d (.int .i64 a3.Work.e4.Z), .d (.int .i64 a3.Work.e5.X), .d (.int .i64 a3.Work.e5.Y), .d (.int .i64 a3.Work.e5.Z), .d (.list (List.map encTableLength a3.Lengths))], [.d (.int .i64 v238.2.X), .d (.int .i64 v238.2.Y), .d (.int .i64 v238.2.Z)], [.d (.int .i64 0), .d (.int .i64 0), .d (.int .i64 0), .d (.int .i64 0), .d (.int .i64 0), .d (.int .i64 0), .d (.int .i64 0), .d (.int .i64 0)], [.d (.int .i64 0), .d (.int .i64 0), .d (.int .i64 0), .d (.int .i64 0), .d (.int .i64 0), .d (.int .i64 0), .d (.bool false)], [.d (.int .i64 y129.1.X), .d (.int .i64 y129.1.Y), .d (.int .i64 y129.1.Z)]], [(62, v238.1.length)]⟩) (fun _ => rfl) ?_ ?_
                            · refine Mir.block ?_
                              refine Mir.guard fun qg311 => ?_
                              refine Mir.range (fun (i274 : Nat) (v275 : (List ApiMotion) × ApiPos) => [U, U, U, U, U, .ptr 0 0, .ptr 1 0, U, .ptr 3 0, .ptr 4 0, U, .ptr 5 0, .ptr 6 0, U, U, U, .d (.int .i64 v128), U, U, .own 0 (List.map encApiMotion v275.1), U, U, U, U, U, U, U, U, U, U, U, U, U, U, U, U, U, U, U, U, U, U, U, U, U, U, U, U, U, U, U, U, U, U, U, U, U, U, U, U, U, U, U, U, U, U, U, U, U, U, U, U, U, U, U, U, U, U, U, U, U, U, U, U, U, U, U, U, U, U, U, U, U, U, U, U, U, U, U, U, U, U, U, U, U, U, U, U, U, U, U, U, U, U, U, U, U, U, U, U, U, U, U, U, U, U, U, U, U, U, U, U, U, U, U, U, U, U, U, U, U, U, U, U, U, U, U, U, U, U, U, U, U, U, U, U, U, U, U, U, U, U, .d (.list (List.map encInterpreterReached y132.1)), .d (.int .i64 (y132.1.length : Int)), .d (.int .i64 (i274 : Int)), U, U, U, U, U, U, U, U, U, U, U, U, U, U, U, U, U, U, U, U, U, U, U, U, U, U, U, U, U, U, U, U, U, U, U, U, U, U, U, U]) (fun (i274 : Nat) (v275 : (List ApiMotion) × ApiPos) => ⟨[[.d (.int .i64 y110.1.Motion), .d (.int .i64 y110.1.Distance), .d (.int .i64 y110.1.Work), .d (.int .i64 y110.1.Length), .d (.int .i64 y110.1.Return), .d (.int .i64 y110.1.Feed), .d (.int .i64 y110.1.Tool), .d (.int .i64 y110.1.Offset)], [.d (.int .i64 y132.2.1.Code), .d (.int .i64 y132.2.1.R), .d (.int .i64 y132.2.1.Z), .d (.int .i64 y132.2.1.Q), .d (.int .i64 y132.2.1.Rate), .d (.int .i64 y132.2.1.Initial), .d (.bool y132.2.1.High)], [.d (.bool a2.Skip), .d (.list (List.map encApiWord a2.Words)), .d (.str a2.Comment)], [.d (.int .i64 a3.Work.e0.X), .d (.int .i64 a3.Work.e0.Y), .d (.int .i64 a3.Work.e0.Z), .d (.int .i64 a3.Work.e1.X), .d (.int .i64 a3.Work.e1.Y), .d (.int .i64 a3.Work.e1.Z), .d (.int .i64 a3.Work.e2.X), .d (.int .i64 a3.Work.e2.Y), .d (.int .i64 a3.Work.e2.Z), .d (.int .i64 a3.Work.e3.X), .d (.int .i64 a3.Work.e3.Y), .d (.int .i64 a3.Work.e3.Z), .d (.int .i64 a3.Work.e4.X), .d (.int .i64 a3.Work.e4.Y), .d (.int .i64 a3.Work.e4.Z), .d (.int .i64 a3.Work.e5.X), .d (.int .i64 a3.Work.e5.Y), .d (.int .i64 a3.Work.e5.Z), .d (.list (List.map encTableLength a3.Lengths))], [.d (.int .i64 v275.2.X), .d (.int .i64 v275.2.Y), .d (.int .i64 v275.2.Z)], [.d (.int .i64 0), .d (.int .i64 0), .d (.int .i64 0), .d (.int .i64 0), .d (.int .i64 0), .d (.int .i64 0), .d (.int .i64 0), .d (.int .i64 0)], [.d (.int .i64 0), .d (.int .i64 0), .d (.int .i64 0), .d (.int .i64 0), .d (.int .i64 0), .d (.int .i64 0), .d (.bool false)], [.d (.int .i64 y129.1.X), .d (.int .i64 y129.1.Y), .d (.int .i64 y129.1.Z)]], [(62, v275.1.length)]⟩) qg311 (fun _ _ => rfl) (by simp only [↓reduceIte, reduceCtorEq, nA, nE, nL, and_self, and_true, true_and, SL, encApiMotion, encApiWord, encInterpreterReached, encTableLength, (nr rfl : ((0 : Nat) : Int) = 0)]) (by simp only [↓reduceIte, reduceCtorEq, nA, nE, nL, and_self, and_true, true_and, SL, encApiMotion, encApiWord, encInterpreterReached, encTableLength, (nr rfl : ((0 : Nat) : Int) = 0)]) ?_ ?_
                              · intro i274 e276 v275 qr309
                                refine Mir.seqK ?_
                                refine Mir.region fun e h => ?_
                                simp only [↓reduceIte, reduceCtorEq, nA, nS, nM, nE, nL, nT, nB, iT, iN, iE, and_self, SR, SV, qr309, encApiMotion, encApiWord, encInterpreterReached, encTableLength]
                                refine Mir.use (e := e) ?_ h
                                refine Mir.seqK ?_
                                refine Mir.condT rfl ?_
                                refine Mir.skip ?_
                                refine Mir.toK ?_
                                refine Mir.seqK ?_
                                refine Mir.block ?_
                                refine Mir.seqK ?_
                                refine Mir.region fun e h => ?_
                                simp only [↓reduceIte, reduceCtorEq, nA, nS, nM, nE, nL, nT, nB, iT, iN, iE, and_self, SR, SV, und_107, sz_111, qr309, ag_111, zero_111, encApiMotion, encApiWord, encInterpreterReached, encTableLength]
                                refine Mir.use (e := e) ?_ h
                                refine Mir.seqK ?_
                                refine Mir.bind fun y281 hy321 => ?_
                                refine Mir.region fun e h => ?_
                                simp only [↓reduceIte, reduceCtorEq, nA, nS, nM, nE, nL, nT, nB, iT, iN, iE, and_self, SR, SV, ag_54, sz_54, fld_65_2, sz_2, ag_2, fld_111_0, sz_24, ag_24, encApiMotion, encApiWord, encInterpreterReached, encTableLength]
                                refine SpecS.by (tb_Machine_spec hy321) (by simp only [↓reduceIte, reduceCtorEq, nA, nE, nL, and_self, and_true, true_and, SL, encApiMotion, encApiWord, encInterpreterReached, encTableLength]) ?_
                                simp only [↓reduceIte, reduceCtorEq, nA, nS, nM, nE, nL, nT, nB, iT, iN, iE, and_self, SR, SV, zero_24, sz_24, encApiMotion, encApiWord, encInterpreterReached, encTableLength]
                                refine Mir.use (e := e) ?_ h
                                refine Mir.seqK ?_
                                refine Mir.seqK ?_
                                refine Mir.region fun e h => ?_
                                simp only [↓reduceIte, reduceCtorEq, nA, nS, nM, nE, nL, nT, nB, iT, iN, iE, and_self, SR, SV, encApiMotion, encApiWord, encInterpreterReached, encTableLength]
                                refine Mir.use (e := e) ?_ h
                                refine Mir.cond rfl (fun hb324 => ?_) (fun hb324 => ?_)
                                · refine Mir.seqK ?_
                                  refine Mir.bind fun v283 hv325 => ?_
                                  refine Mir.region fun e h => ?_
                                  simp only [↓reduceIte, reduceCtorEq, nA, nS, nM, nE, nL, nT, nB, iT, iN, iE, and_self, SR, SV, encApiMotion, encApiWord, encInterpreterReached, encTableLength]
                                  refine SpecS.inl Tryd.func46 rfl (by kernel_rfl) (by kernel_rfl) (fun v283 : Unit => .tuple [.nil, .agg [.d (.int .i64 0), .d (.int .i64 0), .d (.int .i64 0), .d (.int .i64 0), .d (.int .i64 0), .d (.int .i64 0), .d (.int .i64 0), .d (.int .i64 0)], .agg [.d (.int .i64 0), .d (.int .i64 0), .d (.int .i64 0), .d (.int .i64 0), .d (.int .i64 0), .d (.int .i64 0), .d (.bool false)], .d (.int .i64 y281.2)]) (fun v283 : Unit => ⟨[[.d (.int .i64 y110.1.Motion), .d (.int .i64 y110.1.Distance), .d (.int .i64 y110.1.Work), .d (.int .i64 y110.1.Length), .d (.int .i64 y110.1.Return), .d (.int .i64 y110.1.Feed), .d (.int .i64 y110.1.Tool), .d (.int .i64 y110.1.Offset)], [.d (.int .i64 y132.2.1.Code), .d (.int .i64 y132.2.1.R), .d (.int .i64 y132.2.1.Z), .d (.int .i64 y132.2.1.Q), .d (.int .i64 y132.2.1.Rate), .d (.int .i64 y132.2.1.Initial), .d (.bool y132.2.1.High)], [.d (.bool a2.Skip), .d (.list (List.map encApiWord a2.Words)), .d (.str a2.Comment)], [.d (.int .i64 a3.Work.e0.X), .d (.int .i64 a3.Work.e0.Y), .d (.int .i64 a3.Work.e0.Z), .d (.int .i64 a3.Work.e1.X), .d (.int .i64 a3.Work.e1.Y), .d (.int .i64 a3.Work.e1.Z), .d (.int .i64 a3.Work.e2.X), .d (.int .i64 a3.Work.e2.Y), .d (.int .i64 a3.Work.e2.Z), .d (.int .i64 a3.Work.e3.X), .d (.int .i64 a3.Work.e3.Y), .d (.int .i64 a3.Work.e3.Z), .d (.int .i64 a3.Work.e4.X), .d (.int .i64 a3.Work.e4.Y), .d (.int .i64 a3.Work.e4.Z), .d (.int .i64 a3.Work.e5.X), .d (.int .i64 a3.Work.e5.Y), .d (.int .i64 a3.Work.e5.Z), .d (.list (List.map encTableLength a3.Lengths))], [.d (.int .i64 v275.2.X), .d (.int .i64 v275.2.Y), .d (.int .i64 v275.2.Z)], [.d (.int .i64 0), .d (.int .i64 0), .d (.int .i64 0), .d (.int .i64 0), .d (.int .i64 0), .d (.int .i64 0), .d (.int .i64 0), .d (.int .i64 0)], [.d (.int .i64 0), .d (.int .i64 0), .d (.int .i64 0), .d (.int .i64 0), .d (.int .i64 0), .d (.int .i64 0), .d (.bool false)], [.d (.int .i64 y129.1.X), .d (.int .i64 y129.1.Y), .d (.int .i64 y129.1.Z)], [.d (.int .i64 e276.at_.X), .d (.int .i64 e276.at_.Y), .d (.int .i64 e276.at_.Z), .d (.int .i64 e276.rate)], [.d (.int .i64 y281.1.X), .d (.int .i64 y281.1.Y), .d (.int .i64 y281.1.Z)]], [(62, v275.1.length)]⟩) hv325 rfl ?_ ?_
                                  · simp only [List.replicate, List.length, nS, nA, Tryd.ntmps46, SV]
                                    refine Mir.seqK ?_
                                    refine Mir.region fun e h => ?_
                                    simp only [↓reduceIte, reduceCtorEq, nA, nS, nM, nE, nL, nT, nB, iT, iN, iE, and_self, SR, SV, zero_65, zero_68, encApiMotion, encApiWord, encInterpreterReached, encTableLength]
                                    refine Mir.use (e := e) ?_ h
                                    refine Mir.seqK ?_
                                    refine Mir.region fun e h => ?_
                                    simp only [↓reduceIte, reduceCtorEq, nA, nS, nM, nE, nL, nT, nB, iT, iN, iE, and_self, SR, SV, zero_65, pl_65, zero_68, pl_68, sz_65, sz_68, encApiMotion, encApiWord, encInterpreterReached, encTableLength]
                                    refine Mir.use (e := e) ?_ h
                                    refine Mir.ret fun e h => ?_
                                    cases h
                                    simp only [↓reduceIte, reduceCtorEq, nA, nE, nL, and_self, and_true, true_and, SL, encApiMotion, encApiWord, encInterpreterReached, encTableLength, Tryd.results46, ag_65, sz_65, ag_68, sz_68]
                                  simp only [↓reduceIte, reduceCtorEq, nA, nS, nM, nE, nL, nT, nB, iT, iN, iE, and_self, SR, SV, sz_65, sz_68, encApiMotion, encApiWord, encInterpreterReached, encTableLength]
                                  refine Mir.use (e := e) ?_ h
                                  refine Mir.ret fun e h => ?_
                                  cases h
                                  simp only [↓reduceIte, reduceCtorEq, nA, nE, nL, and_self, and_true, true_and, SL, encApiMotion, encApiWord, encInterpreterReached, encTableLength, Tryd.results21, ag_65, sz_65, ag_68, sz_68, fx_r, fx_n, xr_o, xr_n, rowT]
                                · refine Mir.skip ?_
                                  refine Mir.toK ?_
                                  refine Mir.seqK ?_
                                  refine Mir.seqK ?_
                                  refine Mir.region fun e h => ?_
                                  simp only [↓reduceIte, reduceCtorEq, nA, nS, nM, nE, nL, nT, nB, iT, iN, iE, and_self, SR, SV, ag_24, sz_24, gE_24, encApiMotion, encApiWord, encInterpreterReached, encTableLength]
                                  refine Mir.use (e := e) ?_ h
                                  refine Mir.joinO (fun v284 : (List ApiMotion) => [U, U, U, U, U, .ptr 0 0, .ptr 1 0, U, .ptr 3 0, .ptr 4 0, U, .ptr 5 0, .ptr 6 0, U, U, U, .d (.int .i64 v128), U, U, .own 0 (List.map encApiMotion v284), U, U, .ptr 9 0, U, U, U, U, U, U, U, U, U, U, U, U, U, U, U, U, U, U, U, U, U, U, U, U, U, U, U, U, U, U, U, U, U, U, U, U, U, U, U, U, U, U, U, U, U, U, U, U, U, U, U, U, U, U, U, U, U, U, U, U, U, U, U, U, U, U, U, U, U, U, U, U, U, U, U, U, U, U, U, U, U, U, U, U, U, U, U, U, U, U, U, U, U, U, U, U, U, U, U, U, U, U, U, U, U, U, U, U, U, U, U, U, U, U, U, U, U, U, U, U, U, U, U, U, U, U, U, U, U, U, U, U, U, U, U, U, U, U, U, .d (.list (List.map encInterpreterReached y132.1)), .d (.int .i64 (y132.1.length : Int)), .d (.int .i64 (i274 : Int)), U, U, U, U, U, U, U, U, U, U, U, U, U, U, U, U, U, U, U, U, U, U, U, U, U, U, U, U, U, U, U, U, U, U, U, U, U, U, U, U]) (fun v284 : (List ApiMotion) => ⟨[[.d (.int .i64 y110.1.Motion), .d (.int .i64 y110.1.Distance), .d (.int .i64 y110.1.Work), .d (.int .i64 y110.1.Length), .d (.int .i64 y110.1.Return), .d (.int .i64 y110.1.Feed), .d (.int .i64 y110.1.Tool), .d (.int .i64 y110.1.Offset)], [.d (.int .i64 y132.2.1.Code), .d (.int .i64 y132.2.1.R), .d (.int .i64 y132.2.1.Z), .d (.int .i64 y132.2.1.Q), .d (.int .i64 y132.2.1.Rate), .d (.int .i64 y132.2.1.Initial), .d (.bool y132.2.1.High)], [.d (.bool a2.Skip), .d (.list (List.map encApiWord a2.Words)), .d (.str a2.Comment)], [.d (.int .i64 a3.Work.e0.X), .d (.int .i64 a3.Work.e0.Y), .d (.int .i64 a3.Work.e0.Z), .d (.int .i64 a3.Work.e1.X), .d (.int .i64 a3.Work.e1.Y), .d (.int .i64 a3.Work.e1.Z), .d (.int .i64 a3.Work.e2.X), .d (.int .i64 a3.Work.e2.Y), .d (.int .i64 a3.Work.e2.Z), .d (.int .i64 a3.Work.e3.X), .d (.int .i64 a3.Work.e3.Y), .d (.int .i64 a3.Work.e3.Z), .d (.int .i64 a3.Work.e4.X), .d (.int .i64 a3.Work.e4.Y), .d (.int .i64 a3.Work.e4.Z), .d (.int .i64 a3.Work.e5.X), .d (.int .i64 a3.Work.e5.Y), .d (.int .i64 a3.Work.e5.Z), .d (.list (List.map encTableLength a3.Lengths))], [.d (.int .i64 v275.2.X), .d (.int .i64 v275.2.Y), .d (.int .i64 v275.2.Z)], [.d (.int .i64 0), .d (.int .i64 0), .d (.int .i64 0), .d (.int .i64 0), .d (.int .i64 0), .d (.int .i64 0), .d (.int .i64 0), .d (.int .i64 0)], [.d (.int .i64 0), .d (.int .i64 0), .d (.int .i64 0), .d (.int .i64 0), .d (.int .i64 0), .d (.int .i64 0), .d (.bool false)], [.d (.int .i64 y129.1.X), .d (.int .i64 y129.1.Y), .d (.int .i64 y129.1.Z)], [.d (.int .i64 e276.at_.X), .d (.int .i64 e276.at_.Y), .d (.int .i64 e276.at_.Z), .d (.int .i64 e276.rate)], [.d (.int .i64 y281.1.X), .d (.int .i64 y281.1.Y), .d (.int .i64 y281.1.Z)]], [(62, v284.length)]⟩) (fun _ => rfl) ?_ ?_
                                  · refine Mir.cond rfl (fun hb328 => ?_) (fun hb328 => ?_)
                                    · refine Mir.guard fun q329 => ?_
                                      refine Mir.region fun e h => ?_
                                      simp only [↓reduceIte, reduceCtorEq, nA, nS, nM, nE, nL, nT, nB, iT, iN, iE, and_self, SR, SV, ag_24, sz_24, fld_111_1, sz_2, ag_2, fld_65_6, zero_62, pl_62, und_47, sz_62, (nr rfl : okLen 9 = true), app_47, al_ApiMotion, q329, encApiMotion, encApiWord, encInterpreterReached, encTableLength]
                                      cases h
                                      simp only [↓reduceIte, reduceCtorEq, nA, nE, nL, and_self, and_true, true_and, SL, encApiMotion, encApiWord, encInterpreterReached, encTableLength, Tryd.results21, ag_65, sz_65, ag_68, sz_68]
                                    · refine Mir.skip fun e h => ?_
                                      cases h
                                      simp only [↓reduceIte, reduceCtorEq, nA, nE, nL, and_self, and_true, true_and, SL, encApiMotion, encApiWord, encInterpreterReached, encTableLength, Tryd.results21, ag_65, sz_65, ag_68, sz_68]
                                  · intro v284
                                    refine Mir.toK ?_
                                    refine Mir.region fun e h => ?_
                                    simp only [↓reduceIte, reduceCtorEq, nA, nS, nM, nE, nL, nT, nB, iT, iN, iE, and_self, SR, SV, ag_24, sz_24, encApiMotion, encApiWord, encInterpreterReached, encTableLength]
                                    refine Mir.use (e := e) ?_ h
                                    refine Mir.region fun e h => ?_
                                    simp only [↓reduceIte, reduceCtorEq, nA, nS, nM, nE, nL, nT, nB, iT, iN, iE, and_self, SR, SV, encApiMotion, encApiWord, encInterpreterReached, encTableLength]
                                    cases h
                                    simp only [↓reduceIte, reduceCtorEq, nA, nE, nL, and_self, and_true, true_and, SL, encApiMotion, encApiWord, encInterpreterReached, encTableLength, Tryd.results21, ag_65, sz_65, ag_68, sz_68, qr309]
                              · intro v275 qd310
                                refine Mir.seqK ?_
                                refine Mir.region fun e h => ?_
                                simp only [↓reduceIte, reduceCtorEq, nA, nS, nM, nE, nL, nT, nB, iT, iN, iE, and_self, SR, SV, qd310, encApiMotion, encApiWord, encInterpreterReached, encTableLength]
                                refine Mir.use (e := e) ?_ h
                                refine Mir.seqK ?_
                                refine Mir.condF rfl ?_
                                refine Mir.exit fun e h => ?_
                                cases h
                                simp only [↓reduceIte, reduceCtorEq, nA, nE, nL, and_self, and_true, true_and, SL, encApiMotion, encApiWord, encInterpreterReached, encTableLength, Tryd.results21, ag_65, sz_65, ag_68, sz_68]
                            · intro v238
                              refine Mir.toK ?_
                              refine Mir.seqK ?_
                              refine Mir.regionD [(6, 11)] (by kernel_rfl) fun e h => ?_
                              simp only [↓reduceIte, reduceCtorEq, nA, nS, nM, nE, nL, nT, nB, iT, iN, iE, and_self, SR, SV, sepL_nil, sepL_cons, sepV_ne, sepV_d, sepV_i, true_and, Bool.and_self, ag_65, sz_65, ag_68, sz_68, encApiMotion, encApiWord, encInterpreterReached, encTableLength]
                              refine Mir.use (e := e) ?_ h
                              refine Mir.ret fun e h => ?_
                              cases h
                              simp only [↓reduceIte, reduceCtorEq, nA, nE, nL, and_self, and_true, true_and, SL, encApiMotion, encApiWord, encInterpreterReached, encTableLength, Tryd.results21, ag_65, sz_65, ag_68, sz_68, fx_r, fx_n, xr_o, xr_n, rowT]
theorem inp_Step_spec {a0 : ModalState} {a1 : CycleCycle} {a2 : ApiBlock} {a3 : TableTable} {a4 : ApiPos} {y : (List ApiMotion) × ModalState × CycleCycle × Int} (h : inp_Step a0 a1 a2 a3 a4 = some y) : Spec gP 21 [.agg [.d (.int .i64 a0.Motion), .d (.int .i64 a0.Distance), .d (.int .i64 a0.Work), .d (.int .i64 a0.Length), .d (.int .i64 a0.Return), .d (.int .i64 a0.Feed), .d (.int .i64 a0.Tool), .d (.int .i64 a0.Offset)], .agg [.d (.int .i64 a1.Code), .d (.int .i64 a1.R), .d (.int .i64 a1.Z), .d (.int .i64 a1.Q), .d (.int .i64 a1.Rate), .d (.int .i64 a1.Initial), .d (.bool a1.High)], .agg [.d (.bool a2.Skip), .d (.list (List.map encApiWord a2.Words)), .d (.str a2.Comment)], .agg [.d (.int .i64 a3.Work.e0.X), .d (.int .i64 a3.Work.e0.Y), .d (.int .i64 a3.Work.e0.Z), .d (.int .i64 a3.Work.e1.X), .d (.int .i64 a3.Work.e1.Y), .d (.int .i64 a3.Work.e1.Z), .d (.int .i64 a3.Work.e2.X), .d (.int .i64 a3.Work.e2.Y), .d (.int .i64 a3.Work.e2.Z), .d (.int .i64 a3.Work.e3.X), .d (.int .i64 a3.Work.e3.Y), .d (.int .i64 a3.Work.e3.Z), .d (.int .i64 a3.Work.e4.X), .d (.int .i64 a3.Work.e4.Y), .d (.int .i64 a3.Work.e4.Z), .d (.int .i64 a3.Work.e5.X), .d (.int .i64 a3.Work.e5.Y), .d (.int .i64 a3.Work.e5.Z), .d (.list (List.map encTableLength a3.Lengths))], .agg [.d (.int .i64 a4.X), .d (.int .i64 a4.Y), .d (.int .i64 a4.Z)]] (.tuple [.d (.list (List.map encApiMotion y.1)), .agg [.d (.int .i64 y.2.1.Motion), .d (.int .i64 y.2.1.Distance), .d (.int .i64 y.2.1.Work), .d (.int .i64 y.2.1.Length), .d (.int .i64 y.2.1.Return), .d (.int .i64 y.2.1.Feed), .d (.int .i64 y.2.1.Tool), .d (.int .i64 y.2.1.Offset)], .agg [.d (.int .i64 y.2.2.1.Code), .d (.int .i64 y.2.2.1.R), .d (.int .i64 y.2.2.1.Z), .d (.int .i64 y.2.2.1.Q), .d (.int .i64 y.2.2.1.Rate), .d (.int .i64 y.2.2.1.Initial), .d (.bool y.2.2.1.High)], .d (.int .i64 y.2.2.2)]) := (inp_Step_specX h).toSpec

def inp_End (a0 : ApiPos) (a1 : (List ApiMotion)) : Option ApiPos :=
  if ((a1.length : Int) == 0) = true then
    some a0
  else
    bindO (gt a1 (IntKind.i64.wrap ((a1.length : Int) - 1))) fun (e101 : ApiMotion) =>
    some e101.To
theorem inp_End_spec {a0 : ApiPos} {a1 : (List ApiMotion)} {y : ApiPos} (h : inp_End a0 a1 = some y) : Spec gP 22 [.agg [.d (.int .i64 a0.X), .d (.int .i64 a0.Y), .d (.int .i64 a0.Z)], .d (.list (List.map encApiMotion a1))] (.agg [.d (.int .i64 y.X), .d (.int .i64 y.Y), .d (.int .i64 y.Z)]) := by
  refine spec_mir Tryd.func22 rfl (by kernel_rfl) (by kernel_rfl) (fun y : ApiPos => .agg [.d (.int .i64 y.X), .d (.int .i64 y.Y), .d (.int .i64 y.Z)]) ?_ h
  unfold inp_End
  simp only [List.replicate, List.length, nS, nA, Tryd.ntmps22, SV]
  refine Mir.seqK ?_
  refine Mir.region fun e h => ?_
  simp only [↓reduceIte, reduceCtorEq, nA, nS, nM, nE, nL, nT, nB, iT, iN, iE, and_self, SR, SV, zero_24, encApiMotion]
  refine Mir.use (e := e) ?_ h
  refine Mir.seqK ?_
  refine Mir.seqK ?_
  refine Mir.region fun e h => ?_
  simp only [↓reduceIte, reduceCtorEq, nA, nS, nM, nE, nL, nT, nB, iT, iN, iE, and_self, SR, SV, und_47, encApiMotion]
  refine Mir.use (e := e) ?_ h
  refine Mir.cond rfl (fun hb2 => ?_) (fun hb2 => ?_)
  · refine Mir.seqK ?_
    refine Mir.region fun e h => ?_
    simp only [↓reduceIte, reduceCtorEq, nA, nS, nM, nE, nL, nT, nB, iT, iN, iE, and_self, SR, SV, ag_24, sz_24, encApiMotion]
    refine Mir.use (e := e) ?_ h
    refine Mir.ret fun e h => ?_
    cases h
    simp only [↓reduceIte, reduceCtorEq, nA, nE, nL, and_self, and_true, true_and, SL, encApiMotion, Tryd.results22, ag_24, sz_24]
  · refine Mir.skip ?_
    refine Mir.toK ?_
    refine Mir.seqK ?_
    refine Mir.bind fun e101 q3 => ?_
    replace q3 := gt_ok q3
    refine Mir.region fun e h => ?_
    simp only [↓reduceIte, reduceCtorEq, nA, nS, nM, nE, nL, nT, nB, iT, iN, iE, and_self, SR, SV, und_47, sz_62, q3, fld_62_1, sz_24, ag_24, encApiMotion]
    refine Mir.use (e := e) ?_ h
    refine Mir.ret fun e h => ?_
    cases h
    simp only [↓reduceIte, reduceCtorEq, nA, nE, nL, and_self, and_true, true_and, SL, encApiMotion, Tryd.results22, ag_24, sz_24]

def bk_Codes (a0 : ApiBlock) (a1 : Int) : Option (List Int) :=
  bindO (guardO (okIdx a0.Words) (
      rangeX (fun (i157 : Nat) (e159 : ApiWord) (v158 : (List Int)) =>
        bindO (if (e159.Letter == a1) = true then
              guardO (okLen (v158.length + 1)) (
              some (v158 ++ [e159.Value]))
            else
              some v158) fun (v160 : (List Int)) =>
        some (.go v160)) (fun (v158 : (List Int)) => some v158) a0.Words 0 [])) fun (v142 : (List Int)) =>
  some v142
theorem bk_Codes_spec {a0 : ApiBlock} {a1 : Int} {y : (List Int)} (h : bk_Codes a0 a1 = some y) : Spec gP 44 [.agg [.d (.bool a0.Skip), .d (.list (List.map encApiWord a0.Words)), .d (.str a0.Comment)], .d (.int .u8 a1)] (.d (.list (List.map (eInt .i64) y))) := by
  refine spec_mir Tryd.func44 rfl (by kernel_rfl) (by kernel_rfl) (fun y : (List Int) => .d (.list (List.map (eInt .i64) y))) ?_ h
  unfold bk_Codes
  simp only [List.replicate, List.length, nS, nA, Tryd.ntmps44, SV]
  refine Mir.seqK ?_
  refine Mir.region fun e h => ?_
  simp only [↓reduceIte, reduceCtorEq, nA, nS, nM, nE, nL, nT, nB, iT, iN, iE, and_self, SR, SV, eInt, encApiWord]
  refine Mir.use (e := e) ?_ h
  refine Mir.seqK ?_
  refine Mir.region fun e h => ?_
  simp only [↓reduceIte, reduceCtorEq, nA, nS, nM, nE, nL, nT, nB, iT, iN, iE, and_self, SR, SV, eInt, encApiWord]
  refine Mir.use (e := e) ?_ h
  refine Mir.seqK ?_
  refine Mir.seqK ?_
  refine Mir.region fun e h => ?_
  simp only [↓reduceIte, reduceCtorEq, nA, nS, nM, nE, nL, nT, nB, iT, iN, iE, and_self, SR, SV, fld_42_1, sz_40, ag_40, und_40, eInt, encApiWord]
  refine Mir.use (e := e) ?_ h
  refine Mir.gh [.slot 5 2] rfl ?_
  refine Mir.joinO (fun v142 : (List Int) => [U, U, U, U, U, .own 0 (List.map (eInt .i64) v142), U, U, U, U, U, U, U, U, U, U, U, U, U, U, U, U, U, U, U, U]) (fun v142 : (List Int) => ⟨[[.d (.bool a0.Skip), .d (.list (List.map encApiWord a0.Words)), .d (.str a0.Comment)]], [(2, v142.length)]⟩) (fun _ => rfl) ?_ ?_
  · refine Mir.block ?_
    refine Mir.guard fun qg91 => ?_
    refine Mir.range (fun (i157 : Nat) (v158 : (List Int)) => [U, .d (.int .u8 a1), U, U, U, .own 0 (List.map (eInt .i64) v158), U, U, U, .d (.list (List.map encApiWord a0.Words)), .d (.int .i64 (a0.Words.length : Int)), .d (.int .i64 (i157 : Int)), U, U, U, U, U, U, U, U, U, U, U, U, U, U]) (fun (i157 : Nat) (v158 : (List Int)) => ⟨[[.d (.bool a0.Skip), .d (.list (List.map encApiWord a0.Words)), .d (.str a0.Comment)]], [(2, v158.length)]⟩) qg91 (fun _ _ => rfl) (by simp only [↓reduceIte, reduceCtorEq, nA, nE, nL, and_self, and_true, true_and, SL, eInt, encApiWord, (nr rfl : ((0 : Nat) : Int) = 0)]) (by simp only [↓reduceIte, reduceCtorEq, nA, nE, nL, and_self, and_true, true_and, SL, eInt, encApiWord, (nr rfl : ((0 : Nat) : Int) = 0)]) ?_ ?_
    · intro i157 e159 v158 qr89
      refine Mir.seqK ?_
      refine Mir.region fun e h => ?_
      simp only [↓reduceIte, reduceCtorEq, nA, nS, nM, nE, nL, nT, nB, iT, iN, iE, and_self, SR, SV, qr89, eInt, encApiWord]
      refine Mir.use (e := e) ?_ h
      refine Mir.seqK ?_
      refine Mir.condT rfl ?_
      refine Mir.skip ?_
      refine Mir.toK ?_
      refine Mir.seqK ?_
      refine Mir.joinO (fun v160 : (List Int) => [U, .d (.int .u8 a1), U, U, U, .own 0 (List.map (eInt .i64) v160), U, U, U, .d (.list (List.map encApiWord a0.Words)), .d (.int .i64 (a0.Words.length : Int)), .d (.int .i64 (i157 : Int)), U, U, U, U, U, U, U, U, U, U, U, U, U, U]) (fun v160 : (List Int) => ⟨[[.d (.bool a0.Skip), .d (.list (List.map encApiWord a0.Words)), .d (.str a0.Comment)]], [(2, v160.length)]⟩) (fun _ => rfl) ?_ ?_
      · refine Mir.block ?_
        refine Mir.seqK ?_
        refine Mir.region fun e h => ?_
        simp only [↓reduceIte, reduceCtorEq, nA, nS, nM, nE, nL, nT, nB, iT, iN, iE, and_self, SR, SV, und_40, sz_38, qr89, ag_38, zero_38, eInt, encApiWord]
        refine Mir.use (e := e) ?_ h
        refine Mir.seqK ?_
        refine Mir.region fun e h => ?_
        simp only [↓reduceIte, reduceCtorEq, nA, nS, nM, nE, nL, nT, nB, iT, iN, iE, and_self, SR, SV, fld_38_0, sz_5, ag_5, eInt, encApiWord]
        refine Mir.use (e := e) ?_ h
        refine Mir.cond rfl (fun hb94 => ?_) (fun hb94 => ?_)
        · refine Mir.guard fun q95 => ?_
          refine Mir.region fun e h => ?_
          simp only [↓reduceIte, reduceCtorEq, nA, nS, nM, nE, nL, nT, nB, iT, iN, iE, and_self, SR, SV, fld_38_1, sz_2, ag_2, und_98, zero_2, (nr rfl : okLen 1 = true), app_98, al_eInt, q95, eInt, encApiWord]
          cases h
          simp only [↓reduceIte, reduceCtorEq, nA, nE, nL, and_self, and_true, true_and, SL, eInt, encApiWord, Tryd.results44]
        · refine Mir.skip fun e h => ?_
          cases h
          simp only [↓reduceIte, reduceCtorEq, nA, nE, nL, and_self, and_true, true_and, SL, eInt, encApiWord, Tryd.results44]
      · intro v160
        refine Mir.toK ?_
        refine Mir.region fun e h => ?_
        simp only [↓reduceIte, reduceCtorEq, nA, nS, nM, nE, nL, nT, nB, iT, iN, iE, and_self, SR, SV, eInt, encApiWord]
        cases h
        simp only [↓reduceIte, reduceCtorEq, nA, nE, nL, and_self, and_true, true_and, SL, eInt, encApiWord, Tryd.results44, qr89]
    · intro v158 qd90
      refine Mir.seqK ?_
      refine Mir.region fun e h => ?_
      simp only [↓reduceIte, reduceCtorEq, nA, nS, nM, nE, nL, nT, nB, iT, iN, iE, and_self, SR, SV, qd90, eInt, encApiWord]
      refine Mir.use (e := e) ?_ h
      refine Mir.seqK ?_
      refine Mir.condF rfl ?_
      refine Mir.exit fun e h => ?_
      cases h
      simp only [↓reduceIte, reduceCtorEq, nA, nE, nL, and_self, and_true, true_and, SL, eInt, encApiWord, Tryd.results44]
  · intro v142
    refine Mir.toK ?_
    refine Mir.seqK ?_
    refine Mir.region fun e h => ?_
    simp only [↓reduceIte, reduceCtorEq, nA, nS, nM, nE, nL, nT, nB, iT, iN, iE, and_self, SR, SV, eInt, encApiWord]
    refine Mir.use (e := e) ?_ h
    refine Mir.ret fun e h => ?_
    cases h
    simp only [↓reduceIte, reduceCtorEq, nA, nE, nL, and_self, and_true, true_and, SL, eInt, encApiWord, Tryd.results44]

def inp_Blocks (a0 : (List ApiBlock)) (a1 : TableTable) (a2 : ApiPos) : Option ((List ApiMotion) × InterpreterAlarm) :=
  bindO (inp_checked (TableTable.mk a1.Work a1.Lengths) a2) fun (y101 : Int) =>
  if (y101 != 0) = true then
    some ([], InterpreterAlarm.mk (-1) y101)
  else
    bindO (md_New ) fun (y102 : ModalState) =>
    bindX (guardO (okIdx a0) (
        rangeX (fun (i1134 : Nat) (e1136 : ApiBlock) (v1135 : (List ApiMotion) × ApiPos × ModalState × CycleCycle) =>
          bindX (bindO (inp_Step v1135.2.2.1 v1135.2.2.2 e1136 (TableTable.mk a1.Work a1.Lengths) v1135.2.1) fun (y1177 : (List ApiMotion) × ModalState × CycleCycle × Int) =>
              bindO (if (y1177.2.2.2 == 0) = true then
                    some (decide ((IntKind.i64.wrap ((v1135.1.length : Int) + (y1177.1.length : Int))) > 20000))
                  else
                    some false) fun (v1178 : Bool) =>
              bindO (if v1178 = true then
                    some 3
                  else
                    some y1177.2.2.2) fun (v1179 : Int) =>
              if (v1179 != 0) = true then
                some (.ret (.ret (.ret (v1135.1, InterpreterAlarm.mk (i1134 : Int) v1179))))
              else
                bindO (guardO (okIdx y1177.1) (
                    rangeX (fun (i1208 : Nat) (e1210 : ApiMotion) (v1209 : (List ApiMotion)) =>
                      bindO (gt v1209 (i1208 : Int)) fun (e1212 : ApiMotion) =>
                      some (.go (v1209.set (Int.toNat (i1208 : Int)) (ApiMotion.mk e1212.From e1212.To e1212.Rate e1212.Tool (i1134 : Int))))) (fun (v1209 : (List ApiMotion)) => some v1209) y1177.1 0 y1177.1)) fun (v1196 : (List ApiMotion)) =>
                guardO (okLen (v1135.1.length + v1196.length)) (
                bindO (inp_End v1135.2.1 v1196) fun (y1213 : ApiPos) =>
                bindO (bk_Codes e1136 77) fun (y1214 : (List Int)) =>
                bindO (slices_Contains_int64_int64 y1214 30000) fun (y1215 : Bool) =>
                if y1215 = true then
                  some (.ret (.ret (.ret (v1135.1 ++ v1196, InterpreterAlarm.mk (-1) 0))))
                else
                  some (.go (v1135.1 ++ v1196, y1213, y1177.2.1, y1177.2.2.1)))) fun (v1176 : (List ApiMotion) × ApiPos × ModalState × CycleCycle) =>
          some (.go (v1176.1, v1176.2.1, v1176.2.2.1, v1176.2.2.2))) (fun (v1135 : (List ApiMotion) × ApiPos × ModalState × CycleCycle) => some (.go (v1135.1, v1135.2.1, v1135.2.2.1, v1135.2.2.2))) a0 0 ([], a2, y102, CycleCycle.mk 0 0 0 0 0 0 false))) fun (v885 : (List ApiMotion) × ApiPos × ModalState × CycleCycle) =>
    some (v885.1, InterpreterAlarm.mk (a0.length : Int) 13)
set_option maxHeartbeats 8000000 in
theorem inp_Blocks_spec {a0 : (List ApiBlock)} {a1 : TableTable} {a2 : ApiPos} {y : (List ApiMotion) × InterpreterAlarm} (h : inp_Blocks a0 a1 a2 = some y) : Spec gP 15 [.d (.list (List.map encApiBlock a0)), .agg [.d (.int .i64 a1.Work.e0.X), .d (.int .i64 a1.Work.e0.Y), .d (.int .i64 a1.Work.e0.Z), .d (.int .i64 a1.Work.e1.X), .d (.int .i64 a1.Work.e1.Y), .d (.int .i64 a1.Work.e1.Z), .d (.int .i64 a1.Work.e2.X), .d (.int .i64 a1.Work.e2.Y), .d (.int .i64 a1.Work.e2.Z), .d (.int .i64 a1.Work.e3.X), .d (.int .i64 a1.Work.e3.Y), .d (.int .i64 a1.Work.e3.Z), .d (.int .i64 a1.Work.e4.X), .d (.int .i64 a1.Work.e4.Y), .d (.int .i64 a1.Work.e4.Z), .d (.int .i64 a1.Work.e5.X), .d (.int .i64 a1.Work.e5.Y), .d (.int .i64 a1.Work.e5.Z), .d (.list (List.map encTableLength a1.Lengths))], .agg [.d (.int .i64 a2.X), .d (.int .i64 a2.Y), .d (.int .i64 a2.Z)]] (.tuple [.d (.list (List.map encApiMotion y.1)), .agg [.d (.int .i64 y.2.Block), .d (.int .i64 y.2.Code)]]) := by
  refine spec_mir Tryd.func15 rfl (by kernel_rfl) (by kernel_rfl) (fun y : (List ApiMotion) × InterpreterAlarm => .tuple [.d (.list (List.map encApiMotion y.1)), .agg [.d (.int .i64 y.2.Block), .d (.int .i64 y.2.Code)]]) ?_ h
  unfold inp_Blocks
  simp only [List.replicate, List.length, nS, nA, Tryd.ntmps15, SV]
  refine Mir.seqK ?_
  refine Mir.region fun e h => ?_
  simp only [↓reduceIte, reduceCtorEq, nA, nS, nM, nE, nL, nT, nB, iT, iN, iE, and_self, SR, SV, zero_49, encApiBlock, encApiMotion, encTableLength, rmap_set, spD]
  refine Mir.use (e := e) ?_ h
  refine Mir.seqK ?_
  refine Mir.seqK ?_
  refine Mir.bind fun y101 hy1 => ?_
  refine Mir.region fun e h => ?_
  simp only [↓reduceIte, reduceCtorEq, nA, nS, nM, nE, nL, nT, nB, iT, iN, iE, and_self, SR, SV, ag_54, sz_54, ag_24, sz_24, encApiBlock, encApiMotion, encTableLength, rmap_set, spD]
  refine SpecS.by (inp_checked_spec hy1) (by simp only [↓reduceIte, reduceCtorEq, nA, nE, nL, and_self, and_true, true_and, SL, encApiBlock, encApiMotion, encTableLength, rmap_set, spD]) ?_
  simp only [↓reduceIte, reduceCtorEq, nA, nS, nM, nE, nL, nT, nB, iT, iN, iE, and_self, SR, SV, encApiBlock, encApiMotion, encTableLength, rmap_set, spD]
  refine Mir.use (e := e) ?_ h
  refine Mir.seqK ?_
  refine Mir.region fun e h => ?_
  simp only [↓reduceIte, reduceCtorEq, nA, nS, nM, nE, nL, nT, nB, iT, iN, iE, and_self, SR, SV, encApiBlock, encApiMotion, encTableLength, rmap_set, spD]
  refine Mir.use (e := e) ?_ h
  refine Mir.cond rfl (fun hb3 => ?_) (fun hb3 => ?_)
  · refine Mir.seqK ?_
    refine Mir.region fun e h => ?_
    simp only [↓reduceIte, reduceCtorEq, nA, nS, nM, nE, nL, nT, nB, iT, iN, iE, and_self, SR, SV, zero_49, pl_49, sz_49, encApiBlock, encTableLength]
    refine Mir.use (e := e) ?_ h
    refine Mir.ret fun e h => ?_
    cases h
    simp only [↓reduceIte, reduceCtorEq, nA, nE, nL, and_self, and_true, true_and, SL, encApiBlock, encTableLength, Tryd.results15, ag_49, sz_49]
  · refine Mir.skip ?_
    refine Mir.toK ?_
    refine Mir.seqK ?_
    refine Mir.bind fun y102 hy4 => ?_
    refine Mir.region fun e h => ?_
    simp only [↓reduceIte, reduceCtorEq, nA, nS, nM, nE, nL, nT, nB, iT, iN, iE, and_self, SR, SV, encApiBlock, encApiMotion, encTableLength, rmap_set, spD]
    refine SpecS.by (md_New_spec hy4) (rfl) ?_
    simp only [↓reduceIte, reduceCtorEq, nA, nS, nM, nE, nL, nT, nB, iT, iN, iE, and_self, SR, SV, zero_68, pl_68, zero_65, sz_65, sz_68, encApiBlock, encApiMotion, encTableLength, rmap_set, spD]
    refine Mir.use (e := e) ?_ h
    refine Mir.seqK ?_
    refine Mir.region fun e h => ?_
    simp only [↓reduceIte, reduceCtorEq, nA, nS, nM, nE, nL, nT, nB, iT, iN, iE, and_self, SR, SV, encApiBlock, encApiMotion, encTableLength, rmap_set, spD]
    refine Mir.use (e := e) ?_ h
    refine Mir.seqK ?_
    refine Mir.seqK ?_
    refine Mir.region fun e h => ?_
    simp only [↓reduceIte, reduceCtorEq, nA, nS, nM, nE, nL, nT, nB, iT, iN, iE, and_self, SR, SV, und_43, encApiBlock, encApiMotion, encTableLength, rmap_set, spD]
    refine Mir.use (e := e) ?_ h
    refine Mir.gh [.slot 11 62] rfl ?_
    refine Mir.join (fun v885 : (List ApiMotion) × ApiPos × ModalState × CycleCycle => [.d (.list (List.map encApiBlock a0)), U, U, U, U, U, U, .ptr 2 0, U, U, U, .own 0 (List.map encApiMotion v885.1), U, U, U, U, U, U, U, U, U, U, U, U, U, U, U, U, U, U, U, U, U, U, U, U, U, U, U, U, U, U, U, U, U, U, U, U, U, U, U, U, U, U, U, U, U, U, U, U, U, U, U, U, U, U, U, U, U, U, U, U, U, U, U, U, U, U, U, U, U, U, U, U, U, U, U, U, U, U, U]) (fun v885 : (List ApiMotion) × ApiPos × ModalState × CycleCycle => ⟨[[.d (.int .i64 a1.Work.e0.X), .d (.int .i64 a1.Work.e0.Y), .d (.int .i64 a1.Work.e0.Z), .d (.int .i64 a1.Work.e1.X), .d (.int .i64 a1.Work.e1.Y), .d (.int .i64 a1.Work.e1.Z), .d (.int .i64 a1.Work.e2.X), .d (.int .i64 a1.Work.e2.Y), .d (.int .i64 a1.Work.e2.Z), .d (.int .i64 a1.Work.e3.X), .d (.int .i64 a1.Work.e3.Y), .d (.int .i64 a1.Work.e3.Z), .d (.int .i64 a1.Work.e4.X), .d (.int .i64 a1.Work.e4.Y), .d (.int .i64 a1.Work.e4.Z), .d (.int .i64 a1.Work.e5.X), .d (.int .i64 a1.Work.e5.Y), .d (.int .i64 a1.Work.e5.Z), .d (.list (List.map encTableLength a1.Lengths))], [.d (.int .i64 v885.2.1.X), .d (.int .i64 v885.2.1.Y), .d (.int .i64 v885.2.1.Z)], [.d (.int .i64 0), .d (.int .i64 0)], [.d (.int .i64 v885.2.2.1.Motion), .d (.int .i64 v885.2.2.1.Distance), .d (.int .i64 v885.2.2.1.Work), .d (.int .i64 v885.2.2.1.Length), .d (.int .i64 v885.2.2.1.Return), .d (.int .i64 v885.2.2.1.Feed), .d (.int .i64 v885.2.2.1.Tool), .d (.int .i64 v885.2.2.1.Offset)], [.d (.int .i64 v885.2.2.2.Code), .d (.int .i64 v885.2.2.2.R), .d (.int .i64 v885.2.2.2.Z), .d (.int .i64 v885.2.2.2.Q), .d (.int .i64 v885.2.2.2.Rate), .d (.int .i64 v885.2.2.2.Initial), .d (.bool v885.2.2.2.High)]], [(62, v885.1.length)]⟩) (fun _ => rfl) ?_ ?_
    · refine Mir.block ?_
      refine Mir.guard fun qg1179 => ?_
      refine Mir.range (fun (i1134 : Nat) (v1135 : (List ApiMotion) × ApiPos × ModalState × CycleCycle) => [.d (.list (List.map encApiBlock a0)), U, U, U, .ptr 0 0, .ptr 1 0, U, .ptr 2 0, U, .ptr 3 0, .ptr 4 0, .own 0 (List.map encApiMotion v1135.1), U, U, U, U, U, U, U, U, U, U, U, U, U, U, U, U, .d (.list (List.map encApiBlock a0)), .d (.int .i64 (a0.length : Int)), .d (.int .i64 (i1134 : Int)), U, U, U, U, U, U, U, U, U, U, U, U, U, U, U, U, U, U, U, U, U, U, U, U, U, U, U, U, U, U, U, U, U, U, U, U, U, U, U, U, U, U, U, U, U, U, U, U, U, U, U, U, U, U, U, U, U, U, U, U]) (fun (i1134 : Nat) (v1135 : (List ApiMotion) × ApiPos × ModalState × CycleCycle) => ⟨[[.d (.int .i64 a1.Work.e0.X), .d (.int .i64 a1.Work.e0.Y), .d (.int .i64 a1.Work.e0.Z), .d (.int .i64 a1.Work.e1.X), .d (.int .i64 a1.Work.e1.Y), .d (.int .i64 a1.Work.e1.Z), .d (.int .i64 a1.Work.e2.X), .d (.int .i64 a1.Work.e2.Y), .d (.int .i64 a1.Work.e2.Z), .d (.int .i64 a1.Work.e3.X), .d (.int .i64 a1.Work.e3.Y), .d (.int .i64 a1.Work.e3.Z), .d (.int .i64 a1.Work.e4.X), .d (.int .i64 a1.Work.e4.Y), .d (.int .i64 a1.Work.e4.Z), .d (.int .i64 a1.Work.e5.X), .d (.int .i64 a1.Work.e5.Y), .d (.int .i64 a1.Work.e5.Z), .d (.list (List.map encTableLength a1.Lengths))], [.d (.int .i64 v1135.2.1.X), .d (.int .i64 v1135.2.1.Y), .d (.int .i64 v1135.2.1.Z)], [.d (.int .i64 0), .d (.int .i64 0)], [.d (.int .i64 v1135.2.2.1.Motion), .d (.int .i64 v1135.2.2.1.Distance), .d (.int .i64 v1135.2.2.1.Work), .d (.int .i64 v1135.2.2.1.Length), .d (.int .i64 v1135.2.2.1.Return), .d (.int .i64 v1135.2.2.1.Feed), .d (.int .i64 v1135.2.2.1.Tool), .d (.int .i64 v1135.2.2.1.Offset)], [.d (.int .i64 v1135.2.2.2.Code), .d (.int .i64 v1135.2.2.2.R), .d (.int .i64 v1135.2.2.2.Z), .d (.int .i64 v1135.2.2.2.Q), .d (.int .i64 v1135.2.2.2.Rate), .d (.int .i64 v1135.2.2.2.Initial), .d (.bool v1135.2.2.2.High)]], [(62, v1135.1.length)]⟩) qg1179 (fun _ _ => rfl) (by simp only [↓reduceIte, reduceCtorEq, nA, nE, nL, and_self, and_true, true_and, SL, encApiBlock, encApiMotion, encTableLength, rmap_set, spD, (nr rfl : ((0 : Nat) : Int) = 0)]) (by simp only [↓reduceIte, reduceCtorEq, nA, nE, nL, and_self, and_true, true_and, SL, encApiBlock, encApiMotion, encTableLength, rmap_set, spD, (nr rfl : ((0 : Nat) : Int) = 0)]) ?_ ?_
      · intro i1134 e1136 v1135 qr1177
        refine Mir.seqK ?_
        refine Mir.region fun e h => ?_
        simp only [↓reduceIte, reduceCtorEq, nA, nS, nM, nE, nL, nT, nB, iT, iN, iE, and_self, SR, SV, qr1177, encApiBlock, encApiMotion, encTableLength, rmap_set, spD]
        refine Mir.use (e := e) ?_ h
        refine Mir.seqK ?_
        refine Mir.condT rfl ?_
        refine Mir.skip ?_
        refine Mir.toK ?_
        refine Mir.seqK ?_
        refine Mir.join (fun v1176 : (List ApiMotion) × ApiPos × ModalState × CycleCycle => [.d (.list (List.map encApiBlock a0)), U, U, U, .ptr 0 0, .ptr 1 0, U, .ptr 2 0, U, .ptr 3 0, .ptr 4 0, .own 0 (List.map encApiMotion v1176.1), U, U, U, U, U, U, U, U, U, U, U, U, U, U, U, U, .d (.list (List.map encApiBlock a0)), .d (.int .i64 (a0.length : Int)), .d (.int .i64 (i1134 : Int)), U, U, U, U, U, U, U, U, U, U, U, U, U, U, U, U, U, U, U, U, U, U, U, U, U, U, U, U, U, U, U, U, U, U, U, U, U, U, U, U, U, U, U, U, U, U, U, U, U, U, U, U, U, U, U, U, U, U, U, U]) (fun v1176 : (List ApiMotion) × ApiPos × ModalState × CycleCycle => ⟨[[.d (.int .i64 a1.Work.e0.X), .d (.int .i64 a1.Work.e0.Y), .d (.int .i64 a1.Work.e0.Z), .d (.int .i64 a1.Work.e1.X), .d (.int .i64 a1.Work.e1.Y), .d (.int .i64 a1.Work.e1.Z), .d (.int .i64 a1.Work.e2.X), .d (.int .i64 a1.Work.e2.Y), .d (.int .i64 a1.Work.e2.Z), .d (.int .i64 a1.Work.e3.X), .d (.int .i64 a1.Work.e3.Y), .d (.int .i64 a1.Work.e3.Z), .d (.int .i64 a1.Work.e4.X), .d (.int .i64 a1.Work.e4.Y), .d (.int .i64 a1.Work.e4.Z), .d (.int .i64 a1.Work.e5.X), .d (.int .i64 a1.Work.e5.Y), .d (.int .i64 a1.Work.e5.Z), .d (.list (List.map encTableLength a1.Lengths))], [.d (.int .i64 v1176.2.1.X), .d (.int .i64 v1176.2.1.Y), .d (.int .i64 v1176.2.1.Z)], [.d (.int .i64 0), .d (.int .i64 0)], [.d (.int .i64 v1176.2.2.1.Motion), .d (.int .i64 v1176.2.2.1.Distance), .d (.int .i64 v1176.2.2.1.Work), .d (.int .i64 v1176.2.2.1.Length), .d (.int .i64 v1176.2.2.1.Return), .d (.int .i64 v1176.2.2.1.Feed), .d (.int .i64 v1176.2.2.1.Tool), .d (.int .i64 v1176.2.2.1.Offset)], [.d (.int .i64 v1176.2.2.2.Code), .d (.int .i64 v1176.2.2.2.R), .d (.int .i64 v1176.2.2.2.Z), .d (.int .i64 v1176.2.2.2.Q), .d (.int .i64 v1176.2.2.2.Rate), .d (.int .i64 v1176.2.2.2.Initial), .d (.bool v1176.2.2.2.High)]], [(62, v1176.1.length)]⟩) (fun _ => rfl) ?_ ?_
        · refine Mir.block ?_
          refine Mir.seqK ?_
          refine Mir.region fun e h => ?_
          simp only [↓reduceIte, reduceCtorEq, nA, nS, nM, nE, nL, nT, nB, iT, iN, iE, and_self, SR, SV, und_43, sz_42, qr1177, ag_42, zero_42, encApiBlock, encApiMotion, encTableLength, rmap_set, spD]
          refine Mir.use (e := e) ?_ h
          refine Mir.seqK ?_
          refine Mir.bind fun y1177 hy1225 => ?_
          refine Mir.region fun e h => ?_
          simp only [↓reduceIte, reduceCtorEq, nA, nS, nM, nE, nL, nT, nB, iT, iN, iE, and_self, SR, SV, ag_65, sz_65, ag_68, sz_68, ag_42, sz_42, ag_54, sz_54, ag_24, sz_24, encApiBlock, encApiMotion, encTableLength, rmap_set, spD]
          refine SpecX.toS (inp_Step_specX hy1225) (by simp only [↓reduceIte, reduceCtorEq, nA, nE, nL, and_self, and_true, true_and, SL, encApiBlock, encApiMotion, encTableLength, rmap_set, spD]) ?_
          simp only [↓reduceIte, reduceCtorEq, nA, nS, nM, nE, nL, nT, nB, iT, iN, iE, and_self, SR, SV, zero_65, zero_68, sz_65, sz_68, encApiBlock, encApiMotion, encTableLength, rmap_set, spD]
          refine Mir.use (e := e) ?_ h
          refine Mir.seqK ?_
          refine Mir.seqK ?_
          refine Mir.joinO (fun v1178 : Bool => [.d (.list (List.map encApiBlock a0)), U, U, U, .ptr 0 0, .ptr 1 0, U, .ptr 2 0, U, .ptr 3 0, .ptr 4 0, .own 0 (List.map encApiMotion v1135.1), .d (.int .i64 (i1134 : Int)), .ptr 5 0, .gr 6 0, .ptr 7 0, .ptr 8 0, .d (.int .i64 y1177.2.2.2), U, U, U, U, U, U, U, U, U, U, .d (.list (List.map encApiBlock a0)), .d (.int .i64 (a0.length : Int)), .d (.int .i64 (i1134 : Int)), U, U, U, U, U, U, U, U, U, U, U, U, U, U, U, U, U, U, U, U, U, U, U, U, .d (.bool v1178), U, U, U, U, U, U, U, U, U, U, U, U, U, U, U, U, U, U, U, U, U, U, U, U, U, U, U, U, U, U, U, U, U, U, U]) (fun v1178 : Bool => ⟨[[.d (.int .i64 a1.Work.e0.X), .d (.int .i64 a1.Work.e0.Y), .d (.int .i64 a1.Work.e0.Z), .d (.int .i64 a1.Work.e1.X), .d (.int .i64 a1.Work.e1.Y), .d (.int .i64 a1.Work.e1.Z), .d (.int .i64 a1.Work.e2.X), .d (.int .i64 a1.Work.e2.Y), .d (.int .i64 a1.Work.e2.Z), .d (.int .i64 a1.Work.e3.X), .d (.int .i64 a1.Work.e3.Y), .d (.int .i64 a1.Work.e3.Z), .d (.int .i64 a1.Work.e4.X), .d (.int .i64 a1.Work.e4.Y), .d (.int .i64 a1.Work.e4.Z), .d (.int .i64 a1.Work.e5.X), .d (.int .i64 a1.Work.e5.Y), .d (.int .i64 a1.Work.e5.Z), .d (.list (List.map encTableLength a1.Lengths))], [.d (.int .i64 v1135.2.1.X), .d (.int .i64 v1135.2.1.Y), .d (.int .i64 v1135.2.1.Z)], [.d (.int .i64 0), .d (.int .i64 0)], [.d (.int .i64 v1135.2.2.1.Motion), .d (.int .i64 v1135.2.2.1.Distance), .d (.int .i64 v1135.2.2.1.Work), .d (.int .i64 v1135.2.2.1.Length), .d (.int .i64 v1135.2.2.1.Return), .d (.int .i64 v1135.2.2.1.Feed), .d (.int .i64 v1135.2.2.1.Tool), .d (.int .i64 v1135.2.2.1.Offset)], [.d (.int .i64 v1135.2.2.2.Code), .d (.int .i64 v1135.2.2.2.R), .d (.int .i64 v1135.2.2.2.Z), .d (.int .i64 v1135.2.2.2.Q), .d (.int .i64 v1135.2.2.2.Rate), .d (.int .i64 v1135.2.2.2.Initial), .d (.bool v1135.2.2.2.High)], [.d (.bool e1136.Skip), .d (.list (List.map encApiWord e1136.Words)), .d (.str e1136.Comment)], [.rowc 62 0 (List.map encApiMotion y1177.1)], [.d (.int .i64 y1177.2.1.Motion), .d (.int .i64 y1177.2.1.Distance), .d (.int .i64 y1177.2.1.Work), .d (.int .i64 y1177.2.1.Length), .d (.int .i64 y1177.2.1.Return), .d (.int .i64 y1177.2.1.Feed), .d (.int .i64 y1177.2.1.Tool), .d (.int .i64 y1177.2.1.Offset)], [.d (.int .i64 y1177.2.2.1.Code), .d (.int .i64 y1177.2.2.1.R), .d (.int .i64 y1177.2.2.1.Z), .d (.int .i64 y1177.2.2.1.Q), .d (.int .i64 y1177.2.2.1.Rate), .d (.int .i64 y1177.2.2.1.Initial), .d (.bool y1177.2.2.1.High)]], [(62, v1135.1.length)]⟩) (fun _ => rfl) ?_ ?_
          · refine Mir.ite (fun hb1226 => ?_) (fun hb1226 => ?_)
            · refine Mir.regionW fun e h => ?_
              refine regW.alt 6 rfl ?_
              simp only [↓reduceIte, reduceCtorEq, nA, nS, nM, nE, nL, nT, nB, iT, iN, iE, and_self, SR, SV, w_none, w_eq, and_true, true_and, tkS, tk0, tkN, dpS, dp0, und_47, encApiBlock, encApiMotion, encTableLength, rmap_set, spD, hb1226]
              refine alt_lenR rfl rfl und_47 ?_
              refine regW.of ?_
              simp only [↓reduceIte, reduceCtorEq, nA, nS, nM, nE, nL, nT, nB, iT, iN, iE, and_self, SR, SV, w_none, w_eq, and_true, true_and, tkS, tk0, tkN, dpS, dp0, und_47, encApiBlock, encApiMotion, encTableLength, rmap_set, spD, hb1226]
              cases h
              simp only [↓reduceIte, reduceCtorEq, nA, nE, nL, and_self, and_true, true_and, SL, encApiBlock, encApiMotion, encTableLength, rmap_set, spD, hb1226]
            · refine Mir.region fun e h => ?_
              simp only [↓reduceIte, reduceCtorEq, nA, nS, nM, nE, nL, nT, nB, iT, iN, iE, and_self, SR, SV, encApiBlock, encApiMotion, encTableLength, rmap_set, spD, hb1226]
              cases h
              simp only [↓reduceIte, reduceCtorEq, nA, nE, nL, and_self, and_true, true_and, SL, encApiBlock, encApiMotion, encTableLength, rmap_set, spD, hb1226]
          · intro v1178
            refine Mir.toK ?_
            refine Mir.joinO (fun v1179 : Int => [.d (.list (List.map encApiBlock a0)), U, U, U, .ptr 0 0, .ptr 1 0, U, .ptr 2 0, U, .ptr 3 0, .ptr 4 0, .own 0 (List.map encApiMotion v1135.1), .d (.int .i64 (i1134 : Int)), .ptr 5 0, .gr 6 0, .ptr 7 0, .ptr 8 0, .d (.int .i64 v1179), U, U, U, U, U, U, U, U, U, U, .d (.list (List.map encApiBlock a0)), .d (.int .i64 (a0.length : Int)), .d (.int .i64 (i1134 : Int)), U, U, U, U, U, U, U, U, U, U, U, U, U, U, U, U, U, U, U, U, U, U, U, U, U, U, U, U, U, U, U, U, U, U, U, U, U, U, U, U, U, U, U, U, U, U, U, U, U, U, U, U, U, U, U, U, U, U, U, U]) (fun v1179 : Int => ⟨[[.d (.int .i64 a1.Work.e0.X), .d (.int .i64 a1.Work.e0.Y), .d (.int .i64 a1.Work.e0.Z), .d (.int .i64 a1.Work.e1.X), .d (.int .i64 a1.Work.e1.Y), .d (.int .i64 a1.Work.e1.Z), .d (.int .i64 a1.Work.e2.X), .d (.int .i64 a1.Work.e2.Y), .d (.int .i64 a1.Work.e2.Z), .d (.int .i64 a1.Work.e3.X), .d (.int .i64 a1.Work.e3.Y), .d (.int .i64 a1.Work.e3.Z), .d (.int .i64 a1.Work.e4.X), .d (.int .i64 a1.Work.e4.Y), .d (.int .i64 a1.Work.e4.Z), .d (.int .i64 a1.Work.e5.X), .d (.int .i64 a1.Work.e5.Y), .d (.int .i64 a1.Work.e5.Z), .d (.list (List.map encTableLength a1.Lengths))], [.d (.int .i64 v1135.2.1.X), .d (.int .i64 v1135.2.1.Y), .d (.int .i64 v1135.2.1.Z)], [.d (.int .i64 0), .d (.int .i64 0)], [.d (.int .i64 v1135.2.2.1.Motion), .d (.int .i64 v1135.2.2.1.Distance), .d (.int .i64 v1135.2.2.1.Work), .d (.int .i64 v1135.2.2.1.Length), .d (.int .i64 v1135.2.2.1.Return), .d (.int .i64 v1135.2.2.1.Feed), .d (.int .i64 v1135.2.2.1.Tool), .d (.int .i64 v1135.2.2.1.Offset)], [.d (.int .i64 v1135.2.2.2.Code), .d (.int .i64 v1135.2.2.2.R), .d (.int .i64 v1135.2.2.2.Z), .d (.int .i64 v1135.2.2.2.Q), .d (.int .i64 v1135.2.2.2.Rate), .d (.int .i64 v1135.2.2.2.Initial), .d (.bool v1135.2.2.2.High)], [.d (.bool e1136.Skip), .d (.list (List.map encApiWord e1136.Words)), .d (.str e1136.Comment)], [.rowc 62 0 (List.map encApiMotion y1177.1)], [.d (.int .i64 y1177.2.1.Motion), .d (.int .i64 y1177.2.1.Distance), .d (.int .i64 y1177.2.1.Work), .d (.int .i64 y1177.2.1.Length), .d (.int .i64 y1177.2.1.Return), .d (.int .i64 y1177.2.1.Feed), .d (.int .i64 y1177.2.1.Tool), .d (.int .i64 y1177.2.1.Offset)], [.d (.int .i64 y1177.2.2.1.Code), .d (.int .i64 y1177.2.2.1.R), .d (.int .i64 y1177.2.2.1.Z), .d (.int .i64 y1177.2.2.1.Q), .d (.int .i64 y1177.2.2.1.Rate), .d (.int .i64 y1177.2.2.1.Initial), .d (.bool y1177.2.2.1.High)]], [(62, v1135.1.length)]⟩) (fun _ => rfl) ?_ ?_
            · refine Mir.cond rfl (fun hb1228 => ?_) (fun hb1228 => ?_)
              · refine Mir.region fun e h => ?_
                simp only [↓reduceIte, reduceCtorEq, nA, nS, nM, nE, nL, nT, nB, iT, iN, iE, and_self, SR, SV, encApiBlock, encApiMotion, encTableLength, rmap_set, spD]
                cases h
                simp only [↓reduceIte, reduceCtorEq, nA, nE, nL, and_self, and_true, true_and, SL, encApiBlock, encApiMotion, encTableLength, rmap_set, spD, Tryd.results15, ag_49, sz_49]
              · refine Mir.skip fun e h => ?_
                cases h
                simp only [↓reduceIte, reduceCtorEq, nA, nE, nL, and_self, and_true, true_and, SL, encApiBlock, encApiMotion, encTableLength, rmap_set, spD, Tryd.results15, ag_49, sz_49]
            · intro v1179
              refine Mir.toK ?_
              refine Mir.seqK ?_
              refine Mir.seqK ?_
              refine Mir.region fun e h => ?_
              simp only [↓reduceIte, reduceCtorEq, nA, nS, nM, nE, nL, nT, nB, iT, iN, iE, and_self, SR, SV, encApiBlock, encApiMotion, encTableLength, rmap_set, spD]
              refine Mir.use (e := e) ?_ h
              refine Mir.cond rfl (fun hb1230 => ?_) (fun hb1230 => ?_)
              · refine Mir.seqK ?_
                refine Mir.region fun e h => ?_
                simp only [↓reduceIte, reduceCtorEq, nA, nS, nM, nE, nL, nT, nB, iT, iN, iE, and_self, SR, SV, zero_49, pl_49, sz_49, encApiBlock, encApiMotion, encTableLength, rmap_set, spD]
                refine Mir.use (e := e) ?_ h
                refine Mir.ret fun e h => ?_
                cases h
                simp only [↓reduceIte, reduceCtorEq, nA, nE, nL, and_self, and_true, true_and, SL, encApiBlock, encApiMotion, encTableLength, rmap_set, spD, Tryd.results15, ag_49, sz_49]
              · refine Mir.skip ?_
                refine Mir.toK ?_
                refine Mir.seqK ?_
                refine Mir.seqK ?_
                refine Mir.regionW fun e h => ?_
                refine regW.alt 1 rfl ?_
                simp only [↓reduceIte, reduceCtorEq, nA, nS, nM, nE, nL, nT, nB, iT, iN, iE, and_self, SR, SV, w_none, w_eq, and_true, true_and, tkS, tk0, tkN, dpS, dp0, encApiBlock, encApiMotion, encTableLength, rmap_set, spD]
                refine alt_lenR rfl rfl und_47 ?_
                refine regW.of ?_
                simp only [↓reduceIte, reduceCtorEq, nA, nS, nM, nE, nL, nT, nB, iT, iN, iE, and_self, SR, SV, w_none, w_eq, and_true, true_and, tkS, tk0, tkN, dpS, dp0, und_47, encApiBlock, encApiMotion, encTableLength, rmap_set, spD]
                refine Mir.use (e := e) ?_ h
                refine Mir.joinO (fun v1196 : (List ApiMotion) => [.d (.list (List.map encApiBlock a0)), U, U, U, .ptr 0 0, .ptr 1 0, U, .ptr 2 0, U, .ptr 3 0, .ptr 4 0, .own 0 (List.map encApiMotion v1135.1), U, .ptr 5 0, .gr 6 0, .ptr 7 0, .ptr 8 0, U, U, U, U, U, U, U, U, U, U, U, .d (.list (List.map encApiBlock a0)), .d (.int .i64 (a0.length : Int)), .d (.int .i64 (i1134 : Int)), U, U, U, U, U, U, U, U, U, U, U, U, U, U, U, U, U, U, U, U, U, U, U, U, U, U, U, U, U, U, U, U, U, U, U, U, U, U, U, U, U, U, U, U, U, U, U, U, U, U, U, U, U, U, U, U, U, U, U, U]) (fun v1196 : (List ApiMotion) => ⟨[[.d (.int .i64 a1.Work.e0.X), .d (.int .i64 a1.Work.e0.Y), .d (.int .i64 a1.Work.e0.Z), .d (.int .i64 a1.Work.e1.X), .d (.int .i64 a1.Work.e1.Y), .d (.int .i64 a1.Work.e1.Z), .d (.int .i64 a1.Work.e2.X), .d (.int .i64 a1.Work.e2.Y), .d (.int .i64 a1.Work.e2.Z), .d (.int .i64 a1.Work.e3.X), .d (.int .i64 a1.Work.e3.Y), .d (.int .i64 a1.Work.e3.Z), .d (.int .i64 a1.Work.e4.X), .d (.int .i64 a1.Work.e4.Y), .d (.int .i64 a1.Work.e4.Z), .d (.int .i64 a1.Work.e5.X), .d (.int .i64 a1.Work.e5.Y), .d (.int .i64 a1.Work.e5.Z), .d (.list (List.map encTableLength a1.Lengths))], [.d (.int .i64 v1135.2.1.X), .d (.int .i64 v1135.2.1.Y), .d (.int .i64 v1135.2.1.Z)], [.d (.int .i64 0), .d (.int .i64 0)], [.d (.int .i64 v1135.2.2.1.Motion), .d (.int .i64 v1135.2.2.1.Distance), .d (.int .i64 v1135.2.2.1.Work), .d (.int .i64 v1135.2.2.1.Length), .d (.int .i64 v1135.2.2.1.Return), .d (.int .i64 v1135.2.2.1.Feed), .d (.int .i64 v1135.2.2.1.Tool), .d (.int .i64 v1135.2.2.1.Offset)], [.d (.int .i64 v1135.2.2.2.Code), .d (.int .i64 v1135.2.2.2.R), .d (.int .i64 v1135.2.2.2.Z), .d (.int .i64 v1135.2.2.2.Q), .d (.int .i64 v1135.2.2.2.Rate), .d (.int .i64 v1135.2.2.2.Initial), .d (.bool v1135.2.2.2.High)], [.d (.bool e1136.Skip), .d (.list (List.map encApiWord e1136.Words)), .d (.str e1136.Comment)], [.rowc 62 0 (List.map encApiMotion v1196)], [.d (.int .i64 y1177.2.1.Motion), .d (.int .i64 y1177.2.1.Distance), .d (.int .i64 y1177.2.1.Work), .d (.int .i64 y1177.2.1.Length), .d (.int .i64 y1177.2.1.Return), .d (.int .i64 y1177.2.1.Feed), .d (.int .i64 y1177.2.1.Tool), .d (.int .i64 y1177.2.1.Offset)], [.d (.int .i64 y1177.2.2.1.Code), .d (.int .i64 y1177.2.2.1.R), .d (.int .i64 y1177.2.2.1.Z), .d (.int .i64 y1177.2.2.1.Q), .d (.int .i64 y1177.2.2.1.Rate), .d (.int .i64 y1177.2.2.1.Initial), .d (.bool y1177.2.2.1.High)]], [(62, v1135.1.length)]⟩) (fun _ => rfl) ?_ ?_
                · refine Mir.block ?_
                  refine Mir.guard fun qg1262 => ?_
                  refine Mir.range (fun (i1208 : Nat) (v1209 : (List ApiMotion)) => [.d (.list (List.map encApiBlock a0)), U, U, U, .ptr 0 0, .ptr 1 0, U, .ptr 2 0, U, .ptr 3 0, .ptr 4 0, .own 0 (List.map encApiMotion v1135.1), .d (.int .i64 (i1134 : Int)), .ptr 5 0, .gr 6 0, .ptr 7 0, .ptr 8 0, U, U, U, U, U, U, U, U, U, U, U, .d (.list (List.map encApiBlock a0)), .d (.int .i64 (a0.length : Int)), .d (.int .i64 (i1134 : Int)), U, U, U, U, U, U, U, U, U, U, U, U, U, U, U, U, U, U, U, U, U, U, U, U, U, U, U, U, U, U, U, U, .d (.int .i64 (y1177.1.length : Int)), .d (.int .i64 (i1208 : Int)), U, U, U, U, U, U, U, U, U, U, U, U, U, U, U, U, U, U, U, U, U, U, U, U, U, U]) (fun (i1208 : Nat) (v1209 : (List ApiMotion)) => ⟨[[.d (.int .i64 a1.Work.e0.X), .d (.int .i64 a1.Work.e0.Y), .d (.int .i64 a1.Work.e0.Z), .d (.int .i64 a1.Work.e1.X), .d (.int .i64 a1.Work.e1.Y), .d (.int .i64 a1.Work.e1.Z), .d (.int .i64 a1.Work.e2.X), .d (.int .i64 a1.Work.e2.Y), .d (.int .i64 a1.Work.e2.Z), .d (.int .i64 a1.Work.e3.X), .d (.int .i64 a1.Work.e3.Y), .d (.int .i64 a1.Work.e3.Z), .d (.int .i64 a1.Work.e4.X), .d (.int .i64 a1.Work.e4.Y), .d (.int .i64 a1.Work.e4.Z), .d (.int .i64 a1.Work.e5.X), .d (.int .i64 a1.Work.e5.Y), .d (.int .i64 a1.Work.e5.Z), .d (.list (List.map encTableLength a1.Lengths))], [.d (.int .i64 v1135.2.1.X), .d (.int .i64 v1135.2.1.Y), .d (.int .i64 v1135.2.1.Z)], [.d (.int .i64 0), .d (.int .i64 0)], [.d (.int .i64 v1135.2.2.1.Motion), .d (.int .i64 v1135.2.2.1.Distance), .d (.int .i64 v1135.2.2.1.Work), .d (.int .i64 v1135.2.2.1.Length), .d (.int .i64 v1135.2.2.1.Return), .d (.int .i64 v1135.2.2.1.Feed), .d (.int .i64 v1135.2.2.1.Tool), .d (.int .i64 v1135.2.2.1.Offset)], [.d (.int .i64 v1135.2.2.2.Code), .d (.int .i64 v1135.2.2.2.R), .d (.int .i64 v1135.2.2.2.Z), .d (.int .i64 v1135.2.2.2.Q), .d (.int .i64 v1135.2.2.2.Rate), .d (.int .i64 v1135.2.2.2.Initial), .d (.bool v1135.2.2.2.High)], [.d (.bool e1136.Skip), .d (.list (List.map encApiWord e1136.Words)), .d (.str e1136.Comment)], [.rowc 62 0 (List.map encApiMotion v1209)], [.d (.int .i64 y1177.2.1.Motion), .d (.int .i64 y1177.2.1.Distance), .d (.int .i64 y1177.2.1.Work), .d (.int .i64 y1177.2.1.Length), .d (.int .i64 y1177.2.1.Return), .d (.int .i64 y1177.2.1.Feed), .d (.int .i64 y1177.2.1.Tool), .d (.int .i64 y1177.2.1.Offset)], [.d (.int .i64 y1177.2.2.1.Code), .d (.int .i64 y1177.2.2.1.R), .d (.int .i64 y1177.2.2.1.Z), .d (.int .i64 y1177.2.2.1.Q), .d (.int .i64 y1177.2.2.1.Rate), .d (.int .i64 y1177.2.2.1.Initial), .d (.bool y1177.2.2.1.High)]], [(62, v1135.1.length)]⟩) qg1262 (fun _ _ => rfl) (by simp only [↓reduceIte, reduceCtorEq, nA, nE, nL, and_self, and_true, true_and, SL, encApiBlock, encApiMotion, encTableLength, rmap_set, spD, (nr rfl : ((0 : Nat) : Int) = 0)]) (by simp only [↓reduceIte, reduceCtorEq, nA, nE, nL, and_self, and_true, true_and, SL, encApiBlock, encApiMotion, encTableLength, rmap_set, spD, (nr rfl : ((0 : Nat) : Int) = 0)]) ?_ ?_
                  · intro i1208 e1210 v1209 qr1260
                    refine Mir.seqK ?_
                    refine Mir.region fun e h => ?_
                    simp only [↓reduceIte, reduceCtorEq, nA, nS, nM, nE, nL, nT, nB, iT, iN, iE, and_self, SR, SV, qr1260, encApiBlock, encApiMotion, encTableLength, rmap_set, spD]
                    refine Mir.use (e := e) ?_ h
                    refine Mir.seqK ?_
                    refine Mir.condT rfl ?_
                    refine Mir.skip ?_
                    refine Mir.toK ?_
                    refine Mir.seqK ?_
                    refine Mir.block ?_
                    refine Mir.seqK ?_
                    refine Mir.region fun e h => ?_
                    simp only [↓reduceIte, reduceCtorEq, nA, nS, nM, nE, nL, nT, nB, iT, iN, iE, and_self, SR, SV, encApiBlock, encApiMotion, encTableLength, rmap_set, spD]
                    refine Mir.use (e := e) ?_ h
                    refine Mir.bind fun e1212 q1264 => ?_
                    replace q1264 := gt_ok q1264
                    refine Mir.regionW fun e h => ?_
                    refine regW.alt 3 rfl ?_
                    simp only [↓reduceIte, reduceCtorEq, nA, nS, nM, nE, nL, nT, nB, iT, iN, iE, and_self, SR, SV, w_none, w_eq, and_true, true_and, tkS, tk0, tkN, dpS, dp0, encApiBlock, encApiMotion, encTableLength, rmap_set, spD]
                    refine alt_indexR rfl rfl rfl und_47 sz_62 (row_lo q1264.1) (row_hi q1264.2 q1264.1) ?_
                    refine regW.alt 0 rfl ?_
                    simp only [↓reduceIte, reduceCtorEq, nA, nS, nM, nE, nL, nT, nB, iT, iN, iE, and_self, SR, SV, w_none, w_eq, and_true, true_and, tkS, tk0, tkN, dpS, dp0, und_47, sz_62, encApiBlock, encApiMotion, encTableLength, rmap_set, spD]
                    refine alt_fieldR rfl rfl fld_62_4 sz_3 (by decide) ?_
                    refine regW.alt 0 rfl ?_
                    simp only [↓reduceIte, reduceCtorEq, nA, nS, nM, nE, nL, nT, nB, iT, iN, iE, and_self, SR, SV, w_none, w_eq, and_true, true_and, tkS, tk0, tkN, dpS, dp0, fld_62_4, sz_3, encApiBlock, encApiMotion, encTableLength, rmap_set, spD]
                    refine alt_storeR rfl rfl (row_at q1264.2) rfl rfl sz_3 rfl (Nat.le_of_ble_eq_true rfl) ?_
                    refine regW.of ?_
                    simp only [↓reduceIte, reduceCtorEq, nA, nS, nM, nE, nL, nT, nB, iT, iN, iE, and_self, SR, SV, w_none, w_eq, and_true, true_and, tkS, tk0, tkN, dpS, dp0, sz_3, encApiBlock, encApiMotion, encTableLength, rmap_set, spD]
                    refine Mir.use (e := e) ?_ h
                    refine Mir.region fun e h => ?_
                    simp only [↓reduceIte, reduceCtorEq, nA, nS, nM, nE, nL, nT, nB, iT, iN, iE, and_self, SR, SV, encApiBlock, encApiMotion, encTableLength, rmap_set, spD]
                    cases h
                    simp only [↓reduceIte, reduceCtorEq, nA, nE, nL, and_self, and_true, true_and, SL, encApiBlock, encApiMotion, encTableLength, rmap_set, spD, Tryd.results15, ag_49, sz_49, qr1260]
                  · intro v1209 qd1261
                    refine Mir.seqK ?_
                    refine Mir.region fun e h => ?_
                    simp only [↓reduceIte, reduceCtorEq, nA, nS, nM, nE, nL, nT, nB, iT, iN, iE, and_self, SR, SV, qd1261, encApiBlock, encApiMotion, encTableLength, rmap_set, spD]
                    refine Mir.use (e := e) ?_ h
                    refine Mir.seqK ?_
                    refine Mir.condF rfl ?_
                    refine Mir.exit fun e h => ?_
                    cases h
                    simp only [↓reduceIte, reduceCtorEq, nA, nE, nL, and_self, and_true, true_and, SL, encApiBlock, encApiMotion, encTableLength, rmap_set, spD, Tryd.results15, ag_49, sz_49]
                · intro v1196
                  refine Mir.toK ?_
                  refine Mir.seqK ?_
                  refine Mir.guard fun q1265 => ?_
                  refine Mir.regionW fun e h => ?_
                  refine regW.alt 2 rfl ?_
                  simp only [↓reduceIte, reduceCtorEq, nA, nS, nM, nE, nL, nT, nB, iT, iN, iE, and_self, SR, SV, w_none, w_eq, and_true, true_and, tkS, tk0, tkN, dpS, dp0, encApiBlock, encApiMotion, encTableLength, rmap_set, spD]
                  refine alt_appOwnR rfl rfl rfl app_47 (by kernel_rfl) (by simp only [ge0, geS, lm, xMA, xLA]) al_ApiMotion (ok2 q1265 (by simp only [lm]) (by simp only [lm])) ?_
                  refine regW.of ?_
                  simp only [↓reduceIte, reduceCtorEq, nA, nS, nM, nE, nL, nT, nB, iT, iN, iE, and_self, SR, SV, w_none, w_eq, and_true, true_and, tkS, tk0, tkN, dpS, dp0, lm, encApiBlock, encApiMotion, encTableLength, rmap_set, spD]
                  refine Mir.use (e := e) ?_ h
                  refine Mir.seqK ?_
                  refine Mir.frz 6 rfl ?_
                  simp only [↓reduceIte, reduceCtorEq, nA, nE, and_self, and_true, true_and, and_false, false_and, SZ]
                  refine Mir.bind fun y1213 hy1266 => ?_
                  refine Mir.regionD [(16, 9)] (by kernel_rfl) fun e h => ?_
                  simp only [↓reduceIte, reduceCtorEq, nA, nS, nM, nE, nL, nT, nB, iT, iN, iE, and_self, SR, SV, sepL_nil, sepL_cons, sepV_ne, sepV_d, sepV_i, true_and, Bool.and_self, ag_65, sz_65, ag_68, sz_68, ag_24, sz_24, encApiBlock, encApiMotion, encTableLength, rmap_set, spD]
                  refine Spec.by (inp_End_spec hy1266) (by simp only [↓reduceIte, reduceCtorEq, nA, nE, nL, and_self, and_true, true_and, SL, encApiBlock, encApiMotion, encTableLength, rmap_set, spD]) ?_
                  simp only [↓reduceIte, reduceCtorEq, nA, nS, nM, nE, nL, nT, nB, iT, iN, iE, and_self, SR, SV, sepL_nil, sepL_cons, sepV_ne, sepV_d, sepV_i, true_and, Bool.and_self, sz_65, sz_68, sz_24, encApiBlock, encApiMotion, encTableLength, rmap_set, spD]
                  refine Mir.use (e := e) ?_ h
                  refine Mir.seqK ?_
                  refine Mir.bind fun y1214 hy1267 => ?_
                  refine Mir.bind fun y1215 hy1268 => ?_
                  refine Mir.region fun e h => ?_
                  simp only [↓reduceIte, reduceCtorEq, nA, nS, nM, nE, nL, nT, nB, iT, iN, iE, and_self, SR, SV, ag_42, sz_42, encApiBlock, encApiMotion, encTableLength, rmap_set, spD]
                  refine SpecS.by (bk_Codes_spec hy1267) (by simp only [↓reduceIte, reduceCtorEq, nA, nE, nL, and_self, and_true, true_and, SL, encApiBlock, encApiMotion, encTableLength, rmap_set, spD]) ?_
                  simp only [↓reduceIte, reduceCtorEq, nA, nS, nM, nE, nL, nT, nB, iT, iN, iE, and_self, SR, SV, encApiBlock, encApiMotion, encTableLength, rmap_set, spD]
                  refine SpecS.by (slices_Contains_int64_int64_spec hy1268) (by simp only [↓reduceIte, reduceCtorEq, nA, nE, nL, and_self, and_true, true_and, SL, encApiBlock, encApiMotion, encTableLength, rmap_set, spD]) ?_
                  simp only [↓reduceIte, reduceCtorEq, nA, nS, nM, nE, nL, nT, nB, iT, iN, iE, and_self, SR, SV, encApiBlock, encApiMotion, encTableLength, rmap_set, spD]
                  refine Mir.use (e := e) ?_ h
                  refine Mir.cond rfl (fun hb1269 => ?_) (fun hb1269 => ?_)
                  · refine Mir.seqK ?_
                    refine Mir.region fun e h => ?_
                    simp only [↓reduceIte, reduceCtorEq, nA, nS, nM, nE, nL, nT, nB, iT, iN, iE, and_self, SR, SV, zero_49, pl_49, sz_49, encApiBlock, encApiMotion, encTableLength, rmap_set, spD]
                    refine Mir.use (e := e) ?_ h
                    refine Mir.ret fun e h => ?_
                    cases h
                    simp only [↓reduceIte, reduceCtorEq, nA, nE, nL, and_self, and_true, true_and, SL, encApiBlock, encApiMotion, encTableLength, rmap_set, spD, Tryd.results15, ag_49, sz_49]
                  · refine Mir.skip fun e h => ?_
                    cases h
                    simp only [↓reduceIte, reduceCtorEq, nA, nE, nL, and_self, and_true, true_and, SL, encApiBlock, encApiMotion, encTableLength, rmap_set, spD, Tryd.results15, ag_49, sz_49]
        · intro v1176
          refine Mir.toK ?_
          refine Mir.region fun e h => ?_
          simp only [↓reduceIte, reduceCtorEq, nA, nS, nM, nE, nL, nT, nB, iT, iN, iE, and_self, SR, SV, encApiBlock, encApiMotion, encTableLength, rmap_set, spD]
          cases h
          simp only [↓reduceIte, reduceCtorEq, nA, nE, nL, and_self, and_true, true_and, SL, encApiBlock, encApiMotion, encTableLength, rmap_set, spD, Tryd.results15, ag_49, sz_49, qr1177]
      · intro v1135 qd1178
        refine Mir.seqK ?_
        refine Mir.region fun e h => ?_
        simp only [↓reduceIte, reduceCtorEq, nA, nS, nM, nE, nL, nT, nB, iT, iN, iE, and_self, SR, SV, qd1178, encApiBlock, encApiMotion, encTableLength, rmap_set, spD]
        refine Mir.use (e := e) ?_ h
        refine Mir.seqK ?_
        refine Mir.condF rfl ?_
        refine Mir.exit fun e h => ?_
        cases h
        simp only [↓reduceIte, reduceCtorEq, nA, nE, nL, and_self, and_true, true_and, SL, encApiBlock, encApiMotion, encTableLength, rmap_set, spD, Tryd.results15, ag_49, sz_49]
    · intro v885
      refine Mir.toK ?_
      refine Mir.seqK ?_
      refine Mir.region fun e h => ?_
      simp only [↓reduceIte, reduceCtorEq, nA, nS, nM, nE, nL, nT, nB, iT, iN, iE, and_self, SR, SV, und_43, zero_49, pl_49, sz_49, encApiBlock, encApiMotion, encTableLength, rmap_set, spD]
      refine Mir.use (e := e) ?_ h
      refine Mir.ret fun e h => ?_
      cases h
      simp only [↓reduceIte, reduceCtorEq, nA, nE, nL, and_self, and_true, true_and, SL, encApiBlock, encApiMotion, encTableLength, rmap_set, spD, Tryd.results15, ag_49, sz_49]

def l47_awake  : Option Bool :=
  bindO (l47_program true) fun (y101 : (List ApiBlock)) =>
  bindO (r47_Table ) fun (y102 : R45Table) =>
  bindO (l47_theirs y102) fun (y103 : TableTable) =>
  bindO (inp_Blocks y101 y103 (ApiPos.mk 0 0 0)) fun (y104 : (List ApiMotion) × InterpreterAlarm) =>
  bindO (l47_program false) fun (y105 : (List ApiBlock)) =>
  bindO (r47_Table ) fun (y106 : R45Table) =>
  bindO (l47_theirs y106) fun (y107 : TableTable) =>
  bindO (inp_Blocks y105 y107 (ApiPos.mk 0 0 0)) fun (y108 : (List ApiMotion) × InterpreterAlarm) =>
  bindO (if ((y104.1.length : Int) == 2) = true then
        bindO (gt y104.1 0) fun (e109 : ApiMotion) =>
        if ((e109.From.X == 0) && ((e109.From.Y == 0) && ((e109.From.Z == 0) && ((e109.To.X == 1000) && ((e109.To.Y == 2000) && ((e109.To.Z == 74500) && ((e109.Rate == 0) && ((e109.Tool == 3) && (e109.Block == 1))))))))) = true then
          bindO (gt y104.1 1) fun (e110 : ApiMotion) =>
          if ((e110.From.X == 1000) && ((e110.From.Y == 2000) && ((e110.From.Z == 74500) && ((e110.To.X == 2000) && ((e110.To.Y == 2000) && ((e110.To.Z == 74500) && ((e110.Rate == 10000) && ((e110.Tool == 3) && (e110.Block == 2))))))))) = true then
            if ((y104.2.Block == (-1)) && (y104.2.Code == 0)) = true then
              some ((y108.2.Block == 2) && (y108.2.Code == 13))
            else
              some false
          else
            some false
        else
          some false
      else
        some false) fun (v111 : Bool) =>
  some v111
theorem l47_awake_spec  {y : Bool} (h : l47_awake = some y) : Spec gP 9 [] (.d (.bool y)) := by
  refine spec_mir Tryd.func9 rfl (by kernel_rfl) (by kernel_rfl) (fun y : Bool => .d (.bool y)) ?_ h
  unfold l47_awake
  simp only [List.replicate, List.length, nS, nA, Tryd.ntmps9, SV]
  refine Mir.seqK ?_
  refine Mir.region fun e h => ?_
  simp only [↓reduceIte, reduceCtorEq, nA, nS, nM, nE, nL, nT, nB, iT, iN, iE, and_self, SR, SV, encApiMotion]
  refine Mir.use (e := e) ?_ h
  refine Mir.seqK ?_
  refine Mir.bind fun y101 hy1 => ?_
  refine Mir.bind fun y102 hy2 => ?_
  refine Mir.bind fun y103 hy3 => ?_
  refine Mir.bind fun y104 hy4 => ?_
  refine Mir.region fun e h => ?_
  simp only [↓reduceIte, reduceCtorEq, nA, nS, nM, nE, nL, nT, nB, iT, iN, iE, and_self, SR, SV, encApiMotion]
  refine SpecS.by (l47_program_spec hy1) (by simp only [↓reduceIte, reduceCtorEq, nA, nE, nL, and_self, and_true, true_and, SL, encApiMotion]) ?_
  simp only [↓reduceIte, reduceCtorEq, nA, nS, nM, nE, nL, nT, nB, iT, iN, iE, and_self, SR, SV, encApiMotion]
  refine SpecS.by (r47_Table_spec hy2) (rfl) ?_
  simp only [↓reduceIte, reduceCtorEq, nA, nS, nM, nE, nL, nT, nB, iT, iN, iE, and_self, SR, SV, encApiMotion]
  refine SpecS.by (l47_theirs_spec hy3) (by simp only [↓reduceIte, reduceCtorEq, nA, nE, nL, and_self, and_true, true_and, SL, encApiMotion]) ?_
  simp only [↓reduceIte, reduceCtorEq, nA, nS, nM, nE, nL, nT, nB, iT, iN, iE, and_self, SR, SV, zero_24, pl_24, encApiMotion]
  refine SpecS.by (inp_Blocks_spec hy4) (by simp only [↓reduceIte, reduceCtorEq, nA, nE, nL, and_self, and_true, true_and, SL, encApiMotion]) ?_
  simp only [↓reduceIte, reduceCtorEq, nA, nS, nM, nE, nL, nT, nB, iT, iN, iE, and_self, SR, SV, zero_49, sz_49, encApiMotion]
  refine Mir.use (e := e) ?_ h
  refine Mir.seqK ?_
  refine Mir.bind fun y105 hy5 => ?_
  refine Mir.bind fun y106 hy6 => ?_
  refine Mir.bind fun y107 hy7 => ?_
  refine Mir.bind fun y108 hy8 => ?_
  refine Mir.region fun e h => ?_
  simp only [↓reduceIte, reduceCtorEq, nA, nS, nM, nE, nL, nT, nB, iT, iN, iE, and_self, SR, SV, encApiMotion]
  refine SpecS.by (l47_program_spec hy5) (by simp only [↓reduceIte, reduceCtorEq, nA, nE, nL, and_self, and_true, true_and, SL, encApiMotion]) ?_
  simp only [↓reduceIte, reduceCtorEq, nA, nS, nM, nE, nL, nT, nB, iT, iN, iE, and_self, SR, SV, encApiMotion]
  refine SpecS.by (r47_Table_spec hy6) (rfl) ?_
  simp only [↓reduceIte, reduceCtorEq, nA, nS, nM, nE, nL, nT, nB, iT, iN, iE, and_self, SR, SV, encApiMotion]
  refine SpecS.by (l47_theirs_spec hy7) (by simp only [↓reduceIte, reduceCtorEq, nA, nE, nL, and_self, and_true, true_and, SL, encApiMotion]) ?_
  simp only [↓reduceIte, reduceCtorEq, nA, nS, nM, nE, nL, nT, nB, iT, iN, iE, and_self, SR, SV, zero_24, pl_24, encApiMotion]
  refine SpecS.by (inp_Blocks_spec hy8) (by simp only [↓reduceIte, reduceCtorEq, nA, nE, nL, and_self, and_true, true_and, SL, encApiMotion]) ?_
  simp only [↓reduceIte, reduceCtorEq, nA, nS, nM, nE, nL, nT, nB, iT, iN, iE, and_self, SR, SV, zero_49, sz_49, encApiMotion]
  refine Mir.use (e := e) ?_ h
  refine Mir.seqK ?_
  refine Mir.region fun e h => ?_
  simp only [↓reduceIte, reduceCtorEq, nA, nS, nM, nE, nL, nT, nB, iT, iN, iE, and_self, SR, SV, zero_24, pl_24, sz_24, encApiMotion]
  refine Mir.use (e := e) ?_ h
  refine Mir.seqK ?_
  refine Mir.joinO (fun v111 : Bool => [.d (.bool v111), U, U, U, U, U, U, U, U, U, U, U, U, U, U, U, U, U, U, U, U, U, U, U, U, U, U, U, U, U, U, U, U, U, U, U, U, U, U, U, U, U, U, U, U, U, U, U, U, U, U, U, U]) (fun v111 : Bool => ⟨[[.d (.int .i64 y104.2.Block), .d (.int .i64 y104.2.Code)], [.d (.int .i64 y108.2.Block), .d (.int .i64 y108.2.Code)], [.d (.int .i64 1000), .d (.int .i64 2000), .d (.int .i64 74500)]], []⟩) (fun _ => rfl) ?_ ?_
  · refine Mir.ite (fun hb9 => ?_) (fun hb9 => ?_)
    · refine Mir.bind fun e109 q10 => ?_
      replace q10 := gt_ok q10
      simp only [Int.reduceToNat, Int.reduceLT, Nat.sub_zero, dp0] at q10
      refine Mir.ite (fun hb11 => ?_) (fun hb11 => ?_)
      · refine Mir.bind fun e110 q12 => ?_
        replace q12 := gt_ok q12
        simp only [Int.reduceToNat, Int.reduceLT, Nat.sub_zero, dp0] at q12
        refine Mir.ite (fun hb13 => ?_) (fun hb13 => ?_)
        · refine Mir.ite (fun hb14 => ?_) (fun hb14 => ?_)
          · refine Mir.regionD [] (by kernel_rfl) fun e h => ?_
            simp only [↓reduceIte, reduceCtorEq, nA, nS, nM, nE, nL, nT, nB, iT, iN, iE, and_self, SR, SV, sepL_nil, sepL_cons, sepV_ne, sepV_d, sepV_i, true_and, Bool.and_self, und_47, sz_62, q10, ag_62, ag_24, sz_24, zero_62, pl_62, gE_62, q12, zero_24, pl_24, ag_49, sz_49, zero_49, pl_49, gE_49, encApiMotion, hb9, hb11, hb13, hb14]
            cases h
            simp only [↓reduceIte, reduceCtorEq, nA, nE, nL, and_self, and_true, true_and, SL, encApiMotion, hb9, hb11, hb13, hb14]
          · refine Mir.regionD [] (by kernel_rfl) fun e h => ?_
            simp only [↓reduceIte, reduceCtorEq, nA, nS, nM, nE, nL, nT, nB, iT, iN, iE, and_self, SR, SV, sepL_nil, sepL_cons, sepV_ne, sepV_d, sepV_i, true_and, Bool.and_self, und_47, sz_62, q10, ag_62, ag_24, sz_24, zero_62, pl_62, gE_62, q12, zero_24, pl_24, ag_49, sz_49, zero_49, pl_49, gE_49, encApiMotion, hb9, hb11, hb13, hb14]
            cases h
            simp only [↓reduceIte, reduceCtorEq, nA, nE, nL, and_self, and_true, true_and, SL, encApiMotion, hb9, hb11, hb13, hb14]
        · refine Mir.regionD [] (by kernel_rfl) fun e h => ?_
          simp only [↓reduceIte, reduceCtorEq, nA, nS, nM, nE, nL, nT, nB, iT, iN, iE, and_self, SR, SV, sepL_nil, sepL_cons, sepV_ne, sepV_d, sepV_i, true_and, Bool.and_self, und_47, sz_62, q10, ag_62, ag_24, sz_24, zero_62, pl_62, gE_62, q12, zero_24, pl_24, encApiMotion, hb9, hb11, hb13]
          cases h
          simp only [↓reduceIte, reduceCtorEq, nA, nE, nL, and_self, and_true, true_and, SL, encApiMotion, hb9, hb11, hb13]
      · refine Mir.regionD [] (by kernel_rfl) fun e h => ?_
        simp only [↓reduceIte, reduceCtorEq, nA, nS, nM, nE, nL, nT, nB, iT, iN, iE, and_self, SR, SV, sepL_nil, sepL_cons, sepV_ne, sepV_d, sepV_i, true_and, Bool.and_self, und_47, sz_62, q10, ag_62, ag_24, sz_24, zero_62, pl_62, gE_62, encApiMotion, hb9, hb11]
        cases h
        simp only [↓reduceIte, reduceCtorEq, nA, nE, nL, and_self, and_true, true_and, SL, encApiMotion, hb9, hb11]
    · refine Mir.regionD [] (by kernel_rfl) fun e h => ?_
      simp only [↓reduceIte, reduceCtorEq, nA, nS, nM, nE, nL, nT, nB, iT, iN, iE, and_self, SR, SV, sepL_nil, sepL_cons, sepV_ne, sepV_d, sepV_i, true_and, Bool.and_self, und_47, encApiMotion, hb9]
      cases h
      simp only [↓reduceIte, reduceCtorEq, nA, nE, nL, and_self, and_true, true_and, SL, encApiMotion, hb9]
  · intro v111
    refine Mir.toK ?_
    refine Mir.ret fun e h => ?_
    cases h
    simp only [↓reduceIte, reduceCtorEq, nA, nE, nL, and_self, and_true, true_and, SL, encApiMotion, Tryd.results9]

def r41_Few (a0 : (List ApiBlock)) (a1 : Int) : Option Bool :=
  if (decide ((a0.length : Int) > a1)) = true then
    some false
  else
    bindX (guardO (okIdx a0) (
        rangeX (fun (i139 : Nat) (e141 : ApiBlock) (v140 : Unit) =>
          if ((decide ((e141.Words.length : Int) > 20)) || (decide ((e141.Comment.length : Int) > 120))) = true then
            some (.ret (.ret false))
          else
            some (.go ())) (fun (v140 : Unit) => some (.go ())) a0 0 ())) fun (v121 : Unit) =>
    some true
theorem r41_Few_spec {a0 : (List ApiBlock)} {a1 : Int} {y : Bool} (h : r41_Few a0 a1 = some y) : Spec gP 25 [.d (.list (List.map encApiBlock a0)), .d (.int .i64 a1)] (.d (.bool y)) := by
  refine spec_mir Tryd.func25 rfl (by kernel_rfl) (by kernel_rfl) (fun y : Bool => .d (.bool y)) ?_ h
  unfold r41_Few
  simp only [List.replicate, List.length, nS, nA, Tryd.ntmps25, SV]
  refine Mir.seqK ?_
  refine Mir.region fun e h => ?_
  simp only [↓reduceIte, reduceCtorEq, nA, nS, nM, nE, nL, nT, nB, iT, iN, iE, and_self, SR, SV, encApiBlock]
  refine Mir.use (e := e) ?_ h
  refine Mir.seqK ?_
  refine Mir.seqK ?_
  refine Mir.region fun e h => ?_
  simp only [↓reduceIte, reduceCtorEq, nA, nS, nM, nE, nL, nT, nB, iT, iN, iE, and_self, SR, SV, und_43, encApiBlock]
  refine Mir.use (e := e) ?_ h
  refine Mir.cond rfl (fun hb2 => ?_) (fun hb2 => ?_)
  · refine Mir.seqK ?_
    refine Mir.region fun e h => ?_
    simp only [↓reduceIte, reduceCtorEq, nA, nS, nM, nE, nL, nT, nB, iT, iN, iE, and_self, SR, SV, encApiBlock]
    refine Mir.use (e := e) ?_ h
    refine Mir.ret fun e h => ?_
    cases h
    simp only [↓reduceIte, reduceCtorEq, nA, nE, nL, and_self, and_true, true_and, SL, encApiBlock, Tryd.results25]
  · refine Mir.skip ?_
    refine Mir.toK ?_
    refine Mir.seqK ?_
    refine Mir.seqK ?_
    refine Mir.region fun e h => ?_
    simp only [↓reduceIte, reduceCtorEq, nA, nS, nM, nE, nL, nT, nB, iT, iN, iE, and_self, SR, SV, encApiBlock]
    refine Mir.use (e := e) ?_ h
    refine Mir.join (fun v121 : Unit => [U, U, U, U, U, U, U, U, U, U, U, U, U, U, U, U, U, U, U, U, U, U, U, U, U, U, U, U, U, U, U, U]) (fun v121 : Unit => ⟨[], []⟩) (fun _ => rfl) ?_ ?_
    · refine Mir.block ?_
      refine Mir.guard fun qg67 => ?_
      refine Mir.range (fun (i139 : Nat) (v140 : Unit) => [.d (.list (List.map encApiBlock a0)), U, U, U, U, .d (.int .i64 (i139 : Int)), U, U, U, U, U, U, U, U, U, U, U, U, U, U, U, U, U, U, U, U, U, U, U, U, U, U]) (fun (i139 : Nat) (v140 : Unit) => ⟨[], []⟩) qg67 (fun _ _ => rfl) (by simp only [↓reduceIte, reduceCtorEq, nA, nE, nL, and_self, and_true, true_and, SL, encApiBlock, (nr rfl : ((0 : Nat) : Int) = 0)]) (by simp only [↓reduceIte, reduceCtorEq, nA, nE, nL, and_self, and_true, true_and, SL, encApiBlock, (nr rfl : ((0 : Nat) : Int) = 0)]) ?_ ?_
      · intro i139 e141 v140 qr65
        refine Mir.seqK ?_
        refine Mir.seqK ?_
        refine Mir.region fun e h => ?_
        simp only [↓reduceIte, reduceCtorEq, nA, nS, nM, nE, nL, nT, nB, iT, iN, iE, and_self, SR, SV, und_43, qr65, encApiBlock]
        refine Mir.use (e := e) ?_ h
        refine Mir.condT rfl ?_
        refine Mir.skip ?_
        refine Mir.toK ?_
        refine Mir.seqK ?_
        refine Mir.block ?_
        refine Mir.seqK ?_
        refine Mir.joinV [.d (.list (List.map encApiBlock a0)), U, U, U, U, .d (.int .i64 (i139 : Int)), U, U, U, U, U, U, U, U, U, U, U, U, U, U, U, U, U, U, U, U, U, U, U, U, U, .d (.bool ((decide ((e141.Words.length : Int) > 20)) || (decide ((e141.Comment.length : Int) > 120))))] ⟨[], []⟩ rfl ?_ ?_
        · refine SWs.region ?_
          rcases Bool.eq_false_or_eq_true (decide ((e141.Words.length : Int) > 20)) with hb70 | hb70
          · simp only [↓reduceIte, reduceCtorEq, nA, nS, nM, nE, nL, nT, nB, iT, iN, iE, and_self, SR, SV, SL, Bool.true_and, Bool.false_and, Bool.true_or, Bool.false_or, Bool.or_true, Bool.or_false, Bool.and_true, Bool.and_false, Bool.not_true, Bool.not_false, und_43, sz_42, qr65, fld_42_1, sz_40, ag_40, und_40, hb70, encApiBlock]
          · simp only [↓reduceIte, reduceCtorEq, nA, nS, nM, nE, nL, nT, nB, iT, iN, iE, and_self, SR, SV, SL, Bool.true_and, Bool.false_and, Bool.true_or, Bool.false_or, Bool.or_true, Bool.or_false, Bool.and_true, Bool.and_false, Bool.not_true, Bool.not_false, und_43, sz_42, qr65, fld_42_1, sz_40, ag_40, und_40, fld_42_2, sz_9, ag_9, und_9, hb70, encApiBlock]
        · refine Mir.toK ?_
          refine Mir.cond rfl (fun hb72 => ?_) (fun hb72 => ?_)
          · refine Mir.seqK ?_
            refine Mir.region fun e h => ?_
            simp only [↓reduceIte, reduceCtorEq, nA, nS, nM, nE, nL, nT, nB, iT, iN, iE, and_self, SR, SV, encApiBlock]
            refine Mir.use (e := e) ?_ h
            refine Mir.ret fun e h => ?_
            cases h
            simp only [↓reduceIte, reduceCtorEq, nA, nE, nL, and_self, and_true, true_and, SL, encApiBlock, Tryd.results25]
          · refine Mir.skip ?_
            refine Mir.toB ?_
            refine Mir.toK ?_
            refine Mir.region fun e h => ?_
            simp only [↓reduceIte, reduceCtorEq, nA, nS, nM, nE, nL, nT, nB, iT, iN, iE, and_self, SR, SV, encApiBlock]
            cases h
            simp only [↓reduceIte, reduceCtorEq, nA, nE, nL, and_self, and_true, true_and, SL, encApiBlock, Tryd.results25, qr65]
      · intro v140 qd66
        refine Mir.seqK ?_
        refine Mir.seqK ?_
        refine Mir.region fun e h => ?_
        simp only [↓reduceIte, reduceCtorEq, nA, nS, nM, nE, nL, nT, nB, iT, iN, iE, and_self, SR, SV, und_43, qd66, encApiBlock]
        refine Mir.use (e := e) ?_ h
        refine Mir.condF rfl ?_
        refine Mir.exit fun e h => ?_
        cases h
        simp only [↓reduceIte, reduceCtorEq, nA, nE, nL, and_self, and_true, true_and, SL, encApiBlock, Tryd.results25]
    · intro v121
      refine Mir.toK ?_
      refine Mir.seqK ?_
      refine Mir.region fun e h => ?_
      simp only [↓reduceIte, reduceCtorEq, nA, nS, nM, nE, nL, nT, nB, iT, iN, iE, and_self, SR, SV, encApiBlock]
      refine Mir.use (e := e) ?_ h
      refine Mir.ret fun e h => ?_
      cases h
      simp only [↓reduceIte, reduceCtorEq, nA, nE, nL, and_self, and_true, true_and, SL, encApiBlock, Tryd.results25]

def slices_Clone_api_Block_api_Block (a0 : List ApiBlock) : Option (List ApiBlock) := guardO (okLen a0.length) (some a0)
theorem slices_Clone_api_Block_api_Block_n {c0 : Nat} {y : List ApiBlock} (h : (some []) = some y) : Spec gP 19 [.d (.other (.slice none 0 c0))] (.d (.list (List.map encApiBlock y))) := by
  refine spec_mir Tryd.func19 rfl (by kernel_rfl) (by kernel_rfl) (fun y : List ApiBlock => .d (.list (List.map encApiBlock y))) ?_ h
  simp only [List.replicate, List.length, nS, nA, Tryd.ntmps19, SV]
  refine Mir.seqK ?_
  refine Mir.region fun e h => ?_
  simp only [↓reduceIte, reduceCtorEq, nA, nS, nM, nE, nL, nT, nB, iT, iN, iE, and_self, SR, SV, encApiBlock]
  refine Mir.use (e := e) ?_ h
  refine Mir.seqK ?_
  refine Mir.seqK ?_
  refine Mir.region fun e h => ?_
  simp only [↓reduceIte, reduceCtorEq, nA, nS, nM, nE, nL, nT, nB, iT, iN, iE, and_self, SR, SV, und_43, encApiBlock]
  refine Mir.use (e := e) ?_ h
  refine Mir.condT rfl ?_
  refine Mir.seqK ?_
  refine Mir.region fun e h => ?_
  simp only [↓reduceIte, reduceCtorEq, nA, nS, nM, nE, nL, nT, nB, iT, iN, iE, and_self, SR, SV, encApiBlock]
  refine Mir.use (e := e) ?_ h
  refine Mir.ret fun e h => ?_
  cases h
  simp only [↓reduceIte, reduceCtorEq, nA, nE, nL, and_self, and_true, true_and, SL, encApiBlock, Tryd.results19]
theorem slices_Clone_api_Block_api_Block_o {p0 : Addr} {c0 : Nat} {y : List ApiBlock} (h : (some []) = some y) : Spec gP 19 [.d (.other (.slice (some p0) 0 c0))] (.d (.list (List.map encApiBlock y))) := by
  refine spec_mir Tryd.func19 rfl (by kernel_rfl) (by kernel_rfl) (fun y : List ApiBlock => .d (.list (List.map encApiBlock y))) ?_ h
  simp only [List.replicate, List.length, nS, nA, Tryd.ntmps19, SV]
  refine Mir.seqK ?_
  refine Mir.region fun e h => ?_
  simp only [↓reduceIte, reduceCtorEq, nA, nS, nM, nE, nL, nT, nB, iT, iN, iE, and_self, SR, SV, encApiBlock]
  refine Mir.use (e := e) ?_ h
  refine Mir.seqK ?_
  refine Mir.seqK ?_
  refine Mir.region fun e h => ?_
  simp only [↓reduceIte, reduceCtorEq, nA, nS, nM, nE, nL, nT, nB, iT, iN, iE, and_self, SR, SV, und_43, encApiBlock]
  refine Mir.use (e := e) ?_ h
  refine Mir.condF rfl ?_
  refine Mir.skip ?_
  refine Mir.toK ?_
  refine Mir.seqK ?_
  refine Mir.region fun e h => ?_
  simp only [↓reduceIte, reduceCtorEq, nA, nS, nM, nE, nL, nT, nB, iT, iN, iE, and_self, SR, SV, und_43, sz_42, zero_42, (nr rfl : okLen 0 = true), app_43, al_ApiBlock, encApiBlock]
  refine Mir.use (e := e) ?_ h
  refine Mir.ret fun e h => ?_
  cases h
  simp only [↓reduceIte, reduceCtorEq, nA, nE, nL, and_self, and_true, true_and, SL, encApiBlock, Tryd.results19]
theorem slices_Clone_api_Block_api_Block_c {x0 : ApiBlock} {l0 : List ApiBlock} {y : List ApiBlock} (h : (guardO (okLen ((x0 :: l0).length)) (   some (x0 :: l0))) = some y) : Spec gP 19 [.d (.list (List.map encApiBlock (x0 :: l0)))] (.d (.list (List.map encApiBlock y))) := by
  refine spec_mir Tryd.func19 rfl (by kernel_rfl) (by kernel_rfl) (fun y : List ApiBlock => .d (.list (List.map encApiBlock y))) ?_ h
  simp only [List.replicate, List.length, nS, nA, Tryd.ntmps19, SV]
  refine Mir.seqK ?_
  refine Mir.region fun e h => ?_
  simp only [↓reduceIte, reduceCtorEq, nA, nS, nM, nE, nL, nT, nB, iT, iN, iE, and_self, SR, SV, encApiBlock]
  refine Mir.use (e := e) ?_ h
  refine Mir.seqK ?_
  refine Mir.seqK ?_
  refine Mir.region fun e h => ?_
  simp only [↓reduceIte, reduceCtorEq, nA, nS, nM, nE, nL, nT, nB, iT, iN, iE, and_self, SR, SV, und_43, encApiBlock]
  refine Mir.use (e := e) ?_ h
  refine Mir.condF rfl ?_
  refine Mir.skip ?_
  refine Mir.toK ?_
  refine Mir.seqK ?_
  refine Mir.guard fun q1 => ?_
  refine Mir.region fun e h => ?_
  simp only [↓reduceIte, reduceCtorEq, nA, nS, nM, nE, nL, nT, nB, iT, iN, iE, and_self, SR, SV, und_43, sz_42, zero_42, (nr rfl : okLen 0 = true), app_43, al_ApiBlock, Nat.zero_lt_succ, Nat.add_eq_zero_iff, q1, encApiBlock]
  refine Mir.use (e := e) ?_ h
  refine Mir.ret fun e h => ?_
  cases h
  simp only [↓reduceIte, reduceCtorEq, nA, nE, nL, and_self, and_true, true_and, SL, encApiBlock, Tryd.results19]
theorem slices_Clone_api_Block_api_Block_spec {a0 : List ApiBlock} {y : List ApiBlock} (h : slices_Clone_api_Block_api_Block a0 = some y) : Spec gP 19 [.d (.list (List.map encApiBlock a0))] (.d (.list (List.map encApiBlock y))) := by
  obtain ⟨hl, h⟩ := guardO_some h
  cases h
  cases a0 with
  | nil =>
    refine Spec.nilcase fun A c => ?_
    cases A with
    | none => exact slices_Clone_api_Block_api_Block_n rfl
    | some p => exact slices_Clone_api_Block_api_Block_o rfl
  | cons x l => exact slices_Clone_api_Block_api_Block_c (by simp only [guardO, hl])

def md_All (a0 : ModalState) (a1 : (List ApiBlock)) : Option (ModalState × Int × Int) :=
  bindX (guardO (okIdx a1) (
      rangeX (fun (i141 : Nat) (e143 : ApiBlock) (v142 : ModalState) =>
        bindO (md_Apply v142 e143) fun (y145 : ModalState × Int) =>
        if (y145.2 != 0) = true then
          some (.ret (.ret (ModalState.mk 0 0 0 0 0 0 0 0, (i141 : Int), y145.2)))
        else
          some (.go y145.1)) (fun (v142 : ModalState) => some (.go v142)) a1 0 a0)) fun (v123 : ModalState) =>
  some (v123, 0, 0)
theorem md_All_spec {a0 : ModalState} {a1 : (List ApiBlock)} {y : ModalState × Int × Int} (h : md_All a0 a1 = some y) : Spec gP 57 [.agg [.d (.int .i64 a0.Motion), .d (.int .i64 a0.Distance), .d (.int .i64 a0.Work), .d (.int .i64 a0.Length), .d (.int .i64 a0.Return), .d (.int .i64 a0.Feed), .d (.int .i64 a0.Tool), .d (.int .i64 a0.Offset)], .d (.list (List.map encApiBlock a1))] (.tuple [.agg [.d (.int .i64 y.1.Motion), .d (.int .i64 y.1.Distance), .d (.int .i64 y.1.Work), .d (.int .i64 y.1.Length), .d (.int .i64 y.1.Return), .d (.int .i64 y.1.Feed), .d (.int .i64 y.1.Tool), .d (.int .i64 y.1.Offset)], .d (.int .i64 y.2.1), .d (.int .i64 y.2.2)]) := by
  refine spec_mir Tryd.func57 rfl (by kernel_rfl) (by kernel_rfl) (fun y : ModalState × Int × Int => .tuple [.agg [.d (.int .i64 y.1.Motion), .d (.int .i64 y.1.Distance), .d (.int .i64 y.1.Work), .d (.int .i64 y.1.Length), .d (.int .i64 y.1.Return), .d (.int .i64 y.1.Feed), .d (.int .i64 y.1.Tool), .d (.int .i64 y.1.Offset)], .d (.int .i64 y.2.1), .d (.int .i64 y.2.2)]) ?_ h
  unfold md_All
  simp only [List.replicate, List.length, nS, nA, Tryd.ntmps57, SV]
  refine Mir.seqK ?_
  refine Mir.region fun e h => ?_
  simp only [↓reduceIte, reduceCtorEq, nA, nS, nM, nE, nL, nT, nB, iT, iN, iE, and_self, SR, SV, zero_65, encApiBlock]
  refine Mir.use (e := e) ?_ h
  refine Mir.seqK ?_
  refine Mir.seqK ?_
  refine Mir.region fun e h => ?_
  simp only [↓reduceIte, reduceCtorEq, nA, nS, nM, nE, nL, nT, nB, iT, iN, iE, and_self, SR, SV, und_43, encApiBlock]
  refine Mir.use (e := e) ?_ h
  refine Mir.join (fun v123 : ModalState => [U, U, .ptr 0 0, U, .ptr 1 0, U, U, U, U, U, U, U, U, U, U, U, U, U, U, U, U, U, U, U, U, U, U, U, U, U, U, U]) (fun v123 : ModalState => ⟨[[.d (.int .i64 v123.Motion), .d (.int .i64 v123.Distance), .d (.int .i64 v123.Work), .d (.int .i64 v123.Length), .d (.int .i64 v123.Return), .d (.int .i64 v123.Feed), .d (.int .i64 v123.Tool), .d (.int .i64 v123.Offset)], [.d (.int .i64 0), .d (.int .i64 0), .d (.int .i64 0), .d (.int .i64 0), .d (.int .i64 0), .d (.int .i64 0), .d (.int .i64 0), .d (.int .i64 0)]], []⟩) (fun _ => rfl) ?_ ?_
  · refine Mir.block ?_
    refine Mir.guard fun qg72 => ?_
    refine Mir.range (fun (i141 : Nat) (v142 : ModalState) => [U, U, .ptr 0 0, U, .ptr 1 0, U, U, U, U, U, U, .d (.list (List.map encApiBlock a1)), .d (.int .i64 (a1.length : Int)), .d (.int .i64 (i141 : Int)), U, U, U, U, U, U, U, U, U, U, U, U, U, U, U, U, U, U]) (fun (i141 : Nat) (v142 : ModalState) => ⟨[[.d (.int .i64 v142.Motion), .d (.int .i64 v142.Distance), .d (.int .i64 v142.Work), .d (.int .i64 v142.Length), .d (.int .i64 v142.Return), .d (.int .i64 v142.Feed), .d (.int .i64 v142.Tool), .d (.int .i64 v142.Offset)], [.d (.int .i64 0), .d (.int .i64 0), .d (.int .i64 0), .d (.int .i64 0), .d (.int .i64 0), .d (.int .i64 0), .d (.int .i64 0), .d (.int .i64 0)]], []⟩) qg72 (fun _ _ => rfl) (by simp only [↓reduceIte, reduceCtorEq, nA, nE, nL, and_self, and_true, true_and, SL, encApiBlock, (nr rfl : ((0 : Nat) : Int) = 0)]) (by simp only [↓reduceIte, reduceCtorEq, nA, nE, nL, and_self, and_true, true_and, SL, encApiBlock, (nr rfl : ((0 : Nat) : Int) = 0)]) ?_ ?_
    · intro i141 e143 v142 qr70
      refine Mir.seqK ?_
      refine Mir.region fun e h => ?_
      simp only [↓reduceIte, reduceCtorEq, nA, nS, nM, nE, nL, nT, nB, iT, iN, iE, and_self, SR, SV, qr70, encApiBlock]
      refine Mir.use (e := e) ?_ h
      refine Mir.seqK ?_
      refine Mir.condT rfl ?_
      refine Mir.skip ?_
      refine Mir.toK ?_
      refine Mir.seqK ?_
      refine Mir.block ?_
      refine Mir.seqK ?_
      refine Mir.region fun e h => ?_
      simp only [↓reduceIte, reduceCtorEq, nA, nS, nM, nE, nL, nT, nB, iT, iN, iE, and_self, SR, SV, und_43, sz_42, qr70, ag_42, zero_42, encApiBlock]
      refine Mir.use (e := e) ?_ h
      refine Mir.seqK ?_
      refine Mir.bind fun y145 hy76 => ?_
      refine Mir.region fun e h => ?_
      simp only [↓reduceIte, reduceCtorEq, nA, nS, nM, nE, nL, nT, nB, iT, iN, iE, and_self, SR, SV, ag_65, sz_65, ag_42, sz_42, encApiBlock]
      refine SpecS.by (md_Apply_spec hy76) (by simp only [↓reduceIte, reduceCtorEq, nA, nE, nL, and_self, and_true, true_and, SL, encApiBlock]) ?_
      simp only [↓reduceIte, reduceCtorEq, nA, nS, nM, nE, nL, nT, nB, iT, iN, iE, and_self, SR, SV, zero_65, sz_65, encApiBlock]
      refine Mir.use (e := e) ?_ h
      refine Mir.seqK ?_
      refine Mir.seqK ?_
      refine Mir.region fun e h => ?_
      simp only [↓reduceIte, reduceCtorEq, nA, nS, nM, nE, nL, nT, nB, iT, iN, iE, and_self, SR, SV, encApiBlock]
      refine Mir.use (e := e) ?_ h
      refine Mir.cond rfl (fun hb78 => ?_) (fun hb78 => ?_)
      · refine Mir.seqK ?_
        refine Mir.region fun e h => ?_
        simp only [↓reduceIte, reduceCtorEq, nA, nS, nM, nE, nL, nT, nB, iT, iN, iE, and_self, SR, SV, zero_65, pl_65, sz_65, encApiBlock]
        refine Mir.use (e := e) ?_ h
        refine Mir.ret fun e h => ?_
        cases h
        simp only [↓reduceIte, reduceCtorEq, nA, nE, nL, and_self, and_true, true_and, SL, encApiBlock, Tryd.results57, ag_65, sz_65]
      · refine Mir.skip ?_
        refine Mir.toK ?_
        refine Mir.region fun e h => ?_
        simp only [↓reduceIte, reduceCtorEq, nA, nS, nM, nE, nL, nT, nB, iT, iN, iE, and_self, SR, SV, ag_65, sz_65, encApiBlock]
        refine Mir.use (e := e) ?_ h
        refine Mir.region fun e h => ?_
        simp only [↓reduceIte, reduceCtorEq, nA, nS, nM, nE, nL, nT, nB, iT, iN, iE, and_self, SR, SV, encApiBlock]
        cases h
        simp only [↓reduceIte, reduceCtorEq, nA, nE, nL, and_self, and_true, true_and, SL, encApiBlock, Tryd.results57, ag_65, sz_65, qr70]
    · intro v142 qd71
      refine Mir.seqK ?_
      refine Mir.region fun e h => ?_
      simp only [↓reduceIte, reduceCtorEq, nA, nS, nM, nE, nL, nT, nB, iT, iN, iE, and_self, SR, SV, qd71, encApiBlock]
      refine Mir.use (e := e) ?_ h
      refine Mir.seqK ?_
      refine Mir.condF rfl ?_
      refine Mir.exit fun e h => ?_
      cases h
      simp only [↓reduceIte, reduceCtorEq, nA, nE, nL, and_self, and_true, true_and, SL, encApiBlock, Tryd.results57, ag_65, sz_65]
  · intro v123
    refine Mir.toK ?_
    refine Mir.seqK ?_
    refine Mir.region fun e h => ?_
    simp only [↓reduceIte, reduceCtorEq, nA, nS, nM, nE, nL, nT, nB, iT, iN, iE, and_self, SR, SV, ag_65, sz_65, encApiBlock]
    refine Mir.use (e := e) ?_ h
    refine Mir.ret fun e h => ?_
    cases h
    simp only [↓reduceIte, reduceCtorEq, nA, nE, nL, and_self, and_true, true_and, SL, encApiBlock, Tryd.results57, ag_65, sz_65]

def inp_States (a0 : (List ApiBlock)) (a1 : Int) : Option (ModalState × Int) :=
  if ((decide (a1 < 0)) || (decide (a1 > (a0.length : Int)))) = true then
    some (ModalState.mk 0 0 0 0 0 0 0 0, 1)
  else
    bindO (md_New ) fun (y101 : ModalState) =>
    bindO (cutT a0 a1) fun (s102 : (List ApiBlock)) =>
    bindO (md_All y101 s102) fun (y103 : ModalState × Int × Int) =>
    if (y103.2.2 != 0) = true then
      some (ModalState.mk 0 0 0 0 0 0 0 0, 1)
    else
      some (y103.1, 0)
theorem inp_States_spec {a0 : (List ApiBlock)} {a1 : Int} {y : ModalState × Int} (h : inp_States a0 a1 = some y) : Spec gP 26 [.d (.list (List.map encApiBlock a0)), .d (.int .i64 a1)] (.tuple [.agg [.d (.int .i64 y.1.Motion), .d (.int .i64 y.1.Distance), .d (.int .i64 y.1.Work), .d (.int .i64 y.1.Length), .d (.int .i64 y.1.Return), .d (.int .i64 y.1.Feed), .d (.int .i64 y.1.Tool), .d (.int .i64 y.1.Offset)], .d (.int .i64 y.2)]) := by
  refine spec_mir Tryd.func26 rfl (by kernel_rfl) (by kernel_rfl) (fun y : ModalState × Int => .tuple [.agg [.d (.int .i64 y.1.Motion), .d (.int .i64 y.1.Distance), .d (.int .i64 y.1.Work), .d (.int .i64 y.1.Length), .d (.int .i64 y.1.Return), .d (.int .i64 y.1.Feed), .d (.int .i64 y.1.Tool), .d (.int .i64 y.1.Offset)], .d (.int .i64 y.2)]) ?_ h
  unfold inp_States
  simp only [List.replicate, List.length, nS, nA, Tryd.ntmps26, SV]
  refine Mir.seqK ?_
  refine Mir.region fun e h => ?_
  simp only [↓reduceIte, reduceCtorEq, nA, nS, nM, nE, nL, nT, nB, iT, iN, iE, and_self, SR, SV, zero_65, encApiBlock]
  refine Mir.use (e := e) ?_ h
  refine Mir.seqK ?_
  refine Mir.seqK ?_
  refine Mir.joinV [.d (.list (List.map encApiBlock a0)), .d (.int .i64 a1), U, U, .ptr 0 0, U, U, U, U, U, U, U, U, U, U, U, .d (.bool ((decide (a1 < 0)) || (decide (a1 > (a0.length : Int))))), U, U, U, U, U, U, U, U, U, U, U, U, U, U] ⟨[[.d (.int .i64 0), .d (.int .i64 0), .d (.int .i64 0), .d (.int .i64 0), .d (.int .i64 0), .d (.int .i64 0), .d (.int .i64 0), .d (.int .i64 0)]], []⟩ rfl ?_ ?_
  · refine SWs.region ?_
    rcases Bool.eq_false_or_eq_true (decide (a1 < 0)) with hb1 | hb1
    · simp only [↓reduceIte, reduceCtorEq, nA, nS, nM, nE, nL, nT, nB, iT, iN, iE, and_self, SR, SV, SL, Bool.true_and, Bool.false_and, Bool.true_or, Bool.false_or, Bool.or_true, Bool.or_false, Bool.and_true, Bool.and_false, Bool.not_true, Bool.not_false, hb1, encApiBlock]
    · simp only [↓reduceIte, reduceCtorEq, nA, nS, nM, nE, nL, nT, nB, iT, iN, iE, and_self, SR, SV, SL, Bool.true_and, Bool.false_and, Bool.true_or, Bool.false_or, Bool.or_true, Bool.or_false, Bool.and_true, Bool.and_false, Bool.not_true, Bool.not_false, und_43, hb1, encApiBlock]
  · refine Mir.toK ?_
    refine Mir.cond rfl (fun hb3 => ?_) (fun hb3 => ?_)
    · refine Mir.seqK ?_
      refine Mir.region fun e h => ?_
      simp only [↓reduceIte, reduceCtorEq, nA, nS, nM, nE, nL, nT, nB, iT, iN, iE, and_self, SR, SV, zero_65, pl_65, sz_65, encApiBlock]
      refine Mir.use (e := e) ?_ h
      refine Mir.ret fun e h => ?_
      cases h
      simp only [↓reduceIte, reduceCtorEq, nA, nE, nL, and_self, and_true, true_and, SL, encApiBlock, Tryd.results26, ag_65, sz_65]
    · refine Mir.skip ?_
      refine Mir.toK ?_
      refine Mir.seqK ?_
      refine Mir.bind fun y101 hy4 => ?_
      refine Mir.bind fun s102 q5 => ?_
      replace q5 := cutT_ok q5
      refine Mir.bind fun y103 hy6 => ?_
      refine Mir.regionD [] (by kernel_rfl) fun e h => ?_
      simp only [↓reduceIte, reduceCtorEq, nA, nS, nM, nE, nL, nT, nB, iT, iN, iE, and_self, SR, SV, sepL_nil, sepL_cons, sepV_ne, sepV_d, sepV_i, true_and, Bool.and_self, encApiBlock]
      refine Spec.by (md_New_spec hy4) (rfl) ?_
      simp only [↓reduceIte, reduceCtorEq, nA, nS, nM, nE, nL, nT, nB, iT, iN, iE, and_self, SR, SV, sepL_nil, sepL_cons, sepV_ne, sepV_d, sepV_i, true_and, Bool.and_self, und_43, sz_42, q5, Nat.le_refl, and_true, true_and, dm, tm, al_ApiBlock, encApiBlock]
      refine Spec.by (md_All_spec hy6) (by simp only [↓reduceIte, reduceCtorEq, nA, nE, nL, and_self, and_true, true_and, SL, encApiBlock]) ?_
      simp only [↓reduceIte, reduceCtorEq, nA, nS, nM, nE, nL, nT, nB, iT, iN, iE, and_self, SR, SV, sepL_nil, sepL_cons, sepV_ne, sepV_d, sepV_i, true_and, Bool.and_self, zero_65, sz_65, encApiBlock]
      refine Mir.use (e := e) ?_ h
      refine Mir.seqK ?_
      refine Mir.seqK ?_
      refine Mir.region fun e h => ?_
      simp only [↓reduceIte, reduceCtorEq, nA, nS, nM, nE, nL, nT, nB, iT, iN, iE, and_self, SR, SV, encApiBlock]
      refine Mir.use (e := e) ?_ h
      refine Mir.cond rfl (fun hb8 => ?_) (fun hb8 => ?_)
      · refine Mir.seqK ?_
        refine Mir.region fun e h => ?_
        simp only [↓reduceIte, reduceCtorEq, nA, nS, nM, nE, nL, nT, nB, iT, iN, iE, and_self, SR, SV, zero_65, pl_65, sz_65, encApiBlock]
        refine Mir.use (e := e) ?_ h
        refine Mir.ret fun e h => ?_
        cases h
        simp only [↓reduceIte, reduceCtorEq, nA, nE, nL, and_self, and_true, true_and, SL, encApiBlock, Tryd.results26, ag_65, sz_65]
      · refine Mir.skip ?_
        refine Mir.toK ?_
        refine Mir.seqK ?_
        refine Mir.region fun e h => ?_
        simp only [↓reduceIte, reduceCtorEq, nA, nS, nM, nE, nL, nT, nB, iT, iN, iE, and_self, SR, SV, ag_65, sz_65, encApiBlock]
        refine Mir.use (e := e) ?_ h
        refine Mir.ret fun e h => ?_
        cases h
        simp only [↓reduceIte, reduceCtorEq, nA, nE, nL, and_self, and_true, true_and, SL, encApiBlock, Tryd.results26, ag_65, sz_65]

def r42_New  : Option R42State :=
  some (R42State.mk 0 90000 54000 49000 98000 0 0 0)
theorem r42_New_spec  {y : R42State} (h : r42_New = some y) : Spec gP 59 [] (.agg [.d (.int .i64 y.Motion), .d (.int .i64 y.Distance), .d (.int .i64 y.Work), .d (.int .i64 y.Length), .d (.int .i64 y.Return), .d (.int .i64 y.Feed), .d (.int .i64 y.Tool), .d (.int .i64 y.Offset)]) := by
  refine spec_mir Tryd.func59 rfl (by kernel_rfl) (by kernel_rfl) (fun y : R42State => .agg [.d (.int .i64 y.Motion), .d (.int .i64 y.Distance), .d (.int .i64 y.Work), .d (.int .i64 y.Length), .d (.int .i64 y.Return), .d (.int .i64 y.Feed), .d (.int .i64 y.Tool), .d (.int .i64 y.Offset)]) ?_ h
  unfold r42_New
  simp only [List.replicate, List.length, nS, nA, Tryd.ntmps59, SV]
  refine Mir.seqK ?_
  refine Mir.region fun e h => ?_
  simp only [↓reduceIte, reduceCtorEq, nA, nS, nM, nE, nL, nT, nB, iT, iN, iE, and_self, SR, SV, zero_78]
  refine Mir.use (e := e) ?_ h
  refine Mir.seqK ?_
  refine Mir.region fun e h => ?_
  simp only [↓reduceIte, reduceCtorEq, nA, nS, nM, nE, nL, nT, nB, iT, iN, iE, and_self, SR, SV, zero_78, pl_78, sz_78]
  refine Mir.use (e := e) ?_ h
  refine Mir.ret fun e h => ?_
  cases h
  simp only [↓reduceIte, reduceCtorEq, nA, nE, nL, and_self, and_true, true_and, SL, Tryd.results59, ag_78, sz_78]

def r42_codes (a0 : Int) : Option (List Int) :=
  if (a0 == 1) = true then
    some [0, 1, 2, 3, 80, 81, 82, 83]
  else
    if (a0 == 2) = true then
      some [90, 91]
    else
      if (a0 == 3) = true then
        some [54, 55, 56, 57, 58, 59]
      else
        if (a0 == 4) = true then
          some [43, 49]
        else
          some [98, 99]
theorem r42_codes_spec {a0 : Int} {y : (List Int)} (h : r42_codes a0 = some y) : Spec gP 115 [.d (.int .i64 a0)] (.d (.list (List.map (eInt .i64) y))) := by
  refine spec_mir Tryd.func115 rfl (by kernel_rfl) (by kernel_rfl) (fun y : (List Int) => .d (.list (List.map (eInt .i64) y))) ?_ h
  unfold r42_codes
  simp only [List.replicate, List.length, nS, nA, Tryd.ntmps115, SV]
  refine Mir.seqK ?_
  refine Mir.region fun e h => ?_
  simp only [↓reduceIte, reduceCtorEq, nA, nS, nM, nE, nL, nT, nB, iT, iN, iE, and_self, SR, SV, eInt]
  refine Mir.use (e := e) ?_ h
  refine Mir.seqK ?_
  refine Mir.seqK ?_
  refine Mir.region fun e h => ?_
  simp only [↓reduceIte, reduceCtorEq, nA, nS, nM, nE, nL, nT, nB, iT, iN, iE, and_self, SR, SV, eInt]
  refine Mir.use (e := e) ?_ h
  refine Mir.block ?_
  refine Mir.seqK ?_
  refine Mir.region fun e h => ?_
  simp only [↓reduceIte, reduceCtorEq, nA, nS, nM, nE, nL, nT, nB, iT, iN, iE, and_self, SR, SV, eInt]
  refine Mir.use (e := e) ?_ h
  refine Mir.cond rfl (fun hb9 => ?_) (fun hb9 => ?_)
  · refine Mir.seqK ?_
    refine Mir.region fun e h => ?_
    simp only [↓reduceIte, reduceCtorEq, nA, nS, nM, nE, nL, nT, nB, iT, iN, iE, and_self, SR, SV, und_98, sz_2, zero_2, (nr rfl : okLen 8 = true), eInt]
    refine Mir.use (e := e) ?_ h
    refine Mir.ret fun e h => ?_
    cases h
    simp only [↓reduceIte, reduceCtorEq, nA, nE, nL, and_self, and_true, true_and, SL, eInt, Tryd.results115]
  · refine Mir.seqK ?_
    refine Mir.region fun e h => ?_
    simp only [↓reduceIte, reduceCtorEq, nA, nS, nM, nE, nL, nT, nB, iT, iN, iE, and_self, SR, SV, eInt]
    refine Mir.use (e := e) ?_ h
    refine Mir.cond rfl (fun hb13 => ?_) (fun hb13 => ?_)
    · refine Mir.seqK ?_
      refine Mir.region fun e h => ?_
      simp only [↓reduceIte, reduceCtorEq, nA, nS, nM, nE, nL, nT, nB, iT, iN, iE, and_self, SR, SV, und_98, sz_2, zero_2, (nr rfl : okLen 2 = true), eInt]
      refine Mir.use (e := e) ?_ h
      refine Mir.ret fun e h => ?_
      cases h
      simp only [↓reduceIte, reduceCtorEq, nA, nE, nL, and_self, and_true, true_and, SL, eInt, Tryd.results115]
    · refine Mir.seqK ?_
      refine Mir.region fun e h => ?_
      simp only [↓reduceIte, reduceCtorEq, nA, nS, nM, nE, nL, nT, nB, iT, iN, iE, and_self, SR, SV, eInt]
      refine Mir.use (e := e) ?_ h
      refine Mir.cond rfl (fun hb16 => ?_) (fun hb16 => ?_)
      · refine Mir.seqK ?_
        refine Mir.region fun e h => ?_
        simp only [↓reduceIte, reduceCtorEq, nA, nS, nM, nE, nL, nT, nB, iT, iN, iE, and_self, SR, SV, und_98, sz_2, zero_2, (nr rfl : okLen 6 = true), eInt]
        refine Mir.use (e := e) ?_ h
        refine Mir.ret fun e h => ?_
        cases h
        simp only [↓reduceIte, reduceCtorEq, nA, nE, nL, and_self, and_true, true_and, SL, eInt, Tryd.results115]
      · refine Mir.seqK ?_
        refine Mir.region fun e h => ?_
        simp only [↓reduceIte, reduceCtorEq, nA, nS, nM, nE, nL, nT, nB, iT, iN, iE, and_self, SR, SV, eInt]
        refine Mir.use (e := e) ?_ h
        refine Mir.cond rfl (fun hb18 => ?_) (fun hb18 => ?_)
        · refine Mir.seqK ?_
          refine Mir.region fun e h => ?_
          simp only [↓reduceIte, reduceCtorEq, nA, nS, nM, nE, nL, nT, nB, iT, iN, iE, and_self, SR, SV, und_98, sz_2, zero_2, (nr rfl : okLen 2 = true), eInt]
          refine Mir.use (e := e) ?_ h
          refine Mir.ret fun e h => ?_
          cases h
          simp only [↓reduceIte, reduceCtorEq, nA, nE, nL, and_self, and_true, true_and, SL, eInt, Tryd.results115]
        · refine Mir.skip ?_
          refine Mir.toB ?_
          refine Mir.toK ?_
          refine Mir.seqK ?_
          refine Mir.region fun e h => ?_
          simp only [↓reduceIte, reduceCtorEq, nA, nS, nM, nE, nL, nT, nB, iT, iN, iE, and_self, SR, SV, und_98, sz_2, zero_2, (nr rfl : okLen 2 = true), eInt]
          refine Mir.use (e := e) ?_ h
          refine Mir.ret fun e h => ?_
          cases h
          simp only [↓reduceIte, reduceCtorEq, nA, nE, nL, and_self, and_true, true_and, SL, eInt, Tryd.results115]

def r42_Group (a0 : Int) : Option Int :=
  bindX (bindX (bindO (r42_codes 1) fun (y273 : (List Int)) =>
          guardO (okIdx y273) (
          rangeX (fun (i285 : Nat) (e287 : Int) (v286 : Unit) =>
            if (a0 == (IntKind.i64.wrap (1000 * e287))) = true then
              some (.ret (.ret (.ret 1)))
            else
              some (.go ())) (fun (v286 : Unit) => some (.go ())) y273 0 ())) fun (v272 : Unit) =>
      bindX (bindO (r42_codes 2) fun (y304 : (List Int)) =>
          guardO (okIdx y304) (
          rangeX (fun (i316 : Nat) (e318 : Int) (v317 : Unit) =>
            if (a0 == (IntKind.i64.wrap (1000 * e318))) = true then
              some (.ret (.ret (.ret 2)))
            else
              some (.go ())) (fun (v317 : Unit) => some (.go ())) y304 0 ())) fun (v303 : Unit) =>
      bindX (bindO (r42_codes 3) fun (y335 : (List Int)) =>
          guardO (okIdx y335) (
          rangeX (fun (i347 : Nat) (e349 : Int) (v348 : Unit) =>
            if (a0 == (IntKind.i64.wrap (1000 * e349))) = true then
              some (.ret (.ret (.ret 3)))
            else
              some (.go ())) (fun (v348 : Unit) => some (.go ())) y335 0 ())) fun (v334 : Unit) =>
      bindX (bindO (r42_codes 4) fun (y366 : (List Int)) =>
          guardO (okIdx y366) (
          rangeX (fun (i378 : Nat) (e380 : Int) (v379 : Unit) =>
            if (a0 == (IntKind.i64.wrap (1000 * e380))) = true then
              some (.ret (.ret (.ret 4)))
            else
              some (.go ())) (fun (v379 : Unit) => some (.go ())) y366 0 ())) fun (v365 : Unit) =>
      bindX (bindO (r42_codes 5) fun (y397 : (List Int)) =>
          guardO (okIdx y397) (
          rangeX (fun (i409 : Nat) (e411 : Int) (v410 : Unit) =>
            if (a0 == (IntKind.i64.wrap (1000 * e411))) = true then
              some (.ret (.ret (.ret 5)))
            else
              some (.go ())) (fun (v410 : Unit) => some (.go ())) y397 0 ())) fun (v396 : Unit) =>
      some (.go ())) fun (v256 : Unit) =>
  some 0
set_option maxHeartbeats 8000000 in
theorem r42_Group_spec {a0 : Int} {y : Int} (h : r42_Group a0 = some y) : Spec gP 108 [.d (.int .i64 a0)] (.d (.int .i64 y)) := by
  refine spec_mir Tryd.func108 rfl (by kernel_rfl) (by kernel_rfl) (fun y : Int => .d (.int .i64 y)) ?_ h
  unfold r42_Group
  simp only [List.replicate, List.length, nS, nA, Tryd.ntmps108, SV]
  refine Mir.seqK ?_
  refine Mir.region fun e h => ?_
  simp only [↓reduceIte, reduceCtorEq, nA, nS, nM, nE, nL, nT, nB, iT, iN, iE, and_self, SR, SV, eInt]
  refine Mir.use (e := e) ?_ h
  refine Mir.seqK ?_
  refine Mir.seqK ?_
  refine Mir.region fun e h => ?_
  simp only [↓reduceIte, reduceCtorEq, nA, nS, nM, nE, nL, nT, nB, iT, iN, iE, and_self, SR, SV, eInt]
  refine Mir.use (e := e) ?_ h
  refine Mir.join (fun v256 : Unit => [U, U, U, U, U, U, U, U, U, U, U, U, U, U, U, U, U, U, U, U, U, U, U, U, U, U]) (fun v256 : Unit => ⟨[], []⟩) (fun _ => rfl) ?_ ?_
  · refine Mir.block ?_
    refine Mir.loopR 15 ?_
    refine Mir.seqK ?_
    refine Mir.seqK ?_
    refine Mir.region fun e h => ?_
    simp only [↓reduceIte, reduceCtorEq, nA, nS, nM, nE, nL, nT, nB, iT, iN, iE, and_self, SR, SV, (nr rfl : (decide ((1 : Int) ≤ 5)) = true), eInt]
    refine Mir.use (e := e) ?_ h
    refine Mir.condT rfl ?_
    refine Mir.skip ?_
    refine Mir.toK ?_
    refine Mir.seqK ?_
    refine Mir.join (fun v272 : Unit => [.d (.int .i64 a0), U, U, .d (.int .i64 1), U, U, U, U, U, U, U, U, U, U, U, U, U, U, U, U, U, U, U, U, U, U]) (fun v272 : Unit => ⟨[], []⟩) (fun _ => rfl) ?_ ?_
    · refine Mir.block ?_
      refine Mir.seqK ?_
      refine Mir.bind fun y273 hy309 => ?_
      refine Mir.region fun e h => ?_
      simp only [↓reduceIte, reduceCtorEq, nA, nS, nM, nE, nL, nT, nB, iT, iN, iE, and_self, SR, SV, eInt]
      refine SpecS.by (r42_codes_spec hy309) (by simp only [↓reduceIte, reduceCtorEq, nA, nE, nL, and_self, and_true, true_and, SL, eInt]) ?_
      simp only [↓reduceIte, reduceCtorEq, nA, nS, nM, nE, nL, nT, nB, iT, iN, iE, and_self, SR, SV, eInt]
      refine Mir.use (e := e) ?_ h
      refine Mir.seqK ?_
      refine Mir.region fun e h => ?_
      simp only [↓reduceIte, reduceCtorEq, nA, nS, nM, nE, nL, nT, nB, iT, iN, iE, and_self, SR, SV, eInt]
      refine Mir.use (e := e) ?_ h
      refine Mir.block ?_
      refine Mir.guard fun qg333 => ?_
      refine Mir.range (fun (i285 : Nat) (v286 : Unit) => [.d (.int .i64 a0), U, U, .d (.int .i64 1), .d (.list (List.map (eInt .i64) y273)), .d (.int .i64 (i285 : Int)), U, U, U, U, U, U, U, U, U, U, U, U, U, U, U, U, U, U, U, U]) (fun (i285 : Nat) (v286 : Unit) => ⟨[], []⟩) qg333 (fun _ _ => rfl) (by simp only [↓reduceIte, reduceCtorEq, nA, nE, nL, and_self, and_true, true_and, SL, eInt, (nr rfl : ((0 : Nat) : Int) = 0)]) (by simp only [↓reduceIte, reduceCtorEq, nA, nE, nL, and_self, and_true, true_and, SL, eInt, (nr rfl : ((0 : Nat) : Int) = 0)]) ?_ ?_
      · intro i285 e287 v286 qr331
        refine Mir.seqK ?_
        refine Mir.seqK ?_
        refine Mir.region fun e h => ?_
        simp only [↓reduceIte, reduceCtorEq, nA, nS, nM, nE, nL, nT, nB, iT, iN, iE, and_self, SR, SV, und_98, qr331, eInt]
        refine Mir.use (e := e) ?_ h
        refine Mir.condT rfl ?_
        refine Mir.skip ?_
        refine Mir.toK ?_
        refine Mir.seqK ?_
        refine Mir.block ?_
        refine Mir.seqK ?_
        refine Mir.region fun e h => ?_
        simp only [↓reduceIte, reduceCtorEq, nA, nS, nM, nE, nL, nT, nB, iT, iN, iE, and_self, SR, SV, und_98, sz_2, qr331, ag_2, eInt]
        refine Mir.use (e := e) ?_ h
        refine Mir.cond rfl (fun hb336 => ?_) (fun hb336 => ?_)
        · refine Mir.seqK ?_
          refine Mir.region fun e h => ?_
          simp only [↓reduceIte, reduceCtorEq, nA, nS, nM, nE, nL, nT, nB, iT, iN, iE, and_self, SR, SV, eInt]
          refine Mir.use (e := e) ?_ h
          refine Mir.ret fun e h => ?_
          cases h
          simp only [↓reduceIte, reduceCtorEq, nA, nE, nL, and_self, and_true, true_and, SL, eInt, Tryd.results108]
        · refine Mir.skip ?_
          refine Mir.toB ?_
          refine Mir.toK ?_
          refine Mir.region fun e h => ?_
          simp only [↓reduceIte, reduceCtorEq, nA, nS, nM, nE, nL, nT, nB, iT, iN, iE, and_self, SR, SV, eInt]
          cases h
          simp only [↓reduceIte, reduceCtorEq, nA, nE, nL, and_self, and_true, true_and, SL, eInt, Tryd.results108, qr331]
      · intro v286 qd332
        refine Mir.seqK ?_
        refine Mir.seqK ?_
        refine Mir.region fun e h => ?_
        simp only [↓reduceIte, reduceCtorEq, nA, nS, nM, nE, nL, nT, nB, iT, iN, iE, and_self, SR, SV, und_98, qd332, eInt]
        refine Mir.use (e := e) ?_ h
        refine Mir.condF rfl ?_
        refine Mir.exit fun e h => ?_
        cases h
        simp only [↓reduceIte, reduceCtorEq, nA, nE, nL, and_self, and_true, true_and, SL, eInt, Tryd.results108]
    · intro v272
      refine Mir.toK ?_
      refine Mir.region fun e h => ?_
      simp only [↓reduceIte, reduceCtorEq, nA, nS, nM, nE, nL, nT, nB, iT, iN, iE, and_self, SR, SV, (nr rfl : IntKind.i64.wrap (1 + 1) = 2), eInt]
      refine Mir.useN (e := e) ?_ h
      refine Mir.seqK ?_
      refine Mir.seqK ?_
      refine Mir.region fun e h => ?_
      simp only [↓reduceIte, reduceCtorEq, nA, nS, nM, nE, nL, nT, nB, iT, iN, iE, and_self, SR, SV, (nr rfl : (decide ((2 : Int) ≤ 5)) = true), eInt]
      refine Mir.use (e := e) ?_ h
      refine Mir.condT rfl ?_
      refine Mir.skip ?_
      refine Mir.toK ?_
      refine Mir.seqK ?_
      refine Mir.join (fun v303 : Unit => [.d (.int .i64 a0), U, U, .d (.int .i64 2), U, U, U, U, U, U, U, U, U, U, U, U, U, U, U, U, U, U, U, U, U, U]) (fun v303 : Unit => ⟨[], []⟩) (fun _ => rfl) ?_ ?_
      · refine Mir.block ?_
        refine Mir.seqK ?_
        refine Mir.bind fun y304 hy365 => ?_
        refine Mir.region fun e h => ?_
        simp only [↓reduceIte, reduceCtorEq, nA, nS, nM, nE, nL, nT, nB, iT, iN, iE, and_self, SR, SV, eInt]
        refine SpecS.by (r42_codes_spec hy365) (by simp only [↓reduceIte, reduceCtorEq, nA, nE, nL, and_self, and_true, true_and, SL, eInt]) ?_
        simp only [↓reduceIte, reduceCtorEq, nA, nS, nM, nE, nL, nT, nB, iT, iN, iE, and_self, SR, SV, eInt]
        refine Mir.use (e := e) ?_ h
        refine Mir.seqK ?_
        refine Mir.region fun e h => ?_
        simp only [↓reduceIte, reduceCtorEq, nA, nS, nM, nE, nL, nT, nB, iT, iN, iE, and_self, SR, SV, eInt]
        refine Mir.use (e := e) ?_ h
        refine Mir.block ?_
        refine Mir.guard fun qg389 => ?_
        refine Mir.range (fun (i316 : Nat) (v317 : Unit) => [.d (.int .i64 a0), U, U, .d (.int .i64 2), .d (.list (List.map (eInt .i64) y304)), .d (.int .i64 (i316 : Int)), U, U, U, U, U, U, U, U, U, U, U, U, U, U, U, U, U, U, U, U]) (fun (i316 : Nat) (v317 : Unit) => ⟨[], []⟩) qg389 (fun _ _ => rfl) (by simp only [↓reduceIte, reduceCtorEq, nA, nE, nL, and_self, and_true, true_and, SL, eInt, (nr rfl : ((0 : Nat) : Int) = 0)]) (by simp only [↓reduceIte, reduceCtorEq, nA, nE, nL, and_self, and_true, true_and, SL, eInt, (nr rfl : ((0 : Nat) : Int) = 0)]) ?_ ?_
        · intro i316 e318 v317 qr387
          refine Mir.seqK ?_
          refine Mir.seqK ?_
          refine Mir.region fun e h => ?_
          simp only [↓reduceIte, reduceCtorEq, nA, nS, nM, nE, nL, nT, nB, iT, iN, iE, and_self, SR, SV, und_98, qr387, eInt]
          refine Mir.use (e := e) ?_ h
          refine Mir.condT rfl ?_
          refine Mir.skip ?_
          refine Mir.toK ?_
          refine Mir.seqK ?_
          refine Mir.block ?_
          refine Mir.seqK ?_
          refine Mir.region fun e h => ?_
          simp only [↓reduceIte, reduceCtorEq, nA, nS, nM, nE, nL, nT, nB, iT, iN, iE, and_self, SR, SV, und_98, sz_2, qr387, ag_2, eInt]
          refine Mir.use (e := e) ?_ h
          refine Mir.cond rfl (fun hb392 => ?_) (fun hb392 => ?_)
          · refine Mir.seqK ?_
            refine Mir.region fun e h => ?_
            simp only [↓reduceIte, reduceCtorEq, nA, nS, nM, nE, nL, nT, nB, iT, iN, iE, and_self, SR, SV, eInt]
            refine Mir.use (e := e) ?_ h
            refine Mir.ret fun e h => ?_
            cases h
            simp only [↓reduceIte, reduceCtorEq, nA, nE, nL, and_self, and_true, true_and, SL, eInt, Tryd.results108]
          · refine Mir.skip ?_
            refine Mir.toB ?_
            refine Mir.toK ?_
            refine Mir.region fun e h => ?_
            simp only [↓reduceIte, reduceCtorEq, nA, nS, nM, nE, nL, nT, nB, iT, iN, iE, and_self, SR, SV, eInt]
            cases h
            simp only [↓reduceIte, reduceCtorEq, nA, nE, nL, and_self, and_true, true_and, SL, eInt, Tryd.results108, qr387]
        · intro v317 qd388
          refine Mir.seqK ?_
          refine Mir.seqK ?_
          refine Mir.region fun e h => ?_
          simp only [↓reduceIte, reduceCtorEq, nA, nS, nM, nE, nL, nT, nB, iT, iN, iE, and_self, SR, SV, und_98, qd388, eInt]
          refine Mir.use (e := e) ?_ h
          refine Mir.condF rfl ?_
          refine Mir.exit fun e h => ?_
          cases h
          simp only [↓reduceIte, reduceCtorEq, nA, nE, nL, and_self, and_true, true_and, SL, eInt, Tryd.results108]
      · intro v303
        refine Mir.toK ?_
        refine Mir.region fun e h => ?_
        simp only [↓reduceIte, reduceCtorEq, nA, nS, nM, nE, nL, nT, nB, iT, iN, iE, and_self, SR, SV, (nr rfl : IntKind.i64.wrap (2 + 1) = 3), eInt]
        refine Mir.useN (e := e) ?_ h
        refine Mir.seqK ?_
        refine Mir.seqK ?_
        refine Mir.region fun e h => ?_
        simp only [↓reduceIte, reduceCtorEq, nA, nS, nM, nE, nL, nT, nB, iT, iN, iE, and_self, SR, SV, (nr rfl : (decide ((3 : Int) ≤ 5)) = true), eInt]
        refine Mir.use (e := e) ?_ h
        refine Mir.condT rfl ?_
        refine Mir.skip ?_
        refine Mir.toK ?_
        refine Mir.seqK ?_
        refine Mir.join (fun v334 : Unit => [.d (.int .i64 a0), U, U, .d (.int .i64 3), U, U, U, U, U, U, U, U, U, U, U, U, U, U, U, U, U, U, U, U, U, U]) (fun v334 : Unit => ⟨[], []⟩) (fun _ => rfl) ?_ ?_
        · refine Mir.block ?_
          refine Mir.seqK ?_
          refine Mir.bind fun y335 hy421 => ?_
          refine Mir.region fun e h => ?_
          simp only [↓reduceIte, reduceCtorEq, nA, nS, nM, nE, nL, nT, nB, iT, iN, iE, and_self, SR, SV, eInt]
          refine SpecS.by (r42_codes_spec hy421) (by simp only [↓reduceIte, reduceCtorEq, nA, nE, nL, and_self, and_true, true_and, SL, eInt]) ?_
          simp only [↓reduceIte, reduceCtorEq, nA, nS, nM, nE, nL, nT, nB, iT, iN, iE, and_self, SR, SV, eInt]
          refine Mir.use (e := e) ?_ h
          refine Mir.seqK ?_
          refine Mir.region fun e h => ?_
          simp only [↓reduceIte, reduceCtorEq, nA, nS, nM, nE, nL, nT, nB, iT, iN, iE, and_self, SR, SV, eInt]
          refine Mir.use (e := e) ?_ h
          refine Mir.block ?_
          refine Mir.guard fun qg445 => ?_
          refine Mir.range (fun (i347 : Nat) (v348 : Unit) => [.d (.int .i64 a0), U, U, .d (.int .i64 3), .d (.list (List.map (eInt .i64) y335)), .d (.int .i64 (i347 : Int)), U, U, U, U, U, U, U, U, U, U, U, U, U, U, U, U, U, U, U, U]) (fun (i347 : Nat) (v348 : Unit) => ⟨[], []⟩) qg445 (fun _ _ => rfl) (by simp only [↓reduceIte, reduceCtorEq, nA, nE, nL, and_self, and_true, true_and, SL, eInt, (nr rfl : ((0 : Nat) : Int) = 0)]) (by simp only [↓reduceIte, reduceCtorEq, nA, nE, nL, and_self, and_true, true_and, SL, eInt, (nr rfl : ((0 : Nat) : Int) = 0)]) ?_ ?_
          · intro i347 e349 v348 qr443
            refine Mir.seqK ?_
            refine Mir.seqK ?_
            refine Mir.region fun e h => ?_
            simp only [↓reduceIte, reduceCtorEq, nA, nS, nM, nE, nL, nT, nB, iT, iN, iE, and_self, SR, SV, und_98, qr443, eInt]
            refine Mir.use (e := e) ?_ h
            refine Mir.condT rfl ?_
            refine Mir.skip ?_
            refine Mir.toK ?_
            refine Mir.seqK ?_
            refine Mir.block ?_
            refine Mir.seqK ?_
            refine Mir.region fun e h => ?_
            simp only [↓reduceIte, reduceCtorEq, nA, nS, nM, nE, nL, nT, nB, iT, iN, iE, and_self, SR, SV, und_98, sz_2, qr443, ag_2, eInt]
            refine Mir.use (e := e) ?_ h
            refine Mir.cond rfl (fun hb448 => ?_) (fun hb448 => ?_)
            · refine Mir.seqK ?_
              refine Mir.region fun e h => ?_
              simp only [↓reduceIte, reduceCtorEq, nA, nS, nM, nE, nL, nT, nB, iT, iN, iE, and_self, SR, SV, eInt]
              refine Mir.use (e := e) ?_ h
              refine Mir.ret fun e h => ?_
              cases h
              simp only [↓reduceIte, reduceCtorEq, nA, nE, nL, and_self, and_true, true_and, SL, eInt, Tryd.results108]
            · refine Mir.skip ?_
              refine Mir.toB ?_
              refine Mir.toK ?_
              refine Mir.region fun e h => ?_
              simp only [↓reduceIte, reduceCtorEq, nA, nS, nM, nE, nL, nT, nB, iT, iN, iE, and_self, SR, SV, eInt]
              cases h
              simp only [↓reduceIte, reduceCtorEq, nA, nE, nL, and_self, and_true, true_and, SL, eInt, Tryd.results108, qr443]
          · intro v348 qd444
            refine Mir.seqK ?_
            refine Mir.seqK ?_
            refine Mir.region fun e h => ?_
            simp only [↓reduceIte, reduceCtorEq, nA, nS, nM, nE, nL, nT, nB, iT, iN, iE, and_self, SR, SV, und_98, qd444, eInt]
            refine Mir.use (e := e) ?_ h
            refine Mir.condF rfl ?_
            refine Mir.exit fun e h => ?_
            cases h
            simp only [↓reduceIte, reduceCtorEq, nA, nE, nL, and_self, and_true, true_and, SL, eInt, Tryd.results108]
        · intro v334
          refine Mir.toK ?_
          refine Mir.region fun e h => ?_
          simp only [↓reduceIte, reduceCtorEq, nA, nS, nM, nE, nL, nT, nB, iT, iN, iE, and_self, SR, SV, (nr rfl : IntKind.i64.wrap (3 + 1) = 4), eInt]
          refine Mir.useN (e := e) ?_ h
          refine Mir.seqK ?_
          refine Mir.seqK ?_
          refine Mir.region fun e h => ?_
          simp only [↓reduceIte, reduceCtorEq, nA, nS, nM, nE, nL, nT, nB, iT, iN, iE, and_self, SR, SV, (nr rfl : (decide ((4 : Int) ≤ 5)) = true), eInt]
          refine Mir.use (e := e) ?_ h
          refine Mir.condT rfl ?_
          refine Mir.skip ?_
          refine Mir.toK ?_
          refine Mir.seqK ?_
          refine Mir.join (fun v365 : Unit => [.d (.int .i64 a0), U, U, .d (.int .i64 4), U, U, U, U, U, U, U, U, U, U, U, U, U, U, U, U, U, U, U, U, U, U]) (fun v365 : Unit => ⟨[], []⟩) (fun _ => rfl) ?_ ?_
          · refine Mir.block ?_
            refine Mir.seqK ?_
            refine Mir.bind fun y366 hy477 => ?_
            refine Mir.region fun e h => ?_
            simp only [↓reduceIte, reduceCtorEq, nA, nS, nM, nE, nL, nT, nB, iT, iN, iE, and_self, SR, SV, eInt]
            refine SpecS.by (r42_codes_spec hy477) (by simp only [↓reduceIte, reduceCtorEq, nA, nE, nL, and_self, and_true, true_and, SL, eInt]) ?_
            simp only [↓reduceIte, reduceCtorEq, nA, nS, nM, nE, nL, nT, nB, iT, iN, iE, and_self, SR, SV, eInt]
            refine Mir.use (e := e) ?_ h
            refine Mir.seqK ?_
            refine Mir.region fun e h => ?_
            simp only [↓reduceIte, reduceCtorEq, nA, nS, nM, nE, nL, nT, nB, iT, iN, iE, and_self, SR, SV, eInt]
            refine Mir.use (e := e) ?_ h
            refine Mir.block ?_
            refine Mir.guard fun qg501 => ?_
            refine Mir.range (fun (i378 : Nat) (v379 : Unit) => [.d (.int .i64 a0), U, U, .d (.int .i64 4), .d (.list (List.map (eInt .i64) y366)), .d (.int .i64 (i378 : Int)), U, U, U, U, U, U, U, U, U, U, U, U, U, U, U, U, U, U, U, U]) (fun (i378 : Nat) (v379 : Unit) => ⟨[], []⟩) qg501 (fun _ _ => rfl) (by simp only [↓reduceIte, reduceCtorEq, nA, nE, nL, and_self, and_true, true_and, SL, eInt, (nr rfl : ((0 : Nat) : Int) = 0)]) (by simp only [↓reduceIte, reduceCtorEq, nA, nE, nL, and_self, and_true, true_and, SL, eInt, (nr rfl : ((0 : Nat) : Int) = 0)]) ?_ ?_
            · intro i378 e380 v379 qr499
              refine Mir.seqK ?_
              refine Mir.seqK ?_
              refine Mir.region fun e h => ?_
              simp only [↓reduceIte, reduceCtorEq, nA, nS, nM, nE, nL, nT, nB, iT, iN, iE, and_self, SR, SV, und_98, qr499, eInt]
              refine Mir.use (e := e) ?_ h
              refine Mir.condT rfl ?_
              refine Mir.skip ?_
              refine Mir.toK ?_
              refine Mir.seqK ?_
              refine Mir.block ?_
              refine Mir.seqK ?_
              refine Mir.region fun e h => ?_
              simp only [↓reduceIte, reduceCtorEq, nA, nS, nM, nE, nL, nT, nB, iT, iN, iE, and_self, SR, SV, und_98, sz_2, qr499, ag_2, eInt]
              refine Mir.use (e := e) ?_ h
              refine Mir.cond rfl (fun hb504 => ?_) (fun hb504 => ?_)
              · refine Mir.seqK ?_
                refine Mir.region fun e h => ?_
                simp only [↓reduceIte, reduceCtorEq, nA, nS, nM, nE, nL, nT, nB, iT, iN, iE, and_self, SR, SV, eInt]
                refine Mir.use (e := e) ?_ h
                refine Mir.ret fun e h => ?_
                cases h
                simp only [↓reduceIte, reduceCtorEq, nA, nE, nL, and_self, and_true, true_and, SL, eInt, Tryd.results108]
              · refine Mir.skip ?_
                refine Mir.toB ?_
                refine Mir.toK ?_
                refine Mir.region fun e h => ?_
                simp only [↓reduceIte, reduceCtorEq, nA, nS, nM, nE, nL, nT, nB, iT, iN, iE, and_self, SR, SV, eInt]
                cases h
                simp only [↓reduceIte, reduceCtorEq, nA, nE, nL, and_self, and_true, true_and, SL, eInt, Tryd.results108, qr499]
            · intro v379 qd500
              refine Mir.seqK ?_
              refine Mir.seqK ?_
              refine Mir.region fun e h => ?_
              simp only [↓reduceIte, reduceCtorEq, nA, nS, nM, nE, nL, nT, nB, iT, iN, iE, and_self, SR, SV, und_98, qd500, eInt]
              refine Mir.use (e := e) ?_ h
              refine Mir.condF rfl ?_
              refine Mir.exit fun e h => ?_
              cases h
              simp only [↓reduceIte, reduceCtorEq, nA, nE, nL, and_self, and_true, true_and, SL, eInt, Tryd.results108]
          · intro v365
            refine Mir.toK ?_
            refine Mir.region fun e h => ?_
            simp only [↓reduceIte, reduceCtorEq, nA, nS, nM, nE, nL, nT, nB, iT, iN, iE, and_self, SR, SV, (nr rfl : IntKind.i64.wrap (4 + 1) = 5), eInt]
            refine Mir.useN (e := e) ?_ h
            refine Mir.seqK ?_
            refine Mir.seqK ?_
            refine Mir.region fun e h => ?_
            simp only [↓reduceIte, reduceCtorEq, nA, nS, nM, nE, nL, nT, nB, iT, iN, iE, and_self, SR, SV, (nr rfl : (decide ((5 : Int) ≤ 5)) = true), eInt]
            refine Mir.use (e := e) ?_ h
            refine Mir.condT rfl ?_
            refine Mir.skip ?_
            refine Mir.toK ?_
            refine Mir.seqK ?_
            refine Mir.join (fun v396 : Unit => [.d (.int .i64 a0), U, U, .d (.int .i64 5), U, U, U, U, U, U, U, U, U, U, U, U, U, U, U, U, U, U, U, U, U, U]) (fun v396 : Unit => ⟨[], []⟩) (fun _ => rfl) ?_ ?_
            · refine Mir.block ?_
              refine Mir.seqK ?_
              refine Mir.bind fun y397 hy533 => ?_
              refine Mir.region fun e h => ?_
              simp only [↓reduceIte, reduceCtorEq, nA, nS, nM, nE, nL, nT, nB, iT, iN, iE, and_self, SR, SV, eInt]
              refine SpecS.by (r42_codes_spec hy533) (by simp only [↓reduceIte, reduceCtorEq, nA, nE, nL, and_self, and_true, true_and, SL, eInt]) ?_
              simp only [↓reduceIte, reduceCtorEq, nA, nS, nM, nE, nL, nT, nB, iT, iN, iE, and_self, SR, SV, eInt]
              refine Mir.use (e := e) ?_ h
              refine Mir.seqK ?_
              refine Mir.region fun e h => ?_
              simp only [↓reduceIte, reduceCtorEq, nA, nS, nM, nE, nL, nT, nB, iT, iN, iE, and_self, SR, SV, eInt]
              refine Mir.use (e := e) ?_ h
              refine Mir.block ?_
              refine Mir.guard fun qg557 => ?_
              refine Mir.range (fun (i409 : Nat) (v410 : Unit) => [.d (.int .i64 a0), U, U, .d (.int .i64 5), .d (.list (List.map (eInt .i64) y397)), .d (.int .i64 (i409 : Int)), U, U, U, U, U, U, U, U, U, U, U, U, U, U, U, U, U, U, U, U]) (fun (i409 : Nat) (v410 : Unit) => ⟨[], []⟩) qg557 (fun _ _ => rfl) (by simp only [↓reduceIte, reduceCtorEq, nA, nE, nL, and_self, and_true, true_and, SL, eInt, (nr rfl : ((0 : Nat) : Int) = 0)]) (by simp only [↓reduceIte, reduceCtorEq, nA, nE, nL, and_self, and_true, true_and, SL, eInt, (nr rfl : ((0 : Nat) : Int) = 0)]) ?_ ?_
              · intro i409 e411 v410 qr555
                refine Mir.seqK ?_
                refine Mir.seqK ?_
                refine Mir.region fun e h => ?_
                simp only [↓reduceIte, reduceCtorEq, nA, nS, nM, nE, nL, nT, nB, iT, iN, iE, and_self, SR, SV, und_98, qr555, eInt]
                refine Mir.use (e := e) ?_ h
                refine Mir.condT rfl ?_
                refine Mir.skip ?_
                refine Mir.toK ?_
                refine Mir.seqK ?_
                refine Mir.block ?_
                refine Mir.seqK ?_
                refine Mir.region fun e h => ?_
                simp only [↓reduceIte, reduceCtorEq, nA, nS, nM, nE, nL, nT, nB, iT, iN, iE, and_self, SR, SV, und_98, sz_2, qr555, ag_2, eInt]
                refine Mir.use (e := e) ?_ h
                refine Mir.cond rfl (fun hb560 => ?_) (fun hb560 => ?_)
                · refine Mir.seqK ?_
                  refine Mir.region fun e h => ?_
                  simp only [↓reduceIte, reduceCtorEq, nA, nS, nM, nE, nL, nT, nB, iT, iN, iE, and_self, SR, SV, eInt]
                  refine Mir.use (e := e) ?_ h
                  refine Mir.ret fun e h => ?_
                  cases h
                  simp only [↓reduceIte, reduceCtorEq, nA, nE, nL, and_self, and_true, true_and, SL, eInt, Tryd.results108]
                · refine Mir.skip ?_
                  refine Mir.toB ?_
                  refine Mir.toK ?_
                  refine Mir.region fun e h => ?_
                  simp only [↓reduceIte, reduceCtorEq, nA, nS, nM, nE, nL, nT, nB, iT, iN, iE, and_self, SR, SV, eInt]
                  cases h
                  simp only [↓reduceIte, reduceCtorEq, nA, nE, nL, and_self, and_true, true_and, SL, eInt, Tryd.results108, qr555]
              · intro v410 qd556
                refine Mir.seqK ?_
                refine Mir.seqK ?_
                refine Mir.region fun e h => ?_
                simp only [↓reduceIte, reduceCtorEq, nA, nS, nM, nE, nL, nT, nB, iT, iN, iE, and_self, SR, SV, und_98, qd556, eInt]
                refine Mir.use (e := e) ?_ h
                refine Mir.condF rfl ?_
                refine Mir.exit fun e h => ?_
                cases h
                simp only [↓reduceIte, reduceCtorEq, nA, nE, nL, and_self, and_true, true_and, SL, eInt, Tryd.results108]
            · intro v396
              refine Mir.toK ?_
              refine Mir.region fun e h => ?_
              simp only [↓reduceIte, reduceCtorEq, nA, nS, nM, nE, nL, nT, nB, iT, iN, iE, and_self, SR, SV, (nr rfl : IntKind.i64.wrap (5 + 1) = 6), eInt]
              refine Mir.useN (e := e) ?_ h
              refine Mir.seqK ?_
              refine Mir.seqK ?_
              refine Mir.region fun e h => ?_
              simp only [↓reduceIte, reduceCtorEq, nA, nS, nM, nE, nL, nT, nB, iT, iN, iE, and_self, SR, SV, (nr rfl : (decide ((6 : Int) ≤ 5)) = false), eInt]
              refine Mir.use (e := e) ?_ h
              refine Mir.condF rfl ?_
              refine Mir.exit fun e h => ?_
              cases h
              simp only [↓reduceIte, reduceCtorEq, nA, nE, nL, and_self, and_true, true_and, SL, eInt, Tryd.results108]
  · intro v256
    refine Mir.toK ?_
    refine Mir.seqK ?_
    refine Mir.region fun e h => ?_
    simp only [↓reduceIte, reduceCtorEq, nA, nS, nM, nE, nL, nT, nB, iT, iN, iE, and_self, SR, SV, eInt]
    refine Mir.use (e := e) ?_ h
    refine Mir.ret fun e h => ?_
    cases h
    simp only [↓reduceIte, reduceCtorEq, nA, nE, nL, and_self, and_true, true_and, SL, eInt, Tryd.results108]

def r42_class (a0 : ApiWord) : Option Int :=
  if (a0.Letter == 71) = true then
    bindO (r42_Group a0.Value) fun (y102 : Int) =>
    some y102
  else
    some (IntKind.i64.wrap (10 + (IntKind.i64.wrap a0.Letter)))
theorem r42_class_spec {a0 : ApiWord} {y : Int} (h : r42_class a0 = some y) : Spec gP 106 [.agg [.d (.int .u8 a0.Letter), .d (.int .i64 a0.Value)]] (.d (.int .i64 y)) := by
  refine spec_mir Tryd.func106 rfl (by kernel_rfl) (by kernel_rfl) (fun y : Int => .d (.int .i64 y)) ?_ h
  unfold r42_class
  simp only [List.replicate, List.length, nS, nA, Tryd.ntmps106, SV]
  refine Mir.seqK ?_
  refine Mir.region fun e h => ?_
  simp only [↓reduceIte, reduceCtorEq, nA, nS, nM, nE, nL, nT, nB, iT, iN, iE, and_self, SR, SV]
  refine Mir.use (e := e) ?_ h
  refine Mir.seqK ?_
  refine Mir.seqK ?_
  refine Mir.region fun e h => ?_
  simp only [↓reduceIte, reduceCtorEq, nA, nS, nM, nE, nL, nT, nB, iT, iN, iE, and_self, SR, SV, fld_38_0, sz_5, ag_5]
  refine Mir.use (e := e) ?_ h
  refine Mir.cond rfl (fun hb3 => ?_) (fun hb3 => ?_)
  · refine Mir.seqK ?_
    refine Mir.bind fun y102 hy4 => ?_
    refine Mir.region fun e h => ?_
    simp only [↓reduceIte, reduceCtorEq, nA, nS, nM, nE, nL, nT, nB, iT, iN, iE, and_self, SR, SV, fld_38_1, sz_2, ag_2]
    refine SpecS.by (r42_Group_spec hy4) (by simp only [↓reduceIte, reduceCtorEq, nA, nE, nL, and_self, and_true, true_and, SL]) ?_
    simp only [↓reduceIte, reduceCtorEq, nA, nS, nM, nE, nL, nT, nB, iT, iN, iE, and_self, SR, SV]
    refine Mir.use (e := e) ?_ h
    refine Mir.ret fun e h => ?_
    cases h
    simp only [↓reduceIte, reduceCtorEq, nA, nE, nL, and_self, and_true, true_and, SL, Tryd.results106]
  · refine Mir.skip ?_
    refine Mir.toK ?_
    refine Mir.seqK ?_
    refine Mir.region fun e h => ?_
    simp only [↓reduceIte, reduceCtorEq, nA, nS, nM, nE, nL, nT, nB, iT, iN, iE, and_self, SR, SV, fld_38_0, sz_5, ag_5, und_5, und_3]
    refine Mir.use (e := e) ?_ h
    refine Mir.ret fun e h => ?_
    cases h
    simp only [↓reduceIte, reduceCtorEq, nA, nE, nL, and_self, and_true, true_and, SL, Tryd.results106]

def r42_whole (a0 : ApiWord) : Option Bool :=
  if (a0.Letter == 70) = true then
    some (decide (a0.Value ≥ 0))
  else
    bindO (if (a0.Letter == 84) = true then
          some (a0.Letter == 84)
        else
          some (a0.Letter == 72)) fun (v103 : Bool) =>
    if v103 = true then
      some ((decide (a0.Value ≥ 0)) && ((Int.tmod a0.Value 1000) == 0))
    else
      some true
theorem r42_whole_spec {a0 : ApiWord} {y : Bool} (h : r42_whole a0 = some y) : Spec gP 107 [.agg [.d (.int .u8 a0.Letter), .d (.int .i64 a0.Value)]] (.d (.bool y)) := by
  refine spec_mir Tryd.func107 rfl (by kernel_rfl) (by kernel_rfl) (fun y : Bool => .d (.bool y)) ?_ h
  unfold r42_whole
  simp only [List.replicate, List.length, nS, nA, Tryd.ntmps107, SV]
  refine Mir.seqK ?_
  refine Mir.region fun e h => ?_
  simp only [↓reduceIte, reduceCtorEq, nA, nS, nM, nE, nL, nT, nB, iT, iN, iE, and_self, SR, SV]
  refine Mir.use (e := e) ?_ h
  refine Mir.seqK ?_
  refine Mir.seqK ?_
  refine Mir.region fun e h => ?_
  simp only [↓reduceIte, reduceCtorEq, nA, nS, nM, nE, nL, nT, nB, iT, iN, iE, and_self, SR, SV, fld_38_0, sz_5, ag_5]
  refine Mir.use (e := e) ?_ h
  refine Mir.block ?_
  refine Mir.seqK ?_
  refine Mir.region fun e h => ?_
  simp only [↓reduceIte, reduceCtorEq, nA, nS, nM, nE, nL, nT, nB, iT, iN, iE, and_self, SR, SV]
  refine Mir.use (e := e) ?_ h
  refine Mir.cond rfl (fun hb11 => ?_) (fun hb11 => ?_)
  · refine Mir.seqK ?_
    refine Mir.region fun e h => ?_
    simp only [↓reduceIte, reduceCtorEq, nA, nS, nM, nE, nL, nT, nB, iT, iN, iE, and_self, SR, SV, fld_38_1, sz_2, ag_2]
    refine Mir.use (e := e) ?_ h
    refine Mir.ret fun e h => ?_
    cases h
    simp only [↓reduceIte, reduceCtorEq, nA, nE, nL, and_self, and_true, true_and, SL, Tryd.results107]
  · refine Mir.seqK ?_
    refine Mir.seqK ?_
    refine Mir.region fun e h => ?_
    simp only [↓reduceIte, reduceCtorEq, nA, nS, nM, nE, nL, nT, nB, iT, iN, iE, and_self, SR, SV]
    refine Mir.use (e := e) ?_ h
    refine Mir.joinO (fun v103 : Bool => [U, .ptr 0 0, U, U, U, U, U, U, U, U, .d (.bool v103), U, U, U, U, U, U, U, U, U, U, U]) (fun v103 : Bool => ⟨[[.d (.int .u8 a0.Letter), .d (.int .i64 a0.Value)]], []⟩) (fun _ => rfl) ?_ ?_
    · refine Mir.cond rfl (fun hb13 => ?_) (fun hb13 => ?_)
      · refine Mir.skip fun e h => ?_
        cases h
        simp only [↓reduceIte, reduceCtorEq, nA, nE, nL, and_self, and_true, true_and, SL, Tryd.results107]
      · refine Mir.region fun e h => ?_
        simp only [↓reduceIte, reduceCtorEq, nA, nS, nM, nE, nL, nT, nB, iT, iN, iE, and_self, SR, SV]
        cases h
        simp only [↓reduceIte, reduceCtorEq, nA, nE, nL, and_self, and_true, true_and, SL, Tryd.results107]
    · intro v103
      refine Mir.toK ?_
      refine Mir.cond rfl (fun hb16 => ?_) (fun hb16 => ?_)
      · refine Mir.seqK ?_
        refine Mir.joinV [U, U, .d (.bool ((decide (a0.Value ≥ 0)) && ((Int.tmod a0.Value 1000) == 0))), U, U, U, U, U, U, U, U, U, U, U, U, U, U, U, U, U, U, U] ⟨[[.d (.int .u8 a0.Letter), .d (.int .i64 a0.Value)]], []⟩ rfl ?_ ?_
        · refine SWs.region ?_
          rcases Bool.eq_false_or_eq_true (decide (a0.Value ≥ 0)) with hb17 | hb17
          · simp only [↓reduceIte, reduceCtorEq, nA, nS, nM, nE, nL, nT, nB, iT, iN, iE, and_self, SR, SV, SL, Bool.true_and, Bool.false_and, Bool.true_or, Bool.false_or, Bool.or_true, Bool.or_false, Bool.and_true, Bool.and_false, Bool.not_true, Bool.not_false, fld_38_1, sz_2, ag_2, hb17]
          · simp only [↓reduceIte, reduceCtorEq, nA, nS, nM, nE, nL, nT, nB, iT, iN, iE, and_self, SR, SV, SL, Bool.true_and, Bool.false_and, Bool.true_or, Bool.false_or, Bool.or_true, Bool.or_false, Bool.and_true, Bool.and_false, Bool.not_true, Bool.not_false, fld_38_1, sz_2, ag_2, hb17]
        · refine Mir.toK ?_
          refine Mir.ret fun e h => ?_
          cases h
          simp only [↓reduceIte, reduceCtorEq, nA, nE, nL, and_self, and_true, true_and, SL, Tryd.results107]
      · refine Mir.skip ?_
        refine Mir.toB ?_
        refine Mir.toK ?_
        refine Mir.seqK ?_
        refine Mir.region fun e h => ?_
        simp only [↓reduceIte, reduceCtorEq, nA, nS, nM, nE, nL, nT, nB, iT, iN, iE, and_self, SR, SV]
        refine Mir.use (e := e) ?_ h
        refine Mir.ret fun e h => ?_
        cases h
        simp only [↓reduceIte, reduceCtorEq, nA, nE, nL, and_self, and_true, true_and, SL, Tryd.results107]

def r42_Check (a0 : ApiBlock) : Option Int :=
  bindX (guardO (okIdx a0.Words) (
      rangeX (fun (i356 : Nat) (e358 : ApiWord) (v357 : Unit) =>
        bindX (bindO (r42_class e358) fun (y381 : Int) =>
            bindO (if (y381 == 0) = true then
                  some true
                else
                  bindO (r42_whole e358) fun (y382 : Bool) =>
                  some (!y382)) fun (v383 : Bool) =>
            if v383 = true then
              some (.ret (.ret (.ret 1)))
            else
              loopX (fun (v397 : Int) =>
                if (decide (v397 < (i356 : Int))) = true then
                  bindO (gt a0.Words v397) fun (e400 : ApiWord) =>
                  bindO (r42_class e400) fun (y401 : Int) =>
                  if (y401 == y381) = true then
                    some (.ret (.ret (.ret (.ret 1))))
                  else
                    some (.go (IntKind.i64.wrap (v397 + 1)))
                else
                  some (.ret (.go ()))) fuel 0) fun (v380 : Unit) =>
        some (.go ())) (fun (v357 : Unit) => some (.go ())) a0.Words 0 ())) fun (v251 : Unit) =>
  some 0
theorem r42_Check_spec {a0 : ApiBlock} {y : Int} (h : r42_Check a0 = some y) : Spec gP 90 [.agg [.d (.bool a0.Skip), .d (.list (List.map encApiWord a0.Words)), .d (.str a0.Comment)]] (.d (.int .i64 y)) := by
  refine spec_mir Tryd.func90 rfl (by kernel_rfl) (by kernel_rfl) (fun y : Int => .d (.int .i64 y)) ?_ h
  unfold r42_Check
  simp only [List.replicate, List.length, nS, nA, Tryd.ntmps90, SV]
  refine Mir.seqK ?_
  refine Mir.region fun e h => ?_
  simp only [↓reduceIte, reduceCtorEq, nA, nS, nM, nE, nL, nT, nB, iT, iN, iE, and_self, SR, SV, encApiWord]
  refine Mir.use (e := e) ?_ h
  refine Mir.seqK ?_
  refine Mir.seqK ?_
  refine Mir.region fun e h => ?_
  simp only [↓reduceIte, reduceCtorEq, nA, nS, nM, nE, nL, nT, nB, iT, iN, iE, and_self, SR, SV, encApiWord]
  refine Mir.use (e := e) ?_ h
  refine Mir.join (fun v251 : Unit => [U, U, U, U, U, U, U, U, U, U, U, U, U, U, U, U, U, U, U, U, U, U, U, U, U, U, U, U, U, U, U, U, U, U, U, U, U, U, U, U, U, U, U]) (fun v251 : Unit => ⟨[[.d (.bool a0.Skip), .d (.list (List.map encApiWord a0.Words)), .d (.str a0.Comment)]], []⟩) (fun _ => rfl) ?_ ?_
  · refine Mir.block ?_
    refine Mir.guard fun qg370 => ?_
    refine Mir.range (fun (i356 : Nat) (v357 : Unit) => [U, .ptr 0 0, U, .d (.int .i64 (i356 : Int)), U, U, U, U, U, U, U, U, U, U, U, U, U, U, U, U, U, U, U, U, U, U, U, U, U, U, U, U, U, U, U, U, U, U, U, U, U, U, U]) (fun (i356 : Nat) (v357 : Unit) => ⟨[[.d (.bool a0.Skip), .d (.list (List.map encApiWord a0.Words)), .d (.str a0.Comment)]], []⟩) qg370 (fun _ _ => rfl) (by simp only [↓reduceIte, reduceCtorEq, nA, nE, nL, and_self, and_true, true_and, SL, encApiWord, (nr rfl : ((0 : Nat) : Int) = 0)]) (by simp only [↓reduceIte, reduceCtorEq, nA, nE, nL, and_self, and_true, true_and, SL, encApiWord, (nr rfl : ((0 : Nat) : Int) = 0)]) ?_ ?_
    · intro i356 e358 v357 qr368
      refine Mir.seqK ?_
      refine Mir.seqK ?_
      refine Mir.region fun e h => ?_
      simp only [↓reduceIte, reduceCtorEq, nA, nS, nM, nE, nL, nT, nB, iT, iN, iE, and_self, SR, SV, fld_42_1, sz_40, ag_40, und_40, qr368, encApiWord]
      refine Mir.use (e := e) ?_ h
      refine Mir.condT rfl ?_
      refine Mir.skip ?_
      refine Mir.toK ?_
      refine Mir.seqK ?_
      refine Mir.join (fun v380 : Unit => [U, .ptr 0 0, U, .d (.int .i64 (i356 : Int)), U, U, U, U, U, U, U, U, U, U, U, U, U, U, U, U, U, U, U, U, U, U, U, U, U, U, U, U, U, U, U, U, U, U, U, U, U, U, U]) (fun v380 : Unit => ⟨[[.d (.bool a0.Skip), .d (.list (List.map encApiWord a0.Words)), .d (.str a0.Comment)]], []⟩) (fun _ => rfl) ?_ ?_
      · refine Mir.block ?_
        refine Mir.seqK ?_
        refine Mir.bind fun y381 hy403 => ?_
        refine Mir.region fun e h => ?_
        simp only [↓reduceIte, reduceCtorEq, nA, nS, nM, nE, nL, nT, nB, iT, iN, iE, and_self, SR, SV, fld_42_1, sz_40, ag_40, und_40, sz_38, qr368, ag_38, encApiWord]
        refine SpecS.by (r42_class_spec hy403) (by simp only [↓reduceIte, reduceCtorEq, nA, nE, nL, and_self, and_true, true_and, SL, encApiWord]) ?_
        simp only [↓reduceIte, reduceCtorEq, nA, nS, nM, nE, nL, nT, nB, iT, iN, iE, and_self, SR, SV, encApiWord]
        refine Mir.use (e := e) ?_ h
        refine Mir.seqK ?_
        refine Mir.seqK ?_
        refine Mir.joinO (fun v383 : Bool => [U, .ptr 0 0, U, .d (.int .i64 (i356 : Int)), .d (.int .i64 y381), U, U, U, U, U, U, U, U, U, U, U, U, U, U, U, U, U, U, U, U, U, U, U, U, .d (.bool v383), U, U, U, U, U, U, U, U, U, U, U, U, U]) (fun v383 : Bool => ⟨[[.d (.bool a0.Skip), .d (.list (List.map encApiWord a0.Words)), .d (.str a0.Comment)]], []⟩) (fun _ => rfl) ?_ ?_
        · refine Mir.ite (fun hb404 => ?_) (fun hb404 => ?_)
          · refine Mir.region fun e h => ?_
            simp only [↓reduceIte, reduceCtorEq, nA, nS, nM, nE, nL, nT, nB, iT, iN, iE, and_self, SR, SV, encApiWord, hb404]
            cases h
            simp only [↓reduceIte, reduceCtorEq, nA, nE, nL, and_self, and_true, true_and, SL, encApiWord, hb404]
          · refine Mir.bind fun y382 hy405 => ?_
            refine Mir.region fun e h => ?_
            simp only [↓reduceIte, reduceCtorEq, nA, nS, nM, nE, nL, nT, nB, iT, iN, iE, and_self, SR, SV, fld_42_1, sz_40, ag_40, und_40, sz_38, qr368, ag_38, encApiWord, hb404]
            refine SpecS.by (r42_whole_spec hy405) (by simp only [↓reduceIte, reduceCtorEq, nA, nE, nL, and_self, and_true, true_and, SL, encApiWord, hb404]) ?_
            simp only [↓reduceIte, reduceCtorEq, nA, nS, nM, nE, nL, nT, nB, iT, iN, iE, and_self, SR, SV, encApiWord, hb404]
            cases h
            simp only [↓reduceIte, reduceCtorEq, nA, nE, nL, and_self, and_true, true_and, SL, encApiWord, hb404]
        · intro v383
          refine Mir.toK ?_
          refine Mir.cond rfl (fun hb407 => ?_) (fun hb407 => ?_)
          · refine Mir.seqK ?_
            refine Mir.region fun e h => ?_
            simp only [↓reduceIte, reduceCtorEq, nA, nS, nM, nE, nL, nT, nB, iT, iN, iE, and_self, SR, SV, encApiWord]
            refine Mir.use (e := e) ?_ h
            refine Mir.ret fun e h => ?_
            cases h
            simp only [↓reduceIte, reduceCtorEq, nA, nE, nL, and_self, and_true, true_and, SL, encApiWord, Tryd.results90]
          · refine Mir.skip ?_
            refine Mir.toK ?_
            refine Mir.seqK ?_
            refine Mir.region fun e h => ?_
            simp only [↓reduceIte, reduceCtorEq, nA, nS, nM, nE, nL, nT, nB, iT, iN, iE, and_self, SR, SV, encApiWord]
            refine Mir.use (e := e) ?_ h
            refine Mir.block ?_
            refine Mir.loop (fun v397 : Int => [U, .ptr 0 0, U, .d (.int .i64 (i356 : Int)), .d (.int .i64 y381), .d (.int .i64 v397), U, U, U, U, U, U, U, U, U, U, U, U, U, U, U, U, U, U, U, U, U, U, U, U, U, U, U, U, U, U, U, U, U, U, U, U, U]) (fun v397 : Int => ⟨[[.d (.bool a0.Skip), .d (.list (List.map encApiWord a0.Words)), .d (.str a0.Comment)]], []⟩) (fun _ => rfl) (by simp only [↓reduceIte, reduceCtorEq, nA, nE, nL, and_self, and_true, true_and, SL, encApiWord]) (by simp only [↓reduceIte, reduceCtorEq, nA, nE, nL, and_self, and_true, true_and, SL, encApiWord]) fun v397 => ?_
            refine Mir.seqK ?_
            refine Mir.seqK ?_
            refine Mir.region fun e h => ?_
            simp only [↓reduceIte, reduceCtorEq, nA, nS, nM, nE, nL, nT, nB, iT, iN, iE, and_self, SR, SV, encApiWord]
            refine Mir.use (e := e) ?_ h
            refine Mir.cond rfl (fun hb427 => ?_) (fun hb427 => ?_)
            · refine Mir.skip ?_
              refine Mir.toK ?_
              refine Mir.seqK ?_
              refine Mir.block ?_
              refine Mir.seqK ?_
              refine Mir.bind fun e400 q431 => ?_
              replace q431 := gt_ok q431
              refine Mir.bind fun y401 hy432 => ?_
              refine Mir.region fun e h => ?_
              simp only [↓reduceIte, reduceCtorEq, nA, nS, nM, nE, nL, nT, nB, iT, iN, iE, and_self, SR, SV, fld_42_1, sz_40, ag_40, und_40, sz_38, q431, ag_38, encApiWord]
              refine SpecS.by (r42_class_spec hy432) (by simp only [↓reduceIte, reduceCtorEq, nA, nE, nL, and_self, and_true, true_and, SL, encApiWord]) ?_
              simp only [↓reduceIte, reduceCtorEq, nA, nS, nM, nE, nL, nT, nB, iT, iN, iE, and_self, SR, SV, encApiWord]
              refine Mir.use (e := e) ?_ h
              refine Mir.cond rfl (fun hb434 => ?_) (fun hb434 => ?_)
              · refine Mir.seqK ?_
                refine Mir.region fun e h => ?_
                simp only [↓reduceIte, reduceCtorEq, nA, nS, nM, nE, nL, nT, nB, iT, iN, iE, and_self, SR, SV, encApiWord]
                refine Mir.use (e := e) ?_ h
                refine Mir.ret fun e h => ?_
                cases h
                simp only [↓reduceIte, reduceCtorEq, nA, nE, nL, and_self, and_true, true_and, SL, encApiWord, Tryd.results90]
              · refine Mir.skip ?_
                refine Mir.toB ?_
                refine Mir.toK ?_
                refine Mir.region fun e h => ?_
                simp only [↓reduceIte, reduceCtorEq, nA, nS, nM, nE, nL, nT, nB, iT, iN, iE, and_self, SR, SV, encApiWord]
                cases h
                simp only [↓reduceIte, reduceCtorEq, nA, nE, nL, and_self, and_true, true_and, SL, encApiWord, Tryd.results90]
            · refine Mir.exit fun e h => ?_
              cases h
              simp only [↓reduceIte, reduceCtorEq, nA, nE, nL, and_self, and_true, true_and, SL, encApiWord, Tryd.results90]
      · intro v380
        refine Mir.toK ?_
        refine Mir.region fun e h => ?_
        simp only [↓reduceIte, reduceCtorEq, nA, nS, nM, nE, nL, nT, nB, iT, iN, iE, and_self, SR, SV, encApiWord]
        cases h
        simp only [↓reduceIte, reduceCtorEq, nA, nE, nL, and_self, and_true, true_and, SL, encApiWord, Tryd.results90, qr368]
    · intro v357 qd369
      refine Mir.seqK ?_
      refine Mir.seqK ?_
      refine Mir.region fun e h => ?_
      simp only [↓reduceIte, reduceCtorEq, nA, nS, nM, nE, nL, nT, nB, iT, iN, iE, and_self, SR, SV, fld_42_1, sz_40, ag_40, und_40, qd369, encApiWord]
      refine Mir.use (e := e) ?_ h
      refine Mir.condF rfl ?_
      refine Mir.exit fun e h => ?_
      cases h
      simp only [↓reduceIte, reduceCtorEq, nA, nE, nL, and_self, and_true, true_and, SL, encApiWord, Tryd.results90]
  · intro v251
    refine Mir.toK ?_
    refine Mir.seqK ?_
    refine Mir.region fun e h => ?_
    simp only [↓reduceIte, reduceCtorEq, nA, nS, nM, nE, nL, nT, nB, iT, iN, iE, and_self, SR, SV, encApiWord]
    refine Mir.use (e := e) ?_ h
    refine Mir.ret fun e h => ?_
    cases h
    simp only [↓reduceIte, reduceCtorEq, nA, nE, nL, and_self, and_true, true_and, SL, encApiWord, Tryd.results90]

def r42_one (a0 : R42State) (a1 : ApiWord) : Option R42State :=
  bindO (if (a1.Letter == 70) = true then
        some (R42State.mk a0.Motion a0.Distance a0.Work a0.Length a0.Return a1.Value a0.Tool a0.Offset)
      else
        if (a1.Letter == 84) = true then
          some (R42State.mk a0.Motion a0.Distance a0.Work a0.Length a0.Return a0.Feed a1.Value a0.Offset)
        else
          if (a1.Letter == 72) = true then
            some (R42State.mk a0.Motion a0.Distance a0.Work a0.Length a0.Return a0.Feed a0.Tool a1.Value)
          else
            if (a1.Letter == 71) = true then
              bindO (r42_Group a1.Value) fun (y103 : Int) =>
              if (y103 == 1) = true then
                some (R42State.mk a1.Value a0.Distance a0.Work a0.Length a0.Return a0.Feed a0.Tool a0.Offset)
              else
                if (y103 == 2) = true then
                  some (R42State.mk a0.Motion a1.Value a0.Work a0.Length a0.Return a0.Feed a0.Tool a0.Offset)
                else
                  if (y103 == 3) = true then
                    some (R42State.mk a0.Motion a0.Distance a1.Value a0.Length a0.Return a0.Feed a0.Tool a0.Offset)
                  else
                    if (y103 == 4) = true then
                      some (R42State.mk a0.Motion a0.Distance a0.Work a1.Value a0.Return a0.Feed a0.Tool a0.Offset)
                    else
                      if (y103 == 5) = true then
                        some (R42State.mk a0.Motion a0.Distance a0.Work a0.Length a1.Value a0.Feed a0.Tool a0.Offset)
                      else
                        some a0
            else
              some a0) fun (v102 : R42State) =>
  some v102
theorem r42_one_spec {a0 : R42State} {a1 : ApiWord} {y : R42State} (h : r42_one a0 a1 = some y) : Spec gP 91 [.agg [.d (.int .i64 a0.Motion), .d (.int .i64 a0.Distance), .d (.int .i64 a0.Work), .d (.int .i64 a0.Length), .d (.int .i64 a0.Return), .d (.int .i64 a0.Feed), .d (.int .i64 a0.Tool), .d (.int .i64 a0.Offset)], .agg [.d (.int .u8 a1.Letter), .d (.int .i64 a1.Value)]] (.agg [.d (.int .i64 y.Motion), .d (.int .i64 y.Distance), .d (.int .i64 y.Work), .d (.int .i64 y.Length), .d (.int .i64 y.Return), .d (.int .i64 y.Feed), .d (.int .i64 y.Tool), .d (.int .i64 y.Offset)]) := by
  refine spec_mir Tryd.func91 rfl (by kernel_rfl) (by kernel_rfl) (fun y : R42State => .agg [.d (.int .i64 y.Motion), .d (.int .i64 y.Distance), .d (.int .i64 y.Work), .d (.int .i64 y.Length), .d (.int .i64 y.Return), .d (.int .i64 y.Feed), .d (.int .i64 y.Tool), .d (.int .i64 y.Offset)]) ?_ h
  unfold r42_one
  simp only [List.replicate, List.length, nS, nA, Tryd.ntmps91, SV]
  refine Mir.seqK ?_
  refine Mir.region fun e h => ?_
  simp only [↓reduceIte, reduceCtorEq, nA, nS, nM, nE, nL, nT, nB, iT, iN, iE, and_self, SR, SV, zero_78]
  refine Mir.use (e := e) ?_ h
  refine Mir.seqK ?_
  refine Mir.seqK ?_
  refine Mir.region fun e h => ?_
  simp only [↓reduceIte, reduceCtorEq, nA, nS, nM, nE, nL, nT, nB, iT, iN, iE, and_self, SR, SV, fld_38_0, sz_5, ag_5]
  refine Mir.use (e := e) ?_ h
  refine Mir.joinO (fun v102 : R42State => [U, U, .ptr 0 0, U, .ptr 2 0, U, U, U, U, U, U, U, U, U, U, U, U, U, U, U, U, U, U, U, U, U, U, U, U, U, U, U, U, U, U, U, U, U, U, U, U, U, U, U, U, U, U, U, U, U, U, U, U]) (fun v102 : R42State => ⟨[[.d (.int .i64 v102.Motion), .d (.int .i64 v102.Distance), .d (.int .i64 v102.Work), .d (.int .i64 v102.Length), .d (.int .i64 v102.Return), .d (.int .i64 v102.Feed), .d (.int .i64 v102.Tool), .d (.int .i64 v102.Offset)], [.d (.int .u8 a1.Letter), .d (.int .i64 a1.Value)], [.d (.int .i64 0), .d (.int .i64 0), .d (.int .i64 0), .d (.int .i64 0), .d (.int .i64 0), .d (.int .i64 0), .d (.int .i64 0), .d (.int .i64 0)]], []⟩) (fun _ => rfl) ?_ ?_
  · refine Mir.block ?_
    refine Mir.seqK ?_
    refine Mir.region fun e h => ?_
    simp only [↓reduceIte, reduceCtorEq, nA, nS, nM, nE, nL, nT, nB, iT, iN, iE, and_self, SR, SV]
    refine Mir.use (e := e) ?_ h
    refine Mir.cond rfl (fun hb11 => ?_) (fun hb11 => ?_)
    · refine Mir.region fun e h => ?_
      simp only [↓reduceIte, reduceCtorEq, nA, nS, nM, nE, nL, nT, nB, iT, iN, iE, and_self, SR, SV, fld_38_1, sz_2, ag_2, fld_78_5]
      cases h
      simp only [↓reduceIte, reduceCtorEq, nA, nE, nL, and_self, and_true, true_and, SL, Tryd.results91, ag_78, sz_78]
    · refine Mir.seqK ?_
      refine Mir.region fun e h => ?_
      simp only [↓reduceIte, reduceCtorEq, nA, nS, nM, nE, nL, nT, nB, iT, iN, iE, and_self, SR, SV]
      refine Mir.use (e := e) ?_ h
      refine Mir.cond rfl (fun hb12 => ?_) (fun hb12 => ?_)
      · refine Mir.region fun e h => ?_
        simp only [↓reduceIte, reduceCtorEq, nA, nS, nM, nE, nL, nT, nB, iT, iN, iE, and_self, SR, SV, fld_38_1, sz_2, ag_2, fld_78_6]
        cases h
        simp only [↓reduceIte, reduceCtorEq, nA, nE, nL, and_self, and_true, true_and, SL, Tryd.results91, ag_78, sz_78]
      · refine Mir.seqK ?_
        refine Mir.region fun e h => ?_
        simp only [↓reduceIte, reduceCtorEq, nA, nS, nM, nE, nL, nT, nB, iT, iN, iE, and_self, SR, SV]
        refine Mir.use (e := e) ?_ h
        refine Mir.cond rfl (fun hb13 => ?_) (fun hb13 => ?_)
        · refine Mir.region fun e h => ?_
          simp only [↓reduceIte, reduceCtorEq, nA, nS, nM, nE, nL, nT, nB, iT, iN, iE, and_self, SR, SV, fld_38_1, sz_2, ag_2, fld_78_7]
          cases h
          simp only [↓reduceIte, reduceCtorEq, nA, nE, nL, and_self, and_true, true_and, SL, Tryd.results91, ag_78, sz_78]
        · refine Mir.seqK ?_
          refine Mir.region fun e h => ?_
          simp only [↓reduceIte, reduceCtorEq, nA, nS, nM, nE, nL, nT, nB, iT, iN, iE, and_self, SR, SV]
          refine Mir.use (e := e) ?_ h
          refine Mir.cond rfl (fun hb14 => ?_) (fun hb14 => ?_)
          · refine Mir.seqK ?_
            refine Mir.bind fun y103 hy15 => ?_
            refine Mir.region fun e h => ?_
            simp only [↓reduceIte, reduceCtorEq, nA, nS, nM, nE, nL, nT, nB, iT, iN, iE, and_self, SR, SV, fld_38_1, sz_2, ag_2]
            refine SpecS.by (r42_Group_spec hy15) (by simp only [↓reduceIte, reduceCtorEq, nA, nE, nL, and_self, and_true, true_and, SL]) ?_
            simp only [↓reduceIte, reduceCtorEq, nA, nS, nM, nE, nL, nT, nB, iT, iN, iE, and_self, SR, SV]
            refine Mir.use (e := e) ?_ h
            refine Mir.block ?_
            refine Mir.seqK ?_
            refine Mir.region fun e h => ?_
            simp only [↓reduceIte, reduceCtorEq, nA, nS, nM, nE, nL, nT, nB, iT, iN, iE, and_self, SR, SV]
            refine Mir.use (e := e) ?_ h
            refine Mir.cond rfl (fun hb16 => ?_) (fun hb16 => ?_)
            · refine Mir.region fun e h => ?_
              simp only [↓reduceIte, reduceCtorEq, nA, nS, nM, nE, nL, nT, nB, iT, iN, iE, and_self, SR, SV, fld_38_1, sz_2, ag_2, fld_78_0]
              cases h
              simp only [↓reduceIte, reduceCtorEq, nA, nE, nL, and_self, and_true, true_and, SL, Tryd.results91, ag_78, sz_78]
            · refine Mir.seqK ?_
              refine Mir.region fun e h => ?_
              simp only [↓reduceIte, reduceCtorEq, nA, nS, nM, nE, nL, nT, nB, iT, iN, iE, and_self, SR, SV]
              refine Mir.use (e := e) ?_ h
              refine Mir.cond rfl (fun hb17 => ?_) (fun hb17 => ?_)
              · refine Mir.region fun e h => ?_
                simp only [↓reduceIte, reduceCtorEq, nA, nS, nM, nE, nL, nT, nB, iT, iN, iE, and_self, SR, SV, fld_38_1, sz_2, ag_2, fld_78_1]
                cases h
                simp only [↓reduceIte, reduceCtorEq, nA, nE, nL, and_self, and_true, true_and, SL, Tryd.results91, ag_78, sz_78]
              · refine Mir.seqK ?_
                refine Mir.region fun e h => ?_
                simp only [↓reduceIte, reduceCtorEq, nA, nS, nM, nE, nL, nT, nB, iT, iN, iE, and_self, SR, SV]
                refine Mir.use (e := e) ?_ h
                refine Mir.cond rfl (fun hb18 => ?_) (fun hb18 => ?_)
                · refine Mir.region fun e h => ?_
                  simp only [↓reduceIte, reduceCtorEq, nA, nS, nM, nE, nL, nT, nB, iT, iN, iE, and_self, SR, SV, fld_38_1, sz_2, ag_2, fld_78_2]
                  cases h
                  simp only [↓reduceIte, reduceCtorEq, nA, nE, nL, and_self, and_true, true_and, SL, Tryd.results91, ag_78, sz_78]
                · refine Mir.seqK ?_
                  refine Mir.region fun e h => ?_
                  simp only [↓reduceIte, reduceCtorEq, nA, nS, nM, nE, nL, nT, nB, iT, iN, iE, and_self, SR, SV]
                  refine Mir.use (e := e) ?_ h
                  refine Mir.cond rfl (fun hb19 => ?_) (fun hb19 => ?_)
                  · refine Mir.region fun e h => ?_
                    simp only [↓reduceIte, reduceCtorEq, nA, nS, nM, nE, nL, nT, nB, iT, iN, iE, and_self, SR, SV, fld_38_1, sz_2, ag_2, fld_78_3]
                    cases h
                    simp only [↓reduceIte, reduceCtorEq, nA, nE, nL, and_self, and_true, true_and, SL, Tryd.results91, ag_78, sz_78]
                  · refine Mir.seqK ?_
                    refine Mir.region fun e h => ?_
                    simp only [↓reduceIte, reduceCtorEq, nA, nS, nM, nE, nL, nT, nB, iT, iN, iE, and_self, SR, SV]
                    refine Mir.use (e := e) ?_ h
                    refine Mir.cond rfl (fun hb20 => ?_) (fun hb20 => ?_)
                    · refine Mir.region fun e h => ?_
                      simp only [↓reduceIte, reduceCtorEq, nA, nS, nM, nE, nL, nT, nB, iT, iN, iE, and_self, SR, SV, fld_38_1, sz_2, ag_2, fld_78_4]
                      cases h
                      simp only [↓reduceIte, reduceCtorEq, nA, nE, nL, and_self, and_true, true_and, SL, Tryd.results91, ag_78, sz_78]
                    · refine Mir.skip fun e h => ?_
                      cases h
                      simp only [↓reduceIte, reduceCtorEq, nA, nE, nL, and_self, and_true, true_and, SL, Tryd.results91, ag_78, sz_78]
          · refine Mir.skip fun e h => ?_
            cases h
            simp only [↓reduceIte, reduceCtorEq, nA, nE, nL, and_self, and_true, true_and, SL, Tryd.results91, ag_78, sz_78]
  · intro v102
    refine Mir.toK ?_
    refine Mir.seqK ?_
    refine Mir.region fun e h => ?_
    simp only [↓reduceIte, reduceCtorEq, nA, nS, nM, nE, nL, nT, nB, iT, iN, iE, and_self, SR, SV, ag_78, sz_78]
    refine Mir.use (e := e) ?_ h
    refine Mir.ret fun e h => ?_
    cases h
    simp only [↓reduceIte, reduceCtorEq, nA, nE, nL, and_self, and_true, true_and, SL, Tryd.results91, ag_78, sz_78]

def r42_Apply (a0 : R42State) (a1 : ApiBlock) : Option (R42State × Int) :=
  bindO (r42_Check a1) fun (y101 : Int) =>
  if (y101 != 0) = true then
    some (R42State.mk 0 0 0 0 0 0 0 0, y101)
  else
    bindO (guardO (okIdx a1.Words) (
        rangeX (fun (i142 : Nat) (e144 : ApiWord) (v143 : R42State) =>
          bindO (r42_one v143 e144) fun (y146 : R42State) =>
          some (.go y146)) (fun (v143 : R42State) => some v143) a1.Words 0 a0)) fun (v124 : R42State) =>
    some (v124, 0)
theorem r42_Apply_spec {a0 : R42State} {a1 : ApiBlock} {y : R42State × Int} (h : r42_Apply a0 a1 = some y) : Spec gP 76 [.agg [.d (.int .i64 a0.Motion), .d (.int .i64 a0.Distance), .d (.int .i64 a0.Work), .d (.int .i64 a0.Length), .d (.int .i64 a0.Return), .d (.int .i64 a0.Feed), .d (.int .i64 a0.Tool), .d (.int .i64 a0.Offset)], .agg [.d (.bool a1.Skip), .d (.list (List.map encApiWord a1.Words)), .d (.str a1.Comment)]] (.tuple [.agg [.d (.int .i64 y.1.Motion), .d (.int .i64 y.1.Distance), .d (.int .i64 y.1.Work), .d (.int .i64 y.1.Length), .d (.int .i64 y.1.Return), .d (.int .i64 y.1.Feed), .d (.int .i64 y.1.Tool), .d (.int .i64 y.1.Offset)], .d (.int .i64 y.2)]) := by
  refine spec_mir Tryd.func76 rfl (by kernel_rfl) (by kernel_rfl) (fun y : R42State × Int => .tuple [.agg [.d (.int .i64 y.1.Motion), .d (.int .i64 y.1.Distance), .d (.int .i64 y.1.Work), .d (.int .i64 y.1.Length), .d (.int .i64 y.1.Return), .d (.int .i64 y.1.Feed), .d (.int .i64 y.1.Tool), .d (.int .i64 y.1.Offset)], .d (.int .i64 y.2)]) ?_ h
  unfold r42_Apply
  simp only [List.replicate, List.length, nS, nA, Tryd.ntmps76, SV]
  refine Mir.seqK ?_
  refine Mir.region fun e h => ?_
  simp only [↓reduceIte, reduceCtorEq, nA, nS, nM, nE, nL, nT, nB, iT, iN, iE, and_self, SR, SV, zero_78, encApiWord]
  refine Mir.use (e := e) ?_ h
  refine Mir.seqK ?_
  refine Mir.seqK ?_
  refine Mir.bind fun y101 hy1 => ?_
  refine Mir.region fun e h => ?_
  simp only [↓reduceIte, reduceCtorEq, nA, nS, nM, nE, nL, nT, nB, iT, iN, iE, and_self, SR, SV, ag_42, sz_42, encApiWord]
  refine SpecS.by (r42_Check_spec hy1) (by simp only [↓reduceIte, reduceCtorEq, nA, nE, nL, and_self, and_true, true_and, SL, encApiWord]) ?_
  simp only [↓reduceIte, reduceCtorEq, nA, nS, nM, nE, nL, nT, nB, iT, iN, iE, and_self, SR, SV, encApiWord]
  refine Mir.use (e := e) ?_ h
  refine Mir.seqK ?_
  refine Mir.region fun e h => ?_
  simp only [↓reduceIte, reduceCtorEq, nA, nS, nM, nE, nL, nT, nB, iT, iN, iE, and_self, SR, SV, encApiWord]
  refine Mir.use (e := e) ?_ h
  refine Mir.cond rfl (fun hb3 => ?_) (fun hb3 => ?_)
  · refine Mir.seqK ?_
    refine Mir.region fun e h => ?_
    simp only [↓reduceIte, reduceCtorEq, nA, nS, nM, nE, nL, nT, nB, iT, iN, iE, and_self, SR, SV, zero_78, pl_78, sz_78, encApiWord]
    refine Mir.use (e := e) ?_ h
    refine Mir.ret fun e h => ?_
    cases h
    simp only [↓reduceIte, reduceCtorEq, nA, nE, nL, and_self, and_true, true_and, SL, encApiWord, Tryd.results76, ag_78, sz_78]
  · refine Mir.skip ?_
    refine Mir.toK ?_
    refine Mir.seqK ?_
    refine Mir.seqK ?_
    refine Mir.region fun e h => ?_
    simp only [↓reduceIte, reduceCtorEq, nA, nS, nM, nE, nL, nT, nB, iT, iN, iE, and_self, SR, SV, encApiWord]
    refine Mir.use (e := e) ?_ h
    refine Mir.joinO (fun v124 : R42State => [U, U, .ptr 0 0, U, .ptr 2 0, U, U, U, U, U, U, U, U, U, U, U, U, U, U, U, U, U, U, U, U, U, U, U, U]) (fun v124 : R42State => ⟨[[.d (.int .i64 v124.Motion), .d (.int .i64 v124.Distance), .d (.int .i64 v124.Work), .d (.int .i64 v124.Length), .d (.int .i64 v124.Return), .d (.int .i64 v124.Feed), .d (.int .i64 v124.Tool), .d (.int .i64 v124.Offset)], [.d (.bool a1.Skip), .d (.list (List.map encApiWord a1.Words)), .d (.str a1.Comment)], [.d (.int .i64 0), .d (.int .i64 0), .d (.int .i64 0), .d (.int .i64 0), .d (.int .i64 0), .d (.int .i64 0), .d (.int .i64 0), .d (.int .i64 0)]], []⟩) (fun _ => rfl) ?_ ?_
    · refine Mir.block ?_
      refine Mir.guard fun qg47 => ?_
      refine Mir.range (fun (i142 : Nat) (v143 : R42State) => [U, U, .ptr 0 0, .ptr 1 0, .ptr 2 0, U, U, .d (.int .i64 (i142 : Int)), U, U, U, U, U, U, U, U, U, U, U, U, U, U, U, U, U, U, U, U, U]) (fun (i142 : Nat) (v143 : R42State) => ⟨[[.d (.int .i64 v143.Motion), .d (.int .i64 v143.Distance), .d (.int .i64 v143.Work), .d (.int .i64 v143.Length), .d (.int .i64 v143.Return), .d (.int .i64 v143.Feed), .d (.int .i64 v143.Tool), .d (.int .i64 v143.Offset)], [.d (.bool a1.Skip), .d (.list (List.map encApiWord a1.Words)), .d (.str a1.Comment)], [.d (.int .i64 0), .d (.int .i64 0), .d (.int .i64 0), .d (.int .i64 0), .d (.int .i64 0), .d (.int .i64 0), .d (.int .i64 0), .d (.int .i64 0)]], []⟩) qg47 (fun _ _ => rfl) (by simp only [↓reduceIte, reduceCtorEq, nA, nE, nL, and_self, and_true, true_and, SL, encApiWord, (nr rfl : ((0 : Nat) : Int) = 0)]) (by simp only [↓reduceIte, reduceCtorEq, nA, nE, nL, and_self, and_true, true_and, SL, encApiWord, (nr rfl : ((0 : Nat) : Int) = 0)]) ?_ ?_
      · intro i142 e144 v143 qr45
        refine Mir.seqK ?_
        refine Mir.seqK ?_
        refine Mir.region fun e h => ?_
        simp only [↓reduceIte, reduceCtorEq, nA, nS, nM, nE, nL, nT, nB, iT, iN, iE, and_self, SR, SV, fld_42_1, sz_40, ag_40, und_40, qr45, encApiWord]
        refine Mir.use (e := e) ?_ h
        refine Mir.condT rfl ?_
        refine Mir.skip ?_
        refine Mir.toK ?_
        refine Mir.seqK ?_
        refine Mir.block ?_
        refine Mir.bind fun y146 hy49 => ?_
        refine Mir.regionD [] (by kernel_rfl) fun e h => ?_
        simp only [↓reduceIte, reduceCtorEq, nA, nS, nM, nE, nL, nT, nB, iT, iN, iE, and_self, SR, SV, sepL_nil, sepL_cons, sepV_ne, sepV_d, sepV_i, true_and, Bool.and_self, ag_78, sz_78, fld_42_1, sz_40, ag_40, und_40, sz_38, qr45, ag_38, encApiWord]
        refine Spec.by (r42_one_spec hy49) (by simp only [↓reduceIte, reduceCtorEq, nA, nE, nL, and_self, and_true, true_and, SL, encApiWord]) ?_
        simp only [↓reduceIte, reduceCtorEq, nA, nS, nM, nE, nL, nT, nB, iT, iN, iE, and_self, SR, SV, sepL_nil, sepL_cons, sepV_ne, sepV_d, sepV_i, true_and, Bool.and_self, sz_78, encApiWord]
        refine Mir.use (e := e) ?_ h
        refine Mir.region fun e h => ?_
        simp only [↓reduceIte, reduceCtorEq, nA, nS, nM, nE, nL, nT, nB, iT, iN, iE, and_self, SR, SV, encApiWord]
        cases h
        simp only [↓reduceIte, reduceCtorEq, nA, nE, nL, and_self, and_true, true_and, SL, encApiWord, Tryd.results76, ag_78, sz_78, qr45]
      · intro v143 qd46
        refine Mir.seqK ?_
        refine Mir.seqK ?_
        refine Mir.region fun e h => ?_
        simp only [↓reduceIte, reduceCtorEq, nA, nS, nM, nE, nL, nT, nB, iT, iN, iE, and_self, SR, SV, fld_42_1, sz_40, ag_40, und_40, qd46, encApiWord]
        refine Mir.use (e := e) ?_ h
        refine Mir.condF rfl ?_
        refine Mir.exit fun e h => ?_
        cases h
        simp only [↓reduceIte, reduceCtorEq, nA, nE, nL, and_self, and_true, true_and, SL, encApiWord, Tryd.results76, ag_78, sz_78]
    · intro v124
      refine Mir.toK ?_
      refine Mir.seqK ?_
      refine Mir.region fun e h => ?_
      simp only [↓reduceIte, reduceCtorEq, nA, nS, nM, nE, nL, nT, nB, iT, iN, iE, and_self, SR, SV, ag_78, sz_78, encApiWord]
      refine Mir.use (e := e) ?_ h
      refine Mir.ret fun e h => ?_
      cases h
      simp only [↓reduceIte, reduceCtorEq, nA, nE, nL, and_self, and_true, true_and, SL, encApiWord, Tryd.results76, ag_78, sz_78]

def r42_All (a0 : R42State) (a1 : (List ApiBlock)) : Option (R42State × Int × Int) :=
  bindX (guardO (okIdx a1) (
      rangeX (fun (i141 : Nat) (e143 : ApiBlock) (v142 : R42State) =>
        bindO (r42_Apply v142 e143) fun (y145 : R42State × Int) =>
        if (y145.2 != 0) = true then
          some (.ret (.ret (R42State.mk 0 0 0 0 0 0 0 0, (i141 : Int), y145.2)))
        else
          some (.go y145.1)) (fun (v142 : R42State) => some (.go v142)) a1 0 a0)) fun (v123 : R42State) =>
  some (v123, 0, 0)
theorem r42_All_spec {a0 : R42State} {a1 : (List ApiBlock)} {y : R42State × Int × Int} (h : r42_All a0 a1 = some y) : Spec gP 58 [.agg [.d (.int .i64 a0.Motion), .d (.int .i64 a0.Distance), .d (.int .i64 a0.Work), .d (.int .i64 a0.Length), .d (.int .i64 a0.Return), .d (.int .i64 a0.Feed), .d (.int .i64 a0.Tool), .d (.int .i64 a0.Offset)], .d (.list (List.map encApiBlock a1))] (.tuple [.agg [.d (.int .i64 y.1.Motion), .d (.int .i64 y.1.Distance), .d (.int .i64 y.1.Work), .d (.int .i64 y.1.Length), .d (.int .i64 y.1.Return), .d (.int .i64 y.1.Feed), .d (.int .i64 y.1.Tool), .d (.int .i64 y.1.Offset)], .d (.int .i64 y.2.1), .d (.int .i64 y.2.2)]) := by
  refine spec_mir Tryd.func58 rfl (by kernel_rfl) (by kernel_rfl) (fun y : R42State × Int × Int => .tuple [.agg [.d (.int .i64 y.1.Motion), .d (.int .i64 y.1.Distance), .d (.int .i64 y.1.Work), .d (.int .i64 y.1.Length), .d (.int .i64 y.1.Return), .d (.int .i64 y.1.Feed), .d (.int .i64 y.1.Tool), .d (.int .i64 y.1.Offset)], .d (.int .i64 y.2.1), .d (.int .i64 y.2.2)]) ?_ h
  unfold r42_All
  simp only [List.replicate, List.length, nS, nA, Tryd.ntmps58, SV]
  refine Mir.seqK ?_
  refine Mir.region fun e h => ?_
  simp only [↓reduceIte, reduceCtorEq, nA, nS, nM, nE, nL, nT, nB, iT, iN, iE, and_self, SR, SV, zero_78, encApiBlock]
  refine Mir.use (e := e) ?_ h
  refine Mir.seqK ?_
  refine Mir.seqK ?_
  refine Mir.region fun e h => ?_
  simp only [↓reduceIte, reduceCtorEq, nA, nS, nM, nE, nL, nT, nB, iT, iN, iE, and_self, SR, SV, encApiBlock]
  refine Mir.use (e := e) ?_ h
  refine Mir.join (fun v123 : R42State => [U, U, .ptr 0 0, U, .ptr 1 0, U, U, U, U, U, U, U, U, U, U, U, U, U, U, U, U, U, U, U, U, U, U, U, U, U, U, U]) (fun v123 : R42State => ⟨[[.d (.int .i64 v123.Motion), .d (.int .i64 v123.Distance), .d (.int .i64 v123.Work), .d (.int .i64 v123.Length), .d (.int .i64 v123.Return), .d (.int .i64 v123.Feed), .d (.int .i64 v123.Tool), .d (.int .i64 v123.Offset)], [.d (.int .i64 0), .d (.int .i64 0), .d (.int .i64 0), .d (.int .i64 0), .d (.int .i64 0), .d (.int .i64 0), .d (.int .i64 0), .d (.int .i64 0)]], []⟩) (fun _ => rfl) ?_ ?_
  · refine Mir.block ?_
    refine Mir.guard fun qg72 => ?_
    refine Mir.range (fun (i141 : Nat) (v142 : R42State) => [U, .d (.list (List.map encApiBlock a1)), .ptr 0 0, U, .ptr 1 0, U, U, .d (.int .i64 (i141 : Int)), U, U, U, U, U, U, U, U, U, U, U, U, U, U, U, U, U, U, U, U, U, U, U, U]) (fun (i141 : Nat) (v142 : R42State) => ⟨[[.d (.int .i64 v142.Motion), .d (.int .i64 v142.Distance), .d (.int .i64 v142.Work), .d (.int .i64 v142.Length), .d (.int .i64 v142.Return), .d (.int .i64 v142.Feed), .d (.int .i64 v142.Tool), .d (.int .i64 v142.Offset)], [.d (.int .i64 0), .d (.int .i64 0), .d (.int .i64 0), .d (.int .i64 0), .d (.int .i64 0), .d (.int .i64 0), .d (.int .i64 0), .d (.int .i64 0)]], []⟩) qg72 (fun _ _ => rfl) (by simp only [↓reduceIte, reduceCtorEq, nA, nE, nL, and_self, and_true, true_and, SL, encApiBlock, (nr rfl : ((0 : Nat) : Int) = 0)]) (by simp only [↓reduceIte, reduceCtorEq, nA, nE, nL, and_self, and_true, true_and, SL, encApiBlock, (nr rfl : ((0 : Nat) : Int) = 0)]) ?_ ?_
    · intro i141 e143 v142 qr70
      refine Mir.seqK ?_
      refine Mir.seqK ?_
      refine Mir.region fun e h => ?_
      simp only [↓reduceIte, reduceCtorEq, nA, nS, nM, nE, nL, nT, nB, iT, iN, iE, and_self, SR, SV, und_43, qr70, encApiBlock]
      refine Mir.use (e := e) ?_ h
      refine Mir.condT rfl ?_
      refine Mir.skip ?_
      refine Mir.toK ?_
      refine Mir.seqK ?_
      refine Mir.block ?_
      refine Mir.seqK ?_
      refine Mir.bind fun y145 hy76 => ?_
      refine Mir.regionD [] (by kernel_rfl) fun e h => ?_
      simp only [↓reduceIte, reduceCtorEq, nA, nS, nM, nE, nL, nT, nB, iT, iN, iE, and_self, SR, SV, sepL_nil, sepL_cons, sepV_ne, sepV_d, sepV_i, true_and, Bool.and_self, ag_78, sz_78, und_43, sz_42, qr70, ag_42, encApiBlock]
      refine Spec.by (r42_Apply_spec hy76) (by simp only [↓reduceIte, reduceCtorEq, nA, nE, nL, and_self, and_true, true_and, SL, encApiBlock]) ?_
      simp only [↓reduceIte, reduceCtorEq, nA, nS, nM, nE, nL, nT, nB, iT, iN, iE, and_self, SR, SV, sepL_nil, sepL_cons, sepV_ne, sepV_d, sepV_i, true_and, Bool.and_self, zero_78, sz_78, encApiBlock]
      refine Mir.use (e := e) ?_ h
      refine Mir.seqK ?_
      refine Mir.seqK ?_
      refine Mir.region fun e h => ?_
      simp only [↓reduceIte, reduceCtorEq, nA, nS, nM, nE, nL, nT, nB, iT, iN, iE, and_self, SR, SV, encApiBlock]
      refine Mir.use (e := e) ?_ h
      refine Mir.cond rfl (fun hb78 => ?_) (fun hb78 => ?_)
      · refine Mir.seqK ?_
        refine Mir.region fun e h => ?_
        simp only [↓reduceIte, reduceCtorEq, nA, nS, nM, nE, nL, nT, nB, iT, iN, iE, and_self, SR, SV, zero_78, pl_78, sz_78, encApiBlock]
        refine Mir.use (e := e) ?_ h
        refine Mir.ret fun e h => ?_
        cases h
        simp only [↓reduceIte, reduceCtorEq, nA, nE, nL, and_self, and_true, true_and, SL, encApiBlock, Tryd.results58, ag_78, sz_78]
      · refine Mir.skip ?_
        refine Mir.toK ?_
        refine Mir.region fun e h => ?_
        simp only [↓reduceIte, reduceCtorEq, nA, nS, nM, nE, nL, nT, nB, iT, iN, iE, and_self, SR, SV, ag_78, sz_78, encApiBlock]
        refine Mir.use (e := e) ?_ h
        refine Mir.region fun e h => ?_
        simp only [↓reduceIte, reduceCtorEq, nA, nS, nM, nE, nL, nT, nB, iT, iN, iE, and_self, SR, SV, encApiBlock]
        cases h
        simp only [↓reduceIte, reduceCtorEq, nA, nE, nL, and_self, and_true, true_and, SL, encApiBlock, Tryd.results58, ag_78, sz_78, qr70]
    · intro v142 qd71
      refine Mir.seqK ?_
      refine Mir.seqK ?_
      refine Mir.region fun e h => ?_
      simp only [↓reduceIte, reduceCtorEq, nA, nS, nM, nE, nL, nT, nB, iT, iN, iE, and_self, SR, SV, und_43, qd71, encApiBlock]
      refine Mir.use (e := e) ?_ h
      refine Mir.condF rfl ?_
      refine Mir.exit fun e h => ?_
      cases h
      simp only [↓reduceIte, reduceCtorEq, nA, nE, nL, and_self, and_true, true_and, SL, encApiBlock, Tryd.results58, ag_78, sz_78]
  · intro v123
    refine Mir.toK ?_
    refine Mir.seqK ?_
    refine Mir.region fun e h => ?_
    simp only [↓reduceIte, reduceCtorEq, nA, nS, nM, nE, nL, nT, nB, iT, iN, iE, and_self, SR, SV, ag_78, sz_78, encApiBlock]
    refine Mir.use (e := e) ?_ h
    refine Mir.ret fun e h => ?_
    cases h
    simp only [↓reduceIte, reduceCtorEq, nA, nE, nL, and_self, and_true, true_and, SL, encApiBlock, Tryd.results58, ag_78, sz_78]

def r47_States (a0 : (List ApiBlock)) (a1 : Int) : Option (R42State × Int) :=
  if ((decide (a1 < 0)) || (decide (a1 > (a0.length : Int)))) = true then
    some (R42State.mk 0 0 0 0 0 0 0 0, 1)
  else
    bindO (r42_New ) fun (y101 : R42State) =>
    bindO (cutT a0 a1) fun (s102 : (List ApiBlock)) =>
    bindO (r42_All y101 s102) fun (y103 : R42State × Int × Int) =>
    some (y103.1, y103.2.2)
theorem r47_States_spec {a0 : (List ApiBlock)} {a1 : Int} {y : R42State × Int} (h : r47_States a0 a1 = some y) : Spec gP 27 [.d (.list (List.map encApiBlock a0)), .d (.int .i64 a1)] (.tuple [.agg [.d (.int .i64 y.1.Motion), .d (.int .i64 y.1.Distance), .d (.int .i64 y.1.Work), .d (.int .i64 y.1.Length), .d (.int .i64 y.1.Return), .d (.int .i64 y.1.Feed), .d (.int .i64 y.1.Tool), .d (.int .i64 y.1.Offset)], .d (.int .i64 y.2)]) := by
  refine spec_mir Tryd.func27 rfl (by kernel_rfl) (by kernel_rfl) (fun y : R42State × Int => .tuple [.agg [.d (.int .i64 y.1.Motion), .d (.int .i64 y.1.Distance), .d (.int .i64 y.1.Work), .d (.int .i64 y.1.Length), .d (.int .i64 y.1.Return), .d (.int .i64 y.1.Feed), .d (.int .i64 y.1.Tool), .d (.int .i64 y.1.Offset)], .d (.int .i64 y.2)]) ?_ h
  unfold r47_States
  simp only [List.replicate, List.length, nS, nA, Tryd.ntmps27, SV]
  refine Mir.seqK ?_
  refine Mir.region fun e h => ?_
  simp only [↓reduceIte, reduceCtorEq, nA, nS, nM, nE, nL, nT, nB, iT, iN, iE, and_self, SR, SV, zero_78, encApiBlock]
  refine Mir.use (e := e) ?_ h
  refine Mir.seqK ?_
  refine Mir.seqK ?_
  refine Mir.joinV [.d (.list (List.map encApiBlock a0)), .d (.int .i64 a1), U, U, .ptr 0 0, U, U, U, U, U, U, U, U, U, U, U, .d (.bool ((decide (a1 < 0)) || (decide (a1 > (a0.length : Int))))), U, U, U, U, U, U, U, U, U, U, U, U] ⟨[[.d (.int .i64 0), .d (.int .i64 0), .d (.int .i64 0), .d (.int .i64 0), .d (.int .i64 0), .d (.int .i64 0), .d (.int .i64 0), .d (.int .i64 0)]], []⟩ rfl ?_ ?_
  · refine SWs.region ?_
    rcases Bool.eq_false_or_eq_true (decide (a1 < 0)) with hb1 | hb1
    · simp only [↓reduceIte, reduceCtorEq, nA, nS, nM, nE, nL, nT, nB, iT, iN, iE, and_self, SR, SV, SL, Bool.true_and, Bool.false_and, Bool.true_or, Bool.false_or, Bool.or_true, Bool.or_false, Bool.and_true, Bool.and_false, Bool.not_true, Bool.not_false, hb1, encApiBlock]
    · simp only [↓reduceIte, reduceCtorEq, nA, nS, nM, nE, nL, nT, nB, iT, iN, iE, and_self, SR, SV, SL, Bool.true_and, Bool.false_and, Bool.true_or, Bool.false_or, Bool.or_true, Bool.or_false, Bool.and_true, Bool.and_false, Bool.not_true, Bool.not_false, und_43, hb1, encApiBlock]
  · refine Mir.toK ?_
    refine Mir.cond rfl (fun hb3 => ?_) (fun hb3 => ?_)
    · refine Mir.seqK ?_
      refine Mir.region fun e h => ?_
      simp only [↓reduceIte, reduceCtorEq, nA, nS, nM, nE, nL, nT, nB, iT, iN, iE, and_self, SR, SV, zero_78, pl_78, sz_78, encApiBlock]
      refine Mir.use (e := e) ?_ h
      refine Mir.ret fun e h => ?_
      cases h
      simp only [↓reduceIte, reduceCtorEq, nA, nE, nL, and_self, and_true, true_and, SL, encApiBlock, Tryd.results27, ag_78, sz_78]
    · refine Mir.skip ?_
      refine Mir.toK ?_
      refine Mir.seqK ?_
      refine Mir.bind fun y101 hy4 => ?_
      refine Mir.bind fun s102 q5 => ?_
      replace q5 := cutT_ok q5
      refine Mir.bind fun y103 hy6 => ?_
      refine Mir.regionD [] (by kernel_rfl) fun e h => ?_
      simp only [↓reduceIte, reduceCtorEq, nA, nS, nM, nE, nL, nT, nB, iT, iN, iE, and_self, SR, SV, sepL_nil, sepL_cons, sepV_ne, sepV_d, sepV_i, true_and, Bool.and_self, encApiBlock]
      refine Spec.by (r42_New_spec hy4) (rfl) ?_
      simp only [↓reduceIte, reduceCtorEq, nA, nS, nM, nE, nL, nT, nB, iT, iN, iE, and_self, SR, SV, sepL_nil, sepL_cons, sepV_ne, sepV_d, sepV_i, true_and, Bool.and_self, und_43, sz_42, q5, Nat.le_refl, and_true, true_and, dm, tm, al_ApiBlock, encApiBlock]
      refine Spec.by (r42_All_spec hy6) (by simp only [↓reduceIte, reduceCtorEq, nA, nE, nL, and_self, and_true, true_and, SL, encApiBlock]) ?_
      simp only [↓reduceIte, reduceCtorEq, nA, nS, nM, nE, nL, nT, nB, iT, iN, iE, and_self, SR, SV, sepL_nil, sepL_cons, sepV_ne, sepV_d, sepV_i, true_and, Bool.and_self, zero_78, sz_78, encApiBlock]
      refine Mir.use (e := e) ?_ h
      refine Mir.seqK ?_
      refine Mir.region fun e h => ?_
      simp only [↓reduceIte, reduceCtorEq, nA, nS, nM, nE, nL, nT, nB, iT, iN, iE, and_self, SR, SV, ag_78, sz_78, encApiBlock]
      refine Mir.use (e := e) ?_ h
      refine Mir.ret fun e h => ?_
      cases h
      simp only [↓reduceIte, reduceCtorEq, nA, nE, nL, and_self, and_true, true_and, SL, encApiBlock, Tryd.results27, ag_78, sz_78]

def l47_back (a0 : ModalState) : Option R42State :=
  some (R42State.mk a0.Motion a0.Distance a0.Work a0.Length a0.Return a0.Feed a0.Tool a0.Offset)
theorem l47_back_spec {a0 : ModalState} {y : R42State} (h : l47_back a0 = some y) : Spec gP 28 [.agg [.d (.int .i64 a0.Motion), .d (.int .i64 a0.Distance), .d (.int .i64 a0.Work), .d (.int .i64 a0.Length), .d (.int .i64 a0.Return), .d (.int .i64 a0.Feed), .d (.int .i64 a0.Tool), .d (.int .i64 a0.Offset)]] (.agg [.d (.int .i64 y.Motion), .d (.int .i64 y.Distance), .d (.int .i64 y.Work), .d (.int .i64 y.Length), .d (.int .i64 y.Return), .d (.int .i64 y.Feed), .d (.int .i64 y.Tool), .d (.int .i64 y.Offset)]) := by
  refine spec_mir Tryd.func28 rfl (by kernel_rfl) (by kernel_rfl) (fun y : R42State => .agg [.d (.int .i64 y.Motion), .d (.int .i64 y.Distance), .d (.int .i64 y.Work), .d (.int .i64 y.Length), .d (.int .i64 y.Return), .d (.int .i64 y.Feed), .d (.int .i64 y.Tool), .d (.int .i64 y.Offset)]) ?_ h
  unfold l47_back
  simp only [List.replicate, List.length, nS, nA, Tryd.ntmps28, SV]
  refine Mir.seqK ?_
  refine Mir.region fun e h => ?_
  simp only [↓reduceIte, reduceCtorEq, nA, nS, nM, nE, nL, nT, nB, iT, iN, iE, and_self, SR, SV, zero_78]
  refine Mir.use (e := e) ?_ h
  refine Mir.seqK ?_
  refine Mir.region fun e h => ?_
  simp only [↓reduceIte, reduceCtorEq, nA, nS, nM, nE, nL, nT, nB, iT, iN, iE, and_self, SR, SV, fld_65_0, sz_2, ag_2, fld_65_1, fld_65_2, fld_65_3, fld_65_4, fld_65_5, fld_65_6, fld_65_7, zero_78, pl_78, sz_78]
  refine Mir.use (e := e) ?_ h
  refine Mir.ret fun e h => ?_
  cases h
  simp only [↓reduceIte, reduceCtorEq, nA, nE, nL, and_self, and_true, true_and, SL, Tryd.results28, ag_78, sz_78]

def r47_End (a0 : ApiPos) (a1 : (List ApiMotion)) : Option ApiPos :=
  if ((a1.length : Int) == 0) = true then
    some a0
  else
    bindO (gt a1 (IntKind.i64.wrap ((a1.length : Int) - 1))) fun (e101 : ApiMotion) =>
    some e101.To
theorem r47_End_spec {a0 : ApiPos} {a1 : (List ApiMotion)} {y : ApiPos} (h : r47_End a0 a1 = some y) : Spec gP 29 [.agg [.d (.int .i64 a0.X), .d (.int .i64 a0.Y), .d (.int .i64 a0.Z)], .d (.list (List.map encApiMotion a1))] (.agg [.d (.int .i64 y.X), .d (.int .i64 y.Y), .d (.int .i64 y.Z)]) := by
  refine spec_mir Tryd.func29 rfl (by kernel_rfl) (by kernel_rfl) (fun y : ApiPos => .agg [.d (.int .i64 y.X), .d (.int .i64 y.Y), .d (.int .i64 y.Z)]) ?_ h
  unfold r47_End
  simp only [List.replicate, List.length, nS, nA, Tryd.ntmps29, SV]
  refine Mir.seqK ?_
  refine Mir.region fun e h => ?_
  simp only [↓reduceIte, reduceCtorEq, nA, nS, nM, nE, nL, nT, nB, iT, iN, iE, and_self, SR, SV, zero_24, encApiMotion]
  refine Mir.use (e := e) ?_ h
  refine Mir.seqK ?_
  refine Mir.seqK ?_
  refine Mir.region fun e h => ?_
  simp only [↓reduceIte, reduceCtorEq, nA, nS, nM, nE, nL, nT, nB, iT, iN, iE, and_self, SR, SV, und_47, encApiMotion]
  refine Mir.use (e := e) ?_ h
  refine Mir.cond rfl (fun hb2 => ?_) (fun hb2 => ?_)
  · refine Mir.seqK ?_
    refine Mir.region fun e h => ?_
    simp only [↓reduceIte, reduceCtorEq, nA, nS, nM, nE, nL, nT, nB, iT, iN, iE, and_self, SR, SV, ag_24, sz_24, encApiMotion]
    refine Mir.use (e := e) ?_ h
    refine Mir.ret fun e h => ?_
    cases h
    simp only [↓reduceIte, reduceCtorEq, nA, nE, nL, and_self, and_true, true_and, SL, encApiMotion, Tryd.results29, ag_24, sz_24]
  · refine Mir.skip ?_
    refine Mir.toK ?_
    refine Mir.seqK ?_
    refine Mir.bind fun e101 q3 => ?_
    replace q3 := gt_ok q3
    refine Mir.region fun e h => ?_
    simp only [↓reduceIte, reduceCtorEq, nA, nS, nM, nE, nL, nT, nB, iT, iN, iE, and_self, SR, SV, und_47, sz_62, q3, fld_62_1, sz_24, ag_24, encApiMotion]
    refine Mir.use (e := e) ?_ h
    refine Mir.ret fun e h => ?_
    cases h
    simp only [↓reduceIte, reduceCtorEq, nA, nE, nL, and_self, and_true, true_and, SL, encApiMotion, Tryd.results29, ag_24, sz_24]

def inp_Connected (a0 : ApiPos) (a1 : (List ApiMotion)) : Option Bool :=
  bindX (guardO (okIdx a1) (
      rangeX (fun (i127 : Nat) (e129 : ApiMotion) (v128 : ApiPos) =>
        if (!((e129.From.X == v128.X) && ((e129.From.Y == v128.Y) && (e129.From.Z == v128.Z)))) = true then
          some (.ret (.ret false))
        else
          some (.go e129.To)) (fun (v128 : ApiPos) => some (.go v128)) a1 0 a0)) fun (v115 : ApiPos) =>
  some true
theorem inp_Connected_spec {a0 : ApiPos} {a1 : (List ApiMotion)} {y : Bool} (h : inp_Connected a0 a1 = some y) : Spec gP 24 [.agg [.d (.int .i64 a0.X), .d (.int .i64 a0.Y), .d (.int .i64 a0.Z)], .d (.list (List.map encApiMotion a1))] (.d (.bool y)) := by
  refine spec_mir Tryd.func24 rfl (by kernel_rfl) (by kernel_rfl) (fun y : Bool => .d (.bool y)) ?_ h
  unfold inp_Connected
  simp only [List.replicate, List.length, nS, nA, Tryd.ntmps24, SV]
  refine Mir.seqK ?_
  refine Mir.region fun e h => ?_
  simp only [↓reduceIte, reduceCtorEq, nA, nS, nM, nE, nL, nT, nB, iT, iN, iE, and_self, SR, SV, encApiMotion]
  refine Mir.use (e := e) ?_ h
  refine Mir.seqK ?_
  refine Mir.seqK ?_
  refine Mir.region fun e h => ?_
  simp only [↓reduceIte, reduceCtorEq, nA, nS, nM, nE, nL, nT, nB, iT, iN, iE, and_self, SR, SV, und_47, encApiMotion]
  refine Mir.use (e := e) ?_ h
  refine Mir.join (fun v115 : ApiPos => [U, U, U, U, U, U, U, U, U, U, U, U, U, U, U, U, U, U, U, U]) (fun v115 : ApiPos => ⟨[[.d (.int .i64 v115.X), .d (.int .i64 v115.Y), .d (.int .i64 v115.Z)]], []⟩) (fun _ => rfl) ?_ ?_
  · refine Mir.block ?_
    refine Mir.guard fun qg58 => ?_
    refine Mir.range (fun (i127 : Nat) (v128 : ApiPos) => [U, U, .ptr 0 0, U, U, U, U, .d (.list (List.map encApiMotion a1)), .d (.int .i64 (a1.length : Int)), .d (.int .i64 (i127 : Int)), U, U, U, U, U, U, U, U, U, U]) (fun (i127 : Nat) (v128 : ApiPos) => ⟨[[.d (.int .i64 v128.X), .d (.int .i64 v128.Y), .d (.int .i64 v128.Z)]], []⟩) qg58 (fun _ _ => rfl) (by simp only [↓reduceIte, reduceCtorEq, nA, nE, nL, and_self, and_true, true_and, SL, encApiMotion, (nr rfl : ((0 : Nat) : Int) = 0)]) (by simp only [↓reduceIte, reduceCtorEq, nA, nE, nL, and_self, and_true, true_and, SL, encApiMotion, (nr rfl : ((0 : Nat) : Int) = 0)]) ?_ ?_
    · intro i127 e129 v128 qr56
      refine Mir.seqK ?_
      refine Mir.region fun e h => ?_
      simp only [↓reduceIte, reduceCtorEq, nA, nS, nM, nE, nL, nT, nB, iT, iN, iE, and_self, SR, SV, qr56, encApiMotion]
      refine Mir.use (e := e) ?_ h
      refine Mir.seqK ?_
      refine Mir.condT rfl ?_
      refine Mir.skip ?_
      refine Mir.toK ?_
      refine Mir.seqK ?_
      refine Mir.block ?_
      refine Mir.seqK ?_
      refine Mir.region fun e h => ?_
      simp only [↓reduceIte, reduceCtorEq, nA, nS, nM, nE, nL, nT, nB, iT, iN, iE, and_self, SR, SV, und_47, sz_62, qr56, ag_62, zero_62, encApiMotion]
      refine Mir.use (e := e) ?_ h
      refine Mir.seqK ?_
      refine Mir.seqK ?_
      refine Mir.region fun e h => ?_
      simp only [↓reduceIte, reduceCtorEq, nA, nS, nM, nE, nL, nT, nB, iT, iN, iE, and_self, SR, SV, fld_62_0, sz_24, ag_24, gE_24, encApiMotion]
      refine Mir.use (e := e) ?_ h
      refine Mir.cond rfl (fun hb62 => ?_) (fun hb62 => ?_)
      · refine Mir.seqK ?_
        refine Mir.region fun e h => ?_
        simp only [↓reduceIte, reduceCtorEq, nA, nS, nM, nE, nL, nT, nB, iT, iN, iE, and_self, SR, SV, encApiMotion]
        refine Mir.use (e := e) ?_ h
        refine Mir.ret fun e h => ?_
        cases h
        simp only [↓reduceIte, reduceCtorEq, nA, nE, nL, and_self, and_true, true_and, SL, encApiMotion, Tryd.results24]
      · refine Mir.skip ?_
        refine Mir.toK ?_
        refine Mir.region fun e h => ?_
        simp only [↓reduceIte, reduceCtorEq, nA, nS, nM, nE, nL, nT, nB, iT, iN, iE, and_self, SR, SV, fld_62_1, sz_24, ag_24, encApiMotion]
        refine Mir.use (e := e) ?_ h
        refine Mir.region fun e h => ?_
        simp only [↓reduceIte, reduceCtorEq, nA, nS, nM, nE, nL, nT, nB, iT, iN, iE, and_self, SR, SV, encApiMotion]
        cases h
        simp only [↓reduceIte, reduceCtorEq, nA, nE, nL, and_self, and_true, true_and, SL, encApiMotion, Tryd.results24, qr56]
    · intro v128 qd57
      refine Mir.seqK ?_
      refine Mir.region fun e h => ?_
      simp only [↓reduceIte, reduceCtorEq, nA, nS, nM, nE, nL, nT, nB, iT, iN, iE, and_self, SR, SV, qd57, encApiMotion]
      refine Mir.use (e := e) ?_ h
      refine Mir.seqK ?_
      refine Mir.condF rfl ?_
      refine Mir.exit fun e h => ?_
      cases h
      simp only [↓reduceIte, reduceCtorEq, nA, nE, nL, and_self, and_true, true_and, SL, encApiMotion, Tryd.results24]
  · intro v115
    refine Mir.toK ?_
    refine Mir.seqK ?_
    refine Mir.region fun e h => ?_
    simp only [↓reduceIte, reduceCtorEq, nA, nS, nM, nE, nL, nT, nB, iT, iN, iE, and_self, SR, SV, encApiMotion]
    refine Mir.use (e := e) ?_ h
    refine Mir.ret fun e h => ?_
    cases h
    simp only [↓reduceIte, reduceCtorEq, nA, nE, nL, and_self, and_true, true_and, SL, encApiMotion, Tryd.results24]

def r47_Connected (a0 : ApiPos) (a1 : (List ApiMotion)) : Option Bool :=
  bindX (guardO (okIdx a1) (
      rangeX (fun (i155 : Nat) (e157 : ApiMotion) (v156 : Unit) =>
        bindO (cutT a1 (i155 : Int)) fun (s160 : (List ApiMotion)) =>
        bindO (r47_End a0 s160) fun (y161 : ApiPos) =>
        if (!((e157.From.X == y161.X) && ((e157.From.Y == y161.Y) && (e157.From.Z == y161.Z)))) = true then
          some (.ret (.ret false))
        else
          some (.go ())) (fun (v156 : Unit) => some (.go ())) a1 0 ())) fun (v131 : Unit) =>
  some true
theorem r47_Connected_spec {a0 : ApiPos} {a1 : (List ApiMotion)} {y : Bool} (h : r47_Connected a0 a1 = some y) : Spec gP 30 [.agg [.d (.int .i64 a0.X), .d (.int .i64 a0.Y), .d (.int .i64 a0.Z)], .d (.list (List.map encApiMotion a1))] (.d (.bool y)) := by
  refine spec_mir Tryd.func30 rfl (by kernel_rfl) (by kernel_rfl) (fun y : Bool => .d (.bool y)) ?_ h
  unfold r47_Connected
  simp only [List.replicate, List.length, nS, nA, Tryd.ntmps30, SV]
  refine Mir.seqK ?_
  refine Mir.region fun e h => ?_
  simp only [↓reduceIte, reduceCtorEq, nA, nS, nM, nE, nL, nT, nB, iT, iN, iE, and_self, SR, SV, encApiMotion]
  refine Mir.use (e := e) ?_ h
  refine Mir.seqK ?_
  refine Mir.seqK ?_
  refine Mir.region fun e h => ?_
  simp only [↓reduceIte, reduceCtorEq, nA, nS, nM, nE, nL, nT, nB, iT, iN, iE, and_self, SR, SV, encApiMotion]
  refine Mir.use (e := e) ?_ h
  refine Mir.join (fun v131 : Unit => [U, U, U, U, U, U, U, U, U, U, U, U, U, U, U, U, U, U, U, U, U, U, U]) (fun v131 : Unit => ⟨[[.d (.int .i64 a0.X), .d (.int .i64 a0.Y), .d (.int .i64 a0.Z)]], []⟩) (fun _ => rfl) ?_ ?_
  · refine Mir.block ?_
    refine Mir.guard fun qg79 => ?_
    refine Mir.range (fun (i155 : Nat) (v156 : Unit) => [U, .d (.list (List.map encApiMotion a1)), .ptr 0 0, U, U, .d (.int .i64 (i155 : Int)), U, U, U, U, U, U, U, U, U, U, U, U, U, U, U, U, U]) (fun (i155 : Nat) (v156 : Unit) => ⟨[[.d (.int .i64 a0.X), .d (.int .i64 a0.Y), .d (.int .i64 a0.Z)]], []⟩) qg79 (fun _ _ => rfl) (by simp only [↓reduceIte, reduceCtorEq, nA, nE, nL, and_self, and_true, true_and, SL, encApiMotion, (nr rfl : ((0 : Nat) : Int) = 0)]) (by simp only [↓reduceIte, reduceCtorEq, nA, nE, nL, and_self, and_true, true_and, SL, encApiMotion, (nr rfl : ((0 : Nat) : Int) = 0)]) ?_ ?_
    · intro i155 e157 v156 qr77
      refine Mir.seqK ?_
      refine Mir.seqK ?_
      refine Mir.region fun e h => ?_
      simp only [↓reduceIte, reduceCtorEq, nA, nS, nM, nE, nL, nT, nB, iT, iN, iE, and_self, SR, SV, und_47, qr77, encApiMotion]
      refine Mir.use (e := e) ?_ h
      refine Mir.condT rfl ?_
      refine Mir.skip ?_
      refine Mir.toK ?_
      refine Mir.seqK ?_
      refine Mir.block ?_
      refine Mir.seqK ?_
      refine Mir.bind fun s160 q83 => ?_
      replace q83 := cutT_ok q83
      simp only [Int.toNat_natCast] at q83
      refine Mir.bind fun y161 hy84 => ?_
      refine Mir.regionD [] (by kernel_rfl) fun e h => ?_
      simp only [↓reduceIte, reduceCtorEq, nA, nS, nM, nE, nL, nT, nB, iT, iN, iE, and_self, SR, SV, sepL_nil, sepL_cons, sepV_ne, sepV_d, sepV_i, true_and, Bool.and_self, und_47, sz_62, qr77, fld_62_0, sz_24, ag_24, q83, Nat.le_refl, and_true, true_and, dm, tm, al_ApiMotion, encApiMotion]
      refine Spec.by (r47_End_spec hy84) (by simp only [↓reduceIte, reduceCtorEq, nA, nE, nL, and_self, and_true, true_and, SL, encApiMotion]) ?_
      simp only [↓reduceIte, reduceCtorEq, nA, nS, nM, nE, nL, nT, nB, iT, iN, iE, and_self, SR, SV, sepL_nil, sepL_cons, sepV_ne, sepV_d, sepV_i, true_and, Bool.and_self, gE_24, encApiMotion]
      refine Mir.use (e := e) ?_ h
      refine Mir.cond rfl (fun hb86 => ?_) (fun hb86 => ?_)
      · refine Mir.seqK ?_
        refine Mir.region fun e h => ?_
        simp only [↓reduceIte, reduceCtorEq, nA, nS, nM, nE, nL, nT, nB, iT, iN, iE, and_self, SR, SV, encApiMotion]
        refine Mir.use (e := e) ?_ h
        refine Mir.ret fun e h => ?_
        cases h
        simp only [↓reduceIte, reduceCtorEq, nA, nE, nL, and_self, and_true, true_and, SL, encApiMotion, Tryd.results30]
      · refine Mir.skip ?_
        refine Mir.toB ?_
        refine Mir.toK ?_
        refine Mir.region fun e h => ?_
        simp only [↓reduceIte, reduceCtorEq, nA, nS, nM, nE, nL, nT, nB, iT, iN, iE, and_self, SR, SV, encApiMotion]
        cases h
        simp only [↓reduceIte, reduceCtorEq, nA, nE, nL, and_self, and_true, true_and, SL, encApiMotion, Tryd.results30, qr77]
    · intro v156 qd78
      refine Mir.seqK ?_
      refine Mir.seqK ?_
      refine Mir.region fun e h => ?_
      simp only [↓reduceIte, reduceCtorEq, nA, nS, nM, nE, nL, nT, nB, iT, iN, iE, and_self, SR, SV, und_47, qd78, encApiMotion]
      refine Mir.use (e := e) ?_ h
      refine Mir.condF rfl ?_
      refine Mir.exit fun e h => ?_
      cases h
      simp only [↓reduceIte, reduceCtorEq, nA, nE, nL, and_self, and_true, true_and, SL, encApiMotion, Tryd.results30]
  · intro v131
    refine Mir.toK ?_
    refine Mir.seqK ?_
    refine Mir.region fun e h => ?_
    simp only [↓reduceIte, reduceCtorEq, nA, nS, nM, nE, nL, nT, nB, iT, iN, iE, and_self, SR, SV, encApiMotion]
    refine Mir.use (e := e) ?_ h
    refine Mir.ret fun e h => ?_
    cases h
    simp only [↓reduceIte, reduceCtorEq, nA, nE, nL, and_self, and_true, true_and, SL, encApiMotion, Tryd.results30]

end Go.Proofs.YtlcfgpjgjdjpoaaDoor
