/-
  Mirrors of functions, written by wip/mir.py.
-/
import Derived.Test.YtlcfgpjgjdjpoaaDoorMBb
namespace Go.Proofs.YtlcfgpjgjdjpoaaDoor
open Go.RowKit
open Nat renaming reduceAdd → nA, reduceSub → nS, reduceMul → nM, reduceEqDiff → nE, reduceLeDiff → nL, reduceLT → nT, reduceBEq → nB
open Int renaming reduceLT → iT, reduceToNat → iN, reduceEq → iE
set_option linter.unusedVariables false
set_option linter.unusedSimpArgs false
set_option maxRecDepth 100000

def inp_Step (a0 : ModalState) (a1 : CycleCycle) (a2 : ApiBlock) (a3 : TableTable) (a4 : ApiPos) : Option ((List ApiMotion) × ModalState × CycleCycle × Int) :=
  bindO (inp_checked a3 a4) fun (y101 : Int) =>
  if (y101 != 0) = true then
    bindO (some ()) fun (v103 : Unit) =>
    some ([], ModalState.mk 0 0 0 0 0 0 0 0, CycleCycle.mk 0 0 0 0 0 0 false, y101)
  else
    bindO (bindO (bk_Valid a2) fun (y104 : Int) =>
        if (y104 != 0) = true then
          some true
        else
          bindO (md_Check a2) fun (y105 : Int) =>
          if (y105 != 0) = true then
            some true
          else
            bindO (inp_known a2) fun (y106 : Bool) =>
            some (!y106)) fun (v107 : Bool) =>
    if v107 = true then
      bindO (some ()) fun (v109 : Unit) =>
      some ([], ModalState.mk 0 0 0 0 0 0 0 0, CycleCycle.mk 0 0 0 0 0 0 false, 1)
    else
      bindO (md_Apply a0 a2) fun (y110 : ModalState × Int) =>
      if (y110.2 != 0) = true then
        bindO (some ()) fun (v112 : Unit) =>
        some ([], ModalState.mk 0 0 0 0 0 0 0 0, CycleCycle.mk 0 0 0 0 0 0 false, y110.2)
      else
        bindO (inp_cycles y110.1.Motion) fun (y113 : Bool) =>
        bindO (if (!y113) = true then
              some (CycleCycle.mk 0 0 0 0 0 0 false)
            else
              some (CycleCycle.mk a1.Code a1.R a1.Z a1.Q a1.Rate a1.Initial a1.High)) fun (v114 : CycleCycle) =>
        bindO (inp_has a2 [88, 89, 90, 73, 74, 81, 82]) fun (y115 : Bool) =>
        if (!y115) = true then
          some ([], y110.1, v114, 0)
        else
          bindO (bindO (inp_has a2 [73, 74]) fun (y116 : Bool) =>
              if y116 = true then
                if (y110.1.Motion != 2000) = true then
                  if (y110.1.Motion != 3000) = true then
                    some true
                  else
                    bindO (inp_has a2 [81, 82]) fun (y117 : Bool) =>
                    if y117 = true then
                      bindO (inp_cycles y110.1.Motion) fun (y118 : Bool) =>
                      some (!y118)
                    else
                      some false
                else
                  bindO (inp_has a2 [81, 82]) fun (y119 : Bool) =>
                  if y119 = true then
                    bindO (inp_cycles y110.1.Motion) fun (y120 : Bool) =>
                    some (!y120)
                  else
                    some false
              else
                bindO (inp_has a2 [81, 82]) fun (y121 : Bool) =>
                if y121 = true then
                  bindO (inp_cycles y110.1.Motion) fun (y122 : Bool) =>
                  some (!y122)
                else
                  some false) fun (v123 : Bool) =>
          if v123 = true then
            bindO (some ()) fun (v125 : Unit) =>
            some ([], ModalState.mk 0 0 0 0 0 0 0 0, CycleCycle.mk 0 0 0 0 0 0 false, 1)
          else
            if ((y110.1.Motion == 80000) || ((y110.1.Motion != 0) && (decide (y110.1.Feed ≤ 0)))) = true then
              bindO (some ()) fun (v127 : Unit) =>
              some ([], ModalState.mk 0 0 0 0 0 0 0 0, CycleCycle.mk 0 0 0 0 0 0 false, 13)
            else
              bindO (if (y110.1.Length == 43000) = true then
                    some (IntKind.i64.wrap (Int.tdiv y110.1.Offset 1000))
                  else
                    some 0) fun (v128 : Int) =>
              bindO (tb_Work (TableTable.mk a3.Work a3.Lengths) y110.1.Work v128 a4) fun (y129 : ApiPos × Int) =>
              if (y129.2 != 0) = true then
                bindO (some ()) fun (v131 : Unit) =>
                some ([], ModalState.mk 0 0 0 0 0 0 0 0, CycleCycle.mk 0 0 0 0 0 0 false, y129.2)
              else
                bindO (inp_positions y110.1 v114 (ApiBlock.mk a2.Skip a2.Words a2.Comment) y129.1) fun (y132 : (List InterpreterReached) × CycleCycle × Int) =>
                if (y132.2.2 != 0) = true then
                  bindO (some ()) fun (v134 : Unit) =>
                  some ([], ModalState.mk 0 0 0 0 0 0 0 0, CycleCycle.mk 0 0 0 0 0 0 false, y132.2.2)
                else
                  bindX (guardO (okIdx y132.1) (
                      rangeX (fun (i274 : Nat) (e276 : InterpreterReached) (v275 : (List ApiMotion) × ApiPos) =>
                        bindO (tb_Machine (TableTable.mk a3.Work a3.Lengths) y110.1.Work v128 e276.at_) fun (y281 : ApiPos × Int) =>
                        if (y281.2 != 0) = true then
                          bindO (some ()) fun (v283 : Unit) =>
                          some (.ret (.ret ([], ModalState.mk 0 0 0 0 0 0 0 0, CycleCycle.mk 0 0 0 0 0 0 false, y281.2)))
                        else
                          bindO (if (!((y281.1.X == v275.2.X) && ((y281.1.Y == v275.2.Y) && (y281.1.Z == v275.2.Z)))) = true then
                                guardO (okLen (v275.1.length + 1)) (
                                some (v275.1 ++ [ApiMotion.mk v275.2 y281.1 e276.rate (IntKind.i64.wrap (Int.tdiv y110.1.Tool 1000)) 0]))
                              else
                                some v275.1) fun (v284 : (List ApiMotion)) =>
                          some (.go (v284, y281.1))) (fun (v275 : (List ApiMotion) × ApiPos) => some (.go (v275.1, v275.2))) y132.1 0 ([], a4))) fun (v238 : (List ApiMotion) × ApiPos) =>
                  some (v238.1, y110.1, y132.2.1, 0)
set_option maxHeartbeats 8000000 in
theorem inp_Step_specX {a0 : ModalState} {a1 : CycleCycle} {a2 : ApiBlock} {a3 : TableTable} {a4 : ApiPos} {y : (List ApiMotion) × ModalState × CycleCycle × Int} (h : inp_Step a0 a1 a2 a3 a4 = some y) : SpecX gP 21 [.agg [.d (.int .i64 a0.Motion), .d (.int .i64 a0.Distance), .d (.int .i64 a0.Work), .d (.int .i64 a0.Length), .d (.int .i64 a0.Return), .d (.int .i64 a0.Feed), .d (.int .i64 a0.Tool), .d (.int .i64 a0.Offset)], .agg [.d (.int .i64 a1.Code), .d (.int .i64 a1.R), .d (.int .i64 a1.Z), .d (.int .i64 a1.Q), .d (.int .i64 a1.Rate), .d (.int .i64 a1.Initial), .d (.bool a1.High)], .agg [.d (.bool a2.Skip), .d (.list (List.map encApiWord a2.Words)), .d (.str a2.Comment)], .agg [.d (.int .i64 a3.Work.e0.X), .d (.int .i64 a3.Work.e0.Y), .d (.int .i64 a3.Work.e0.Z), .d (.int .i64 a3.Work.e1.X), .d (.int .i64 a3.Work.e1.Y), .d (.int .i64 a3.Work.e1.Z), .d (.int .i64 a3.Work.e2.X), .d (.int .i64 a3.Work.e2.Y), .d (.int .i64 a3.Work.e2.Z), .d (.int .i64 a3.Work.e3.X), .d (.int .i64 a3.Work.e3.Y), .d (.int .i64 a3.Work.e3.Z), .d (.int .i64 a3.Work.e4.X), .d (.int .i64 a3.Work.e4.Y), .d (.int .i64 a3.Work.e4.Z), .d (.int .i64 a3.Work.e5.X), .d (.int .i64 a3.Work.e5.Y), .d (.int .i64 a3.Work.e5.Z), .d (.list (List.map encTableLength a3.Lengths))], .agg [.d (.int .i64 a4.X), .d (.int .i64 a4.Y), .d (.int .i64 a4.Z)]] 62 (List.map encApiMotion y.1) [.agg [.d (.int .i64 y.2.1.Motion), .d (.int .i64 y.2.1.Distance), .d (.int .i64 y.2.1.Work), .d (.int .i64 y.2.1.Length), .d (.int .i64 y.2.1.Return), .d (.int .i64 y.2.1.Feed), .d (.int .i64 y.2.1.Tool), .d (.int .i64 y.2.1.Offset)], .agg [.d (.int .i64 y.2.2.1.Code), .d (.int .i64 y.2.2.1.R), .d (.int .i64 y.2.2.1.Z), .d (.int .i64 y.2.2.1.Q), .d (.int .i64 y.2.2.1.Rate), .d (.int .i64 y.2.2.1.Initial), .d (.bool y.2.2.1.High)], .d (.int .i64 y.2.2.2)] := by
  refine specX_mir Tryd.func21 rfl (by kernel_rfl) (by kernel_rfl) (fun y : (List ApiMotion) × ModalState × CycleCycle × Int => List.map encApiMotion y.1) (fun y : (List ApiMotion) × ModalState × CycleCycle × Int => [.agg [.d (.int .i64 y.2.1.Motion), .d (.int .i64 y.2.1.Distance), .d (.int .i64 y.2.1.Work), .d (.int .i64 y.2.1.Length), .d (.int .i64 y.2.1.Return), .d (.int .i64 y.2.1.Feed), .d (.int .i64 y.2.1.Tool), .d (.int .i64 y.2.1.Offset)], .agg [.d (.int .i64 y.2.2.1.Code), .d (.int .i64 y.2.2.1.R), .d (.int .i64 y.2.2.1.Z), .d (.int .i64 y.2.2.1.Q), .d (.int .i64 y.2.2.1.Rate), .d (.int .i64 y.2.2.1.Initial), .d (.bool y.2.2.1.High)], .d (.int .i64 y.2.2.2)]) (sc_map (fun _ => rfl) _) (by rw [show Tryd.prog.cellsOf 62 = 9 from (by kernel_rfl)]; exact al_ApiMotion) rfl ?_ h
  unfold inp_Step
  simp only [List.replicate, List.length, nS, nA, Tryd.ntmps21, SV]
  refine Mir.seqK ?_
  refine Mir.region fun e h => ?_
  simp only [↓reduceIte, reduceCtorEq, nA, nS, nM, nE, nL, nT, nB, iT, iN, iE, and_self, SR, SV, zero_65, zero_68, encApiMotion, encApiWord, encInterpreterReached, encTableLength]
  refine Mir.use (e := e) ?_ h
  refine Mir.seqK ?_
  refine Mir.seqK ?_
  refine Mir.bind fun y101 hy1 => ?_
  refine Mir.region fun e h => ?_
  simp only [↓reduceIte, reduceCtorEq, nA, nS, nM, nE, nL, nT, nB, iT, iN, iE, and_self, SR, SV, ag_54, sz_54, ag_24, sz_24, encApiMotion, encApiWord, encInterpreterReached, encTableLength]
  refine SpecS.by (inp_checked_spec hy1) (by simp only [↓reduceIte, reduceCtorEq, nA, nE, nL, and_self, and_true, true_and, SL, encApiMotion, encApiWord, encInterpreterReached, encTableLength]) ?_
  simp only [↓reduceIte, reduceCtorEq, nA, nS, nM, nE, nL, nT, nB, iT, iN, iE, and_self, SR, SV, encApiMotion, encApiWord, encInterpreterReached, encTableLength]
  refine Mir.use (e := e) ?_ h
  refine Mir.seqK ?_
  refine Mir.region fun e h => ?_
  simp only [↓reduceIte, reduceCtorEq, nA, nS, nM, nE, nL, nT, nB, iT, iN, iE, and_self, SR, SV, encApiMotion, encApiWord, encInterpreterReached, encTableLength]
  refine Mir.use (e := e) ?_ h
  refine Mir.cond rfl (fun hb4 => ?_) (fun hb4 => ?_)
  · refine Mir.seqK ?_
    refine Mir.bind fun v103 hv5 => ?_
    refine Mir.region fun e h => ?_
    simp only [↓reduceIte, reduceCtorEq, nA, nS, nM, nE, nL, nT, nB, iT, iN, iE, and_self, SR, SV, encApiWord, encTableLength]
    refine SpecS.inl Tryd.func46 rfl (by kernel_rfl) (by kernel_rfl) (fun v103 : Unit => .tuple [.nil, .agg [.d (.int .i64 0), .d (.int .i64 0), .d (.int .i64 0), .d (.int .i64 0), .d (.int .i64 0), .d (.int .i64 0), .d (.int .i64 0), .d (.int .i64 0)], .agg [.d (.int .i64 0), .d (.int .i64 0), .d (.int .i64 0), .d (.int .i64 0), .d (.int .i64 0), .d (.int .i64 0), .d (.bool false)], .d (.int .i64 y101)]) (fun v103 : Unit => ⟨[[.d (.int .i64 a0.Motion), .d (.int .i64 a0.Distance), .d (.int .i64 a0.Work), .d (.int .i64 a0.Length), .d (.int .i64 a0.Return), .d (.int .i64 a0.Feed), .d (.int .i64 a0.Tool), .d (.int .i64 a0.Offset)], [.d (.int .i64 a1.Code), .d (.int .i64 a1.R), .d (.int .i64 a1.Z), .d (.int .i64 a1.Q), .d (.int .i64 a1.Rate), .d (.int .i64 a1.Initial), .d (.bool a1.High)], [.d (.bool a2.Skip), .d (.list (List.map encApiWord a2.Words)), .d (.str a2.Comment)], [.d (.int .i64 a3.Work.e0.X), .d (.int .i64 a3.Work.e0.Y), .d (.int .i64 a3.Work.e0.Z), .d (.int .i64 a3.Work.e1.X), .d (.int .i64 a3.Work.e1.Y), .d (.int .i64 a3.Work.e1.Z), .d (.int .i64 a3.Work.e2.X), .d (.int .i64 a3.Work.e2.Y), .d (.int .i64 a3.Work.e2.Z), .d (.int .i64 a3.Work.e3.X), .d (.int .i64 a3.Work.e3.Y), .d (.int .i64 a3.Work.e3.Z), .d (.int .i64 a3.Work.e4.X), .d (.int .i64 a3.Work.e4.Y), .d (.int .i64 a3.Work.e4.Z), .d (.int .i64 a3.Work.e5.X), .d (.int .i64 a3.Work.e5.Y), .d (.int .i64 a3.Work.e5.Z), .d (.list (List.map encTableLength a3.Lengths))], [.d (.int .i64 a4.X), .d (.int .i64 a4.Y), .d (.int .i64 a4.Z)], [.d (.int .i64 0), .d (.int .i64 0), .d (.int .i64 0), .d (.int .i64 0), .d (.int .i64 0), .d (.int .i64 0), .d (.int .i64 0), .d (.int .i64 0)], [.d (.int .i64 0), .d (.int .i64 0), .d (.int .i64 0), .d (.int .i64 0), .d (.int .i64 0), .d (.int .i64 0), .d (.bool false)]], []⟩) hv5 rfl ?_ ?_
    · simp only [List.replicate, List.length, nS, nA, Tryd.ntmps46, SV]
      refine Mir.seqK ?_
      refine Mir.region fun e h => ?_
      simp only [↓reduceIte, reduceCtorEq, nA, nS, nM, nE, nL, nT, nB, iT, iN, iE, and_self, SR, SV, zero_65, zero_68, encApiWord, encTableLength]
      refine Mir.use (e := e) ?_ h
      refine Mir.seqK ?_
      refine Mir.region fun e h => ?_
      simp only [↓reduceIte, reduceCtorEq, nA, nS, nM, nE, nL, nT, nB, iT, iN, iE, and_self, SR, SV, zero_65, pl_65, zero_68, pl_68, sz_65, sz_68, encApiWord, encTableLength]
      refine Mir.use (e := e) ?_ h
      refine Mir.ret fun e h => ?_
      cases h
      simp only [↓reduceIte, reduceCtorEq, nA, nE, nL, and_self, and_true, true_and, SL, encApiWord, encTableLength, Tryd.results46, ag_65, sz_65, ag_68, sz_68]
    simp only [↓reduceIte, reduceCtorEq, nA, nS, nM, nE, nL, nT, nB, iT, iN, iE, and_self, SR, SV, sz_65, sz_68, encApiWord, encTableLength]
    refine Mir.use (e := e) ?_ h
    refine Mir.ret fun e h => ?_
    cases h
    simp only [↓reduceIte, reduceCtorEq, nA, nE, nL, and_self, and_true, true_and, SL, encApiWord, encTableLength, Tryd.results21, ag_65, sz_65, ag_68, sz_68, fx_r, fx_n, xr_o, xr_n, rowT]
  · refine Mir.skip ?_
    refine Mir.toK ?_
    refine Mir.seqK ?_
    refine Mir.seqK ?_
    refine Mir.joinO (fun v107 : Bool => [U, U, U, U, U, .ptr 0 0, .ptr 1 0, .ptr 2 0, .ptr 3 0, .ptr 4 0, U, .ptr 5 0, .ptr 6 0, U, U, U, U, U, U, U, U, U, U, U, U, U, U, U, U, U, U, U, U, U, U, U, U, U, U, U, U, U, U, U, U, U, U, .d (.bool v107), U, U, U, U, U, U, U, U, U, U, U, U, U, U, U, U, U, U, U, U, U, U, U, U, U, U, U, U, U, U, U, U, U, U, U, U, U, U, U, U, U, U, U, U, U, U, U, U, U, U, U, U, U, U, U, U, U, U, U, U, U, U, U, U, U, U, U, U, U, U, U, U, U, U, U, U, U, U, U, U, U, U, U, U, U, U, U, U, U, U, U, U, U, U, U, U, U, U, U, U, U, U, U, U, U, U, U, U, U, U, U, U, U, U, U, U, U, U, U, U, U, U, U, U, U, U, U, U, U, U, U, U, U, U, U, U, U, U, U, U, U, U, U, U, U, U, U, U, U, U, U, U, U, U, U, U, U]) (fun v107 : Bool => ⟨[[.d (.int .i64 a0.Motion), .d (.int .i64 a0.Distance), .d (.int .i64 a0.Work), .d (.int .i64 a0.Length), .d (.int .i64 a0.Return), .d (.int .i64 a0.Feed), .d (.int .i64 a0.Tool), .d (.int .i64 a0.Offset)], [.d (.int .i64 a1.Code), .d (.int .i64 a1.R), .d (.int .i64 a1.Z), .d (.int .i64 a1.Q), .d (.int .i64 a1.Rate), .d (.int .i64 a1.Initial), .d (.bool a1.High)], [.d (.bool a2.Skip), .d (.list (List.map encApiWord a2.Words)), .d (.str a2.Comment)], [.d (.int .i64 a3.Work.e0.X), .d (.int .i64 a3.Work.e0.Y), .d (.int .i64 a3.Work.e0.Z), .d (.int .i64 a3.Work.e1.X), .d (.int .i64 a3.Work.e1.Y), .d (.int .i64 a3.Work.e1.Z), .d (.int .i64 a3.Work.e2.X), .d (.int .i64 a3.Work.e2.Y), .d (.int .i64 a3.Work.e2.Z), .d (.int .i64 a3.Work.e3.X), .d (.int .i64 a3.Work.e3.Y), .d (.int .i64 a3.Work.e3.Z), .d (.int .i64 a3.Work.e4.X), .d (.int .i64 a3.Work.e4.Y), .d (.int .i64 a3.Work.e4.Z), .d (.int .i64 a3.Work.e5.X), .d (.int .i64 a3.Work.e5.Y), .d (.int .i64 a3.Work.e5.Z), .d (.list (List.map encTableLength a3.Lengths))], [.d (.int .i64 a4.X), .d (.int .i64 a4.Y), .d (.int .i64 a4.Z)], [.d (.int .i64 0), .d (.int .i64 0), .d (.int .i64 0), .d (.int .i64 0), .d (.int .i64 0), .d (.int .i64 0), .d (.int .i64 0), .d (.int .i64 0)], [.d (.int .i64 0), .d (.int .i64 0), .d (.int .i64 0), .d (.int .i64 0), .d (.int .i64 0), .d (.int .i64 0), .d (.bool false)]], []⟩) (fun _ => rfl) ?_ ?_
    · refine Mir.bind fun y104 hy6 => ?_
      refine Mir.ite (fun hb7 => ?_) (fun hb7 => ?_)
      · refine Mir.region fun e h => ?_
        simp only [↓reduceIte, reduceCtorEq, nA, nS, nM, nE, nL, nT, nB, iT, iN, iE, and_self, SR, SV, ag_42, sz_42, encApiWord, encTableLength, hb7]
        refine SpecS.by (bk_Valid_spec hy6) (by simp only [↓reduceIte, reduceCtorEq, nA, nE, nL, and_self, and_true, true_and, SL, encApiWord, encTableLength, hb7]) ?_
        simp only [↓reduceIte, reduceCtorEq, nA, nS, nM, nE, nL, nT, nB, iT, iN, iE, and_self, SR, SV, encApiWord, encTableLength, hb7]
        cases h
        simp only [↓reduceIte, reduceCtorEq, nA, nE, nL, and_self, and_true, true_and, SL, encApiWord, encTableLength, hb7]
      · refine Mir.bind fun y105 hy8 => ?_
        refine Mir.ite (fun hb9 => ?_) (fun hb9 => ?_)
        · refine Mir.region fun e h => ?_
          simp only [↓reduceIte, reduceCtorEq, nA, nS, nM, nE, nL, nT, nB, iT, iN, iE, and_self, SR, SV, ag_42, sz_42, encApiWord, encTableLength, hb7, hb9]
          refine SpecS.by (bk_Valid_spec hy6) (by simp only [↓reduceIte, reduceCtorEq, nA, nE, nL, and_self, and_true, true_and, SL, encApiWord, encTableLength, hb7, hb9]) ?_
          simp only [↓reduceIte, reduceCtorEq, nA, nS, nM, nE, nL, nT, nB, iT, iN, iE, and_self, SR, SV, ag_42, sz_42, encApiWord, encTableLength, hb7, hb9]
          refine SpecS.by (md_Check_spec hy8) (by simp only [↓reduceIte, reduceCtorEq, nA, nE, nL, and_self, and_true, true_and, SL, encApiWord, encTableLength, hb7, hb9]) ?_
          simp only [↓reduceIte, reduceCtorEq, nA, nS, nM, nE, nL, nT, nB, iT, iN, iE, and_self, SR, SV, encApiWord, encTableLength, hb7, hb9]
          cases h
          simp only [↓reduceIte, reduceCtorEq, nA, nE, nL, and_self, and_true, true_and, SL, encApiWord, encTableLength, hb7, hb9]
        · refine Mir.bind fun y106 hy10 => ?_
          refine Mir.region fun e h => ?_
          simp only [↓reduceIte, reduceCtorEq, nA, nS, nM, nE, nL, nT, nB, iT, iN, iE, and_self, SR, SV, ag_42, sz_42, encApiWord, encTableLength, hb7, hb9]
          refine SpecS.by (bk_Valid_spec hy6) (by simp only [↓reduceIte, reduceCtorEq, nA, nE, nL, and_self, and_true, true_and, SL, encApiWord, encTableLength, hb7, hb9]) ?_
          simp only [↓reduceIte, reduceCtorEq, nA, nS, nM, nE, nL, nT, nB, iT, iN, iE, and_self, SR, SV, ag_42, sz_42, encApiWord, encTableLength, hb7, hb9]
          refine SpecS.by (md_Check_spec hy8) (by simp only [↓reduceIte, reduceCtorEq, nA, nE, nL, and_self, and_true, true_and, SL, encApiWord, encTableLength, hb7, hb9]) ?_
          simp only [↓reduceIte, reduceCtorEq, nA, nS, nM, nE, nL, nT, nB, iT, iN, iE, and_self, SR, SV, ag_42, sz_42, encApiWord, encTableLength, hb7, hb9]
          refine SpecS.by (inp_known_spec hy10) (by simp only [↓reduceIte, reduceCtorEq, nA, nE, nL, and_self, and_true, true_and, SL, encApiWord, encTableLength, hb7, hb9]) ?_
          simp only [↓reduceIte, reduceCtorEq, nA, nS, nM, nE, nL, nT, nB, iT, iN, iE, and_self, SR, SV, encApiWord, encTableLength, hb7, hb9]
          cases h
          simp only [↓reduceIte, reduceCtorEq, nA, nE, nL, and_self, and_true, true_and, SL, encApiWord, encTableLength, hb7, hb9]
    · intro v107
      refine Mir.toK ?_
      refine Mir.cond rfl (fun hb13 => ?_) (fun hb13 => ?_)
      · refine Mir.seqK ?_
        refine Mir.bind fun v109 hv14 => ?_
        refine Mir.region fun e h => ?_
        simp only [↓reduceIte, reduceCtorEq, nA, nS, nM, nE, nL, nT, nB, iT, iN, iE, and_self, SR, SV, encApiWord, encTableLength]
        refine SpecS.inl Tryd.func46 rfl (by kernel_rfl) (by kernel_rfl) (fun v109 : Unit => .tuple [.nil, .agg [.d (.int .i64 0), .d (.int .i64 0), .d (.int .i64 0), .d (.int .i64 0), .d (.int .i64 0), .d (.int .i64 0), .d (.int .i64 0), .d (.int .i64 0)], .agg [.d (.int .i64 0), .d (.int .i64 0), .d (.int .i64 0), .d (.int .i64 0), .d (.int .i64 0), .d (.int .i64 0), .d (.bool false)], .d (.int .i64 1)]) (fun v109 : Unit => ⟨[[.d (.int .i64 a0.Motion), .d (.int .i64 a0.Distance), .d (.int .i64 a0.Work), .d (.int .i64 a0.Length), .d (.int .i64 a0.Return), .d (.int .i64 a0.Feed), .d (.int .i64 a0.Tool), .d (.int .i64 a0.Offset)], [.d (.int .i64 a1.Code), .d (.int .i64 a1.R), .d (.int .i64 a1.Z), .d (.int .i64 a1.Q), .d (.int .i64 a1.Rate), .d (.int .i64 a1.Initial), .d (.bool a1.High)], [.d (.bool a2.Skip), .d (.list (List.map encApiWord a2.Words)), .d (.str a2.Comment)], [.d (.int .i64 a3.Work.e0.X), .d (.int .i64 a3.Work.e0.Y), .d (.int .i64 a3.Work.e0.Z), .d (.int .i64 a3.Work.e1.X), .d (.int .i64 a3.Work.e1.Y), .d (.int .i64 a3.Work.e1.Z), .d (.int .i64 a3.Work.e2.X), .d (.int .i64 a3.Work.e2.Y), .d (.int .i64 a3.Work.e2.Z), .d (.int .i64 a3.Work.e3.X), .d (.int .i64 a3.Work.e3.Y), .d (.int .i64 a3.Work.e3.Z), .d (.int .i64 a3.Work.e4.X), .d (.int .i64 a3.Work.e4.Y), .d (.int .i64 a3.Work.e4.Z), .d (.int .i64 a3.Work.e5.X), .d (.int .i64 a3.Work.e5.Y), .d (.int .i64 a3.Work.e5.Z), .d (.list (List.map encTableLength a3.Lengths))], [.d (.int .i64 a4.X), .d (.int .i64 a4.Y), .d (.int .i64 a4.Z)], [.d (.int .i64 0), .d (.int .i64 0), .d (.int .i64 0), .d (.int .i64 0), .d (.int .i64 0), .d (.int .i64 0), .d (.int .i64 0), .d (.int .i64 0)], [.d (.int .i64 0), .d (.int .i64 0), .d (.int .i64 0), .d (.int .i64 0), .d (.int .i64 0), .d (.int .i64 0), .d (.bool false)]], []⟩) hv14 rfl ?_ ?_
        · simp only [List.replicate, List.length, nS, nA, Tryd.ntmps46, SV]
          refine Mir.seqK ?_
          refine Mir.region fun e h => ?_
          simp only [↓reduceIte, reduceCtorEq, nA, nS, nM, nE, nL, nT, nB, iT, iN, iE, and_self, SR, SV, zero_65, zero_68, encApiWord, encTableLength]
          refine Mir.use (e := e) ?_ h
          refine Mir.seqK ?_
          refine Mir.region fun e h => ?_
          simp only [↓reduceIte, reduceCtorEq, nA, nS, nM, nE, nL, nT, nB, iT, iN, iE, and_self, SR, SV, zero_65, pl_65, zero_68, pl_68, sz_65, sz_68, encApiWord, encTableLength]
          refine Mir.use (e := e) ?_ h
          refine Mir.ret fun e h => ?_
          cases h
          simp only [↓reduceIte, reduceCtorEq, nA, nE, nL, and_self, and_true, true_and, SL, encApiWord, encTableLength, Tryd.results46, ag_65, sz_65, ag_68, sz_68]
        simp only [↓reduceIte, reduceCtorEq, nA, nS, nM, nE, nL, nT, nB, iT, iN, iE, and_self, SR, SV, sz_65, sz_68, encApiWord, encTableLength]
        refine Mir.use (e := e) ?_ h
        refine Mir.ret fun e h => ?_
        cases h
        simp only [↓reduceIte, reduceCtorEq, nA, nE, nL, and_self, and_true, true_and, SL, encApiWord, encTableLength, Tryd.results21, ag_65, sz_65, ag_68, sz_68, fx_r, fx_n, xr_o, xr_n, rowT]
      · refine Mir.skip ?_
        refine Mir.toK ?_
        refine Mir.seqK ?_
        refine Mir.bind fun y110 hy15 => ?_
        refine Mir.region fun e h => ?_
        simp only [↓reduceIte, reduceCtorEq, nA, nS, nM, nE, nL, nT, nB, iT, iN, iE, and_self, SR, SV, ag_65, sz_65, ag_42, sz_42, encApiMotion, encApiWord, encInterpreterReached, encTableLength]
        refine SpecS.by (md_Apply_spec hy15) (by simp only [↓reduceIte, reduceCtorEq, nA, nE, nL, and_self, and_true, true_and, SL, encApiMotion, encApiWord, encInterpreterReached, encTableLength]) ?_
        simp only [↓reduceIte, reduceCtorEq, nA, nS, nM, nE, nL, nT, nB, iT, iN, iE, and_self, SR, SV, sz_65, encApiMotion, encApiWord, encInterpreterReached, encTableLength]
        refine Mir.use (e := e) ?_ h
        refine Mir.seqK ?_
        refine Mir.seqK ?_
        refine Mir.region fun e h => ?_
        simp only [↓reduceIte, reduceCtorEq, nA, nS, nM, nE, nL, nT, nB, iT, iN, iE, and_self, SR, SV, encApiMotion, encApiWord, encInterpreterReached, encTableLength]
        refine Mir.use (e := e) ?_ h
        refine Mir.cond rfl (fun hb18 => ?_) (fun hb18 => ?_)
        · refine Mir.seqK ?_
          refine Mir.bind fun v112 hv19 => ?_
          refine Mir.region fun e h => ?_
          simp only [↓reduceIte, reduceCtorEq, nA, nS, nM, nE, nL, nT, nB, iT, iN, iE, and_self, SR, SV, encApiWord, encTableLength]
          refine SpecS.inl Tryd.func46 rfl (by kernel_rfl) (by kernel_rfl) (fun v112 : Unit => .tuple [.nil, .agg [.d (.int .i64 0), .d (.int .i64 0), .d (.int .i64 0), .d (.int .i64 0), .d (.int .i64 0), .d (.int .i64 0), .d (.int .i64 0), .d (.int .i64 0)], .agg [.d (.int .i64 0), .d (.int .i64 0), .d (.int .i64 0), .d (.int .i64 0), .d (.int .i64 0), .d (.int .i64 0), .d (.bool false)], .d (.int .i64 y110.2)]) (fun v112 : Unit => ⟨[[.d (.int .i64 y110.1.Motion), .d (.int .i64 y110.1.Distance), .d (.int .i64 y110.1.Work), .d (.int .i64 y110.1.Length), .d (.int .i64 y110.1.Return), .d (.int .i64 y110.1.Feed), .d (.int .i64 y110.1.Tool), .d (.int .i64 y110.1.Offset)], [.d (.int .i64 a1.Code), .d (.int .i64 a1.R), .d (.int .i64 a1.Z), .d (.int .i64 a1.Q), .d (.int .i64 a1.Rate), .d (.int .i64 a1.Initial), .d (.bool a1.High)], [.d (.bool a2.Skip), .d (.list (List.map encApiWord a2.Words)), .d (.str a2.Comment)], [.d (.int .i64 a3.Work.e0.X), .d (.int .i64 a3.Work.e0.Y), .d (.int .i64 a3.Work.e0.Z), .d (.int .i64 a3.Work.e1.X), .d (.int .i64 a3.Work.e1.Y), .d (.int .i64 a3.Work.e1.Z), .d (.int .i64 a3.Work.e2.X), .d (.int .i64 a3.Work.e2.Y), .d (.int .i64 a3.Work.e2.Z), .d (.int .i64 a3.Work.e3.X), .d (.int .i64 a3.Work.e3.Y), .d (.int .i64 a3.Work.e3.Z), .d (.int .i64 a3.Work.e4.X), .d (.int .i64 a3.Work.e4.Y), .d (.int .i64 a3.Work.e4.Z), .d (.int .i64 a3.Work.e5.X), .d (.int .i64 a3.Work.e5.Y), .d (.int .i64 a3.Work.e5.Z), .d (.list (List.map encTableLength a3.Lengths))], [.d (.int .i64 a4.X), .d (.int .i64 a4.Y), .d (.int .i64 a4.Z)], [.d (.int .i64 0), .d (.int .i64 0), .d (.int .i64 0), .d (.int .i64 0), .d (.int .i64 0), .d (.int .i64 0), .d (.int .i64 0), .d (.int .i64 0)], [.d (.int .i64 0), .d (.int .i64 0), .d (.int .i64 0), .d (.int .i64 0), .d (.int .i64 0), .d (.int .i64 0), .d (.bool false)]], []⟩) hv19 rfl ?_ ?_
          · simp only [List.replicate, List.length, nS, nA, Tryd.ntmps46, SV]
            refine Mir.seqK ?_
            refine Mir.region fun e h => ?_
            simp only [↓reduceIte, reduceCtorEq, nA, nS, nM, nE, nL, nT, nB, iT, iN, iE, and_self, SR, SV, zero_65, zero_68, encApiWord, encTableLength]
            refine Mir.use (e := e) ?_ h
            refine Mir.seqK ?_
            refine Mir.region fun e h => ?_
            simp only [↓reduceIte, reduceCtorEq, nA, nS, nM, nE, nL, nT, nB, iT, iN, iE, and_self, SR, SV, zero_65, pl_65, zero_68, pl_68, sz_65, sz_68, encApiWord, encTableLength]
            refine Mir.use (e := e) ?_ h
            refine Mir.ret fun e h => ?_
            cases h
            simp only [↓reduceIte, reduceCtorEq, nA, nE, nL, and_self, and_true, true_and, SL, encApiWord, encTableLength, Tryd.results46, ag_65, sz_65, ag_68, sz_68]
          simp only [↓reduceIte, reduceCtorEq, nA, nS, nM, nE, nL, nT, nB, iT, iN, iE, and_self, SR, SV, sz_65, sz_68, encApiWord, encTableLength]
          refine Mir.use (e := e) ?_ h
          refine Mir.ret fun e h => ?_
          cases h
          simp only [↓reduceIte, reduceCtorEq, nA, nE, nL, and_self, and_true, true_and, SL, encApiWord, encTableLength, Tryd.results21, ag_65, sz_65, ag_68, sz_68, fx_r, fx_n, xr_o, xr_n, rowT]
        · refine Mir.skip ?_
          refine Mir.toK ?_
          refine Mir.seqK ?_
          refine Mir.seqK ?_
          refine Mir.bind fun y113 hy20 => ?_
          refine Mir.region fun e h => ?_
          simp only [↓reduceIte, reduceCtorEq, nA, nS, nM, nE, nL, nT, nB, iT, iN, iE, and_self, SR, SV, fld_65_0, sz_2, ag_2, encApiMotion, encApiWord, encInterpreterReached, encTableLength]
          refine SpecS.by (inp_cycles_spec hy20) (by simp only [↓reduceIte, reduceCtorEq, nA, nE, nL, and_self, and_true, true_and, SL, encApiMotion, encApiWord, encInterpreterReached, encTableLength]) ?_
          simp only [↓reduceIte, reduceCtorEq, nA, nS, nM, nE, nL, nT, nB, iT, iN, iE, and_self, SR, SV, encApiMotion, encApiWord, encInterpreterReached, encTableLength]
          refine Mir.use (e := e) ?_ h
          refine Mir.joinO (fun v114 : CycleCycle => [U, U, U, U, U, .ptr 0 0, .ptr 1 0, .ptr 2 0, .ptr 3 0, .ptr 4 0, U, .ptr 5 0, .ptr 6 0, U, U, U, U, U, U, U, U, U, U, U, U, U, U, U, U, U, U, U, U, U, U, U, U, U, U, U, U, U, U, U, U, U, U, U, U, U, U, U, U, U, U, U, U, U, U, U, U, U, U, U, U, U, U, U, U, U, U, U, U, U, U, U, U, U, U, U, U, U, U, U, U, U, U, U, U, U, U, U, U, U, U, U, U, U, U, U, U, U, U, U, U, U, U, U, U, U, U, U, U, U, U, U, U, U, U, U, U, U, U, U, U, U, U, U, U, U, U, U, U, U, U, U, U, U, U, U, U, U, U, U, U, U, U, U, U, U, U, U, U, U, U, U, U, U, U, U, U, U, U, U, U, U, U, U, U, U, U, U, U, U, U, U, U, U, U, U, U, U, U, U, U, U, U, U, U, U, U, U, U, U, U, U, U, U, U, U, U, U, U, U, U]) (fun v114 : CycleCycle => ⟨[[.d (.int .i64 y110.1.Motion), .d (.int .i64 y110.1.Distance), .d (.int .i64 y110.1.Work), .d (.int .i64 y110.1.Length), .d (.int .i64 y110.1.Return), .d (.int .i64 y110.1.Feed), .d (.int .i64 y110.1.Tool), .d (.int .i64 y110.1.Offset)], [.d (.int .i64 v114.Code), .d (.int .i64 v114.R), .d (.int .i64 v114.Z), .d (.int .i64 v114.Q), .d (.int .i64 v114.Rate), .d (.int .i64 v114.Initial), .d (.bool v114.High)], [.d (.bool a2.Skip), .d (.list (List.map encApiWord a2.Words)), .d (.str a2.Comment)], [.d (.int .i64 a3.Work.e0.X), .d (.int .i64 a3.Work.e0.Y), .d (.int .i64 a3.Work.e0.Z), .d (.int .i64 a3.Work.e1.X), .d (.int .i64 a3.Work.e1.Y), .d (.int .i64 a3.Work.e1.Z), .d (.int .i64 a3.Work.e2.X), .d (.int .i64 a3.Work.e2.Y), .d (.int .i64 a3.Work.e2.Z), .d (.int .i64 a3.Work.e3.X), .d (.int .i64 a3.Work.e3.Y), .d (.int .i64 a3.Work.e3.Z), .d (.int .i64 a3.Work.e4.X), .d (.int .i64 a3.Work.e4.Y), .d (.int .i64 a3.Work.e4.Z), .d (.int .i64 a3.Work.e5.X), .d (.int .i64 a3.Work.e5.Y), .d (.int .i64 a3.Work.e5.Z), .d (.list (List.map encTableLength a3.Lengths))], [.d (.int .i64 a4.X), .d (.int .i64 a4.Y), .d (.int .i64 a4.Z)], [.d (.int .i64 0), .d (.int .i64 0), .d (.int .i64 0), .d (.int .i64 0), .d (.int .i64 0), .d (.int .i64 0), .d (.int .i64 0), .d (.int .i64 0)], [.d (.int .i64 0), .d (.int .i64 0), .d (.int .i64 0), .d (.int .i64 0), .d (.int .i64 0), .d (.int .i64 0), .d (.bool false)]], []⟩) (fun _ => rfl) ?_ ?_
          · refine Mir.cond rfl (fun hb22 => ?_) (fun hb22 => ?_)
            · refine Mir.region fun e h => ?_
              simp only [↓reduceIte, reduceCtorEq, nA, nS, nM, nE, nL, nT, nB, iT, iN, iE, and_self, SR, SV, zero_68, pl_68, sz_68, encApiWord, encTableLength]
              cases h
              simp only [↓reduceIte, reduceCtorEq, nA, nE, nL, and_self, and_true, true_and, SL, encApiWord, encTableLength, Tryd.results21, ag_65, sz_65, ag_68, sz_68]
            · refine Mir.skip fun e h => ?_
              cases h
              simp only [↓reduceIte, reduceCtorEq, nA, nE, nL, and_self, and_true, true_and, SL, encApiWord, encTableLength, Tryd.results21, ag_65, sz_65, ag_68, sz_68]
          · intro v114
            refine Mir.toK ?_
            refine Mir.seqK ?_
            refine Mir.seqK ?_
            refine Mir.bind fun y115 hy23 => ?_
            refine Mir.region fun e h => ?_
            simp only [↓reduceIte, reduceCtorEq, nA, nS, nM, nE, nL, nT, nB, iT, iN, iE, and_self, SR, SV, ag_42, sz_42, encApiMotion, encApiWord, encInterpreterReached, encTableLength]
            refine SpecS.by (inp_has_spec hy23) (by simp only [↓reduceIte, reduceCtorEq, nA, nE, nL, and_self, and_true, true_and, SL, encApiMotion, encApiWord, encInterpreterReached, encTableLength]) ?_
            simp only [↓reduceIte, reduceCtorEq, nA, nS, nM, nE, nL, nT, nB, iT, iN, iE, and_self, SR, SV, encApiMotion, encApiWord, encInterpreterReached, encTableLength]
            refine Mir.use (e := e) ?_ h
            refine Mir.cond rfl (fun hb25 => ?_) (fun hb25 => ?_)
            · refine Mir.seqK ?_
              refine Mir.regionD [(6, 11)] (by kernel_rfl) fun e h => ?_
              simp only [↓reduceIte, reduceCtorEq, nA, nS, nM, nE, nL, nT, nB, iT, iN, iE, and_self, SR, SV, sepL_nil, sepL_cons, sepV_ne, sepV_d, sepV_i, true_and, Bool.and_self, ag_65, sz_65, ag_68, sz_68, encApiWord, encTableLength]
              refine Mir.use (e := e) ?_ h
              refine Mir.ret fun e h => ?_
              cases h
              simp only [↓reduceIte, reduceCtorEq, nA, nE, nL, and_self, and_true, true_and, SL, encApiWord, encTableLength, Tryd.results21, ag_65, sz_65, ag_68, sz_68, fx_r, fx_n, xr_o, xr_n, rowT]
            · refine Mir.skip ?_
              refine Mir.toK ?_
              refine Mir.seqK ?_
              refine Mir.seqK ?_
              refine Mir.joinO (fun v123 : Bool => [U, U, U, U, U, .ptr 0 0, .ptr 1 0, .ptr 2 0, .ptr 3 0, .ptr 4 0, U, .ptr 5 0, .ptr 6 0, U, U, U, U, U, U, U, U, U, U, U, U, U, U, U, U, U, U, U, U, U, U, U, U, U, U, U, U, U, U, U, U, U, U, U, U, U, U, U, U, U, U, U, U, U, U, U, U, U, U, U, U, U, U, U, U, U, U, U, U, U, U, U, U, U, U, U, U, U, U, U, U, U, U, U, U, U, U, U, U, U, U, U, U, U, .d (.bool v123), U, U, U, U, U, U, U, U, U, U, U, U, U, U, U, U, U, U, U, U, U, U, U, U, U, U, U, U, U, U, U, U, U, U, U, U, U, U, U, U, U, U, U, U, U, U, U, U, U, U, U, U, U, U, U, U, U, U, U, U, U, U, U, U, U, U, U, U, U, U, U, U, U, U, U, U, U, U, U, U, U, U, U, U, U, U, U, U, U, U, U, U, U, U, U, U, U, U, U, U, U, U, U, U, U, U]) (fun v123 : Bool => ⟨[[.d (.int .i64 y110.1.Motion), .d (.int .i64 y110.1.Distance), .d (.int .i64 y110.1.Work), .d (.int .i64 y110.1.Length), .d (.int .i64 y110.1.Return), .d (.int .i64 y110.1.Feed), .d (.int .i64 y110.1.Tool), .d (.int .i64 y110.1.Offset)], [.d (.int .i64 v114.Code), .d (.int .i64 v114.R), .d (.int .i64 v114.Z), .d (.int .i64 v114.Q), .d (.int .i64 v114.Rate), .d (.int .i64 v114.Initial), .d (.bool v114.High)], [.d (.bool a2.Skip), .d (.list (List.map encApiWord a2.Words)), .d (.str a2.Comment)], [.d (.int .i64 a3.Work.e0.X), .d (.int .i64 a3.Work.e0.Y), .d (.int .i64 a3.Work.e0.Z), .d (.int .i64 a3.Work.e1.X), .d (.int .i64 a3.Work.e1.Y), .d (.int .i64 a3.Work.e1.Z), .d (.int .i64 a3.Work.e2.X), .d (.int .i64 a3.Work.e2.Y), .d (.int .i64 a3.Work.e2.Z), .d (.int .i64 a3.Work.e3.X), .d (.int .i64 a3.Work.e3.Y), .d (.int .i64 a3.Work.e3.Z), .d (.int .i64 a3.Work.e4.X), .d (.int .i64 a3.Work.e4.Y), .d (.int .i64 a3.Work.e4.Z), .d (.int .i64 a3.Work.e5.X), .d (.int .i64 a3.Work.e5.Y), .d (.int .i64 a3.Work.e5.Z), .d (.list (List.map encTableLength a3.Lengths))], [.d (.int .i64 a4.X), .d (.int .i64 a4.Y), .d (.int .i64 a4.Z)], [.d (.int .i64 0), .d (.int .i64 0), .d (.int .i64 0), .d (.int .i64 0), .d (.int .i64 0), .d (.int .i64 0), .d (.int .i64 0), .d (.int .i64 0)], [.d (.int .i64 0), .d (.int .i64 0), .d (.int .i64 0), .d (.int .i64 0), .d (.int .i64 0), .d (.int .i64 0), .d (.bool false)]], []⟩) (fun _ => rfl) ?_ ?_
              · refine Mir.bind fun y116 hy26 => ?_
                refine Mir.ite (fun hb27 => ?_) (fun hb27 => ?_)
                · refine Mir.ite (fun hb28 => ?_) (fun hb28 => ?_)
                  · refine Mir.ite (fun hb29 => ?_) (fun hb29 => ?_)
                    · refine Mir.region fun e h => ?_
                      simp only [↓reduceIte, reduceCtorEq, nA, nS, nM, nE, nL, nT, nB, iT, iN, iE, and_self, SR, SV, ag_42, sz_42, encApiWord, encTableLength, hb27, hb28, hb29]
                      refine SpecS.by (inp_has_spec hy26) (by simp only [↓reduceIte, reduceCtorEq, nA, nE, nL, and_self, and_true, true_and, SL, encApiWord, encTableLength, hb27, hb28, hb29]) ?_
                      simp only [↓reduceIte, reduceCtorEq, nA, nS, nM, nE, nL, nT, nB, iT, iN, iE, and_self, SR, SV, fld_65_0, sz_2, ag_2, encApiWord, encTableLength, hb27, hb28, hb29]
                      cases h
                      simp only [↓reduceIte, reduceCtorEq, nA, nE, nL, and_self, and_true, true_and, SL, encApiWord, encTableLength, hb27, hb28, hb29]
                    · refine Mir.bind fun y117 hy30 => ?_
                      refine Mir.ite (fun hb31 => ?_) (fun hb31 => ?_)
                      · refine Mir.bind fun y118 hy32 => ?_
                        refine Mir.region fun e h => ?_
                        simp only [↓reduceIte, reduceCtorEq, nA, nS, nM, nE, nL, nT, nB, iT, iN, iE, and_self, SR, SV, ag_42, sz_42, encApiWord, encTableLength, hb27, hb28, hb29, hb31]
                        refine SpecS.by (inp_has_spec hy26) (by simp only [↓reduceIte, reduceCtorEq, nA, nE, nL, and_self, and_true, true_and, SL, encApiWord, encTableLength, hb27, hb28, hb29, hb31]) ?_
                        simp only [↓reduceIte, reduceCtorEq, nA, nS, nM, nE, nL, nT, nB, iT, iN, iE, and_self, SR, SV, fld_65_0, sz_2, ag_2, ag_42, sz_42, encApiWord, encTableLength, hb27, hb28, hb29, hb31]
                        refine SpecS.by (inp_has_spec hy30) (by simp only [↓reduceIte, reduceCtorEq, nA, nE, nL, and_self, and_true, true_and, SL, encApiWord, encTableLength, hb27, hb28, hb29, hb31]) ?_
                        simp only [↓reduceIte, reduceCtorEq, nA, nS, nM, nE, nL, nT, nB, iT, iN, iE, and_self, SR, SV, fld_65_0, sz_2, ag_2, encApiWord, encTableLength, hb27, hb28, hb29, hb31]
                        refine SpecS.by (inp_cycles_spec hy32) (by simp only [↓reduceIte, reduceCtorEq, nA, nE, nL, and_self, and_true, true_and, SL, encApiWord, encTableLength, hb27, hb28, hb29, hb31]) ?_
                        simp only [↓reduceIte, reduceCtorEq, nA, nS, nM, nE, nL, nT, nB, iT, iN, iE, and_self, SR, SV, encApiWord, encTableLength, hb27, hb28, hb29, hb31]
                        cases h
                        simp only [↓reduceIte, reduceCtorEq, nA, nE, nL, and_self, and_true, true_and, SL, encApiWord, encTableLength, hb27, hb28, hb29, hb31]
                      · refine Mir.region fun e h => ?_
                        simp only [↓reduceIte, reduceCtorEq, nA, nS, nM, nE, nL, nT, nB, iT, iN, iE, and_self, SR, SV, ag_42, sz_42, encApiWord, encTableLength, hb27, hb28, hb29, hb31]
                        refine SpecS.by (inp_has_spec hy26) (by simp only [↓reduceIte, reduceCtorEq, nA, nE, nL, and_self, and_true, true_and, SL, encApiWord, encTableLength, hb27, hb28, hb29, hb31]) ?_
                        simp only [↓reduceIte, reduceCtorEq, nA, nS, nM, nE, nL, nT, nB, iT, iN, iE, and_self, SR, SV, fld_65_0, sz_2, ag_2, ag_42, sz_42, encApiWord, encTableLength, hb27, hb28, hb29, hb31]
                        refine SpecS.by (inp_has_spec hy30) (by simp only [↓reduceIte, reduceCtorEq, nA, nE, nL, and_self, and_true, true_and, SL, encApiWord, encTableLength, hb27, hb28, hb29, hb31]) ?_
                        simp only [↓reduceIte, reduceCtorEq, nA, nS, nM, nE, nL, nT, nB, iT, iN, iE, and_self, SR, SV, encApiWord, encTableLength, hb27, hb28, hb29, hb31]
                        cases h
                        simp only [↓reduceIte, reduceCtorEq, nA, nE, nL, and_self, and_true, true_and, SL, encApiWord, encTableLength, hb27, hb28, hb29, hb31]
                  · refine Mir.bind fun y119 hy33 => ?_
                    refine Mir.ite (fun hb34 => ?_) (fun hb34 => ?_)
                    · refine Mir.bind fun y120 hy35 => ?_
                      refine Mir.region fun e h => ?_
                      simp only [↓reduceIte, reduceCtorEq, nA, nS, nM, nE, nL, nT, nB, iT, iN, iE, and_self, SR, SV, ag_42, sz_42, encApiWord, encTableLength, hb27, hb28, hb34]
                      refine SpecS.by (inp_has_spec hy26) (by simp only [↓reduceIte, reduceCtorEq, nA, nE, nL, and_self, and_true, true_and, SL, encApiWord, encTableLength, hb27, hb28, hb34]) ?_
                      simp only [↓reduceIte, reduceCtorEq, nA, nS, nM, nE, nL, nT, nB, iT, iN, iE, and_self, SR, SV, fld_65_0, sz_2, ag_2, ag_42, sz_42, encApiWord, encTableLength, hb27, hb28, hb34]
                      refine SpecS.by (inp_has_spec hy33) (by simp only [↓reduceIte, reduceCtorEq, nA, nE, nL, and_self, and_true, true_and, SL, encApiWord, encTableLength, hb27, hb28, hb34]) ?_
                      simp only [↓reduceIte, reduceCtorEq, nA, nS, nM, nE, nL, nT, nB, iT, iN, iE, and_self, SR, SV, fld_65_0, sz_2, ag_2, encApiWord, encTableLength, hb27, hb28, hb34]
                      refine SpecS.by (inp_cycles_spec hy35) (by simp only [↓reduceIte, reduceCtorEq, nA, nE, nL, and_self, and_true, true_and, SL, encApiWord, encTableLength, hb27, hb28, hb34]) ?_
                      simp only [↓reduceIte, reduceCtorEq, nA, nS, nM, nE, nL, nT, nB, iT, iN, iE, and_self, SR, SV, encApiWord, encTableLength, hb27, hb28, hb34]
                      cases h
                      simp only [↓reduceIte, reduceCtorEq, nA, nE, nL, and_self, and_true, true_and, SL, encApiWord, encTableLength, hb27, hb28, hb34]
                    · refine Mir.region fun e h => ?_
                      simp only [↓reduceIte, reduceCtorEq, nA, nS, nM, nE, nL, nT, nB, iT, iN, iE, and_self, SR, SV, ag_42, sz_42, encApiWord, encTableLength, hb27, hb28, hb34]
                      refine SpecS.by (inp_has_spec hy26) (by simp only [↓reduceIte, reduceCtorEq, nA, nE, nL, and_self, and_true, true_and, SL, encApiWord, encTableLength, hb27, hb28, hb34]) ?_
                      simp only [↓reduceIte, reduceCtorEq, nA, nS, nM, nE, nL, nT, nB, iT, iN, iE, and_self, SR, SV, fld_65_0, sz_2, ag_2, ag_42, sz_42, encApiWord, encTableLength, hb27, hb28, hb34]
                      refine SpecS.by (inp_has_spec hy33) (by simp only [↓reduceIte, reduceCtorEq, nA, nE, nL, and_self, and_true, true_and, SL, encApiWord, encTableLength, hb27, hb28, hb34]) ?_
                      simp only [↓reduceIte, reduceCtorEq, nA, nS, nM, nE, nL, nT, nB, iT, iN, iE, and_self, SR, SV, encApiWord, encTableLength, hb27, hb28, hb34]
                      cases h
                      simp only [↓reduceIte, reduceCtorEq, nA, nE, nL, and_self, and_true, true_and, SL, encApiWord, encTableLength, hb27, hb28, hb34]
                · refine Mir.bind fun y121 hy36 => ?_
                  refine Mir.ite (fun hb37 => ?_) (fun hb37 => ?_)
                  · refine Mir.bind fun y122 hy38 => ?_
                    refine Mir.region fun e h => ?_
                    simp only [↓reduceIte, reduceCtorEq, nA, nS, nM, nE, nL, nT, nB, iT, iN, iE, and_self, SR, SV, ag_42, sz_42, encApiWord, encTableLength, hb27, hb37]
                    refine SpecS.by (inp_has_spec hy26) (by simp only [↓reduceIte, reduceCtorEq, nA, nE, nL, and_self, and_true, true_and, SL, encApiWord, encTableLength, hb27, hb37]) ?_
                    simp only [↓reduceIte, reduceCtorEq, nA, nS, nM, nE, nL, nT, nB, iT, iN, iE, and_self, SR, SV, ag_42, sz_42, encApiWord, encTableLength, hb27, hb37]
                    refine SpecS.by (inp_has_spec hy36) (by simp only [↓reduceIte, reduceCtorEq, nA, nE, nL, and_self, and_true, true_and, SL, encApiWord, encTableLength, hb27, hb37]) ?_
                    simp only [↓reduceIte, reduceCtorEq, nA, nS, nM, nE, nL, nT, nB, iT, iN, iE, and_self, SR, SV, fld_65_0, sz_2, ag_2, encApiWord, encTableLength, hb27, hb37]
                    refine SpecS.by (inp_cycles_spec hy38) (by simp only [↓reduceIte, reduceCtorEq, nA, nE, nL, and_self, and_true, true_and, SL, encApiWord, encTableLength, hb27, hb37]) ?_
                    simp only [↓reduceIte, reduceCtorEq, nA, nS, nM, nE, nL, nT, nB, iT, iN, iE, and_self, SR, SV, encApiWord, encTableLength, hb27, hb37]
                    cases h
                    simp only [↓reduceIte, reduceCtorEq, nA, nE, nL, and_self, and_true, true_and, SL, encApiWord, encTableLength, hb27, hb37]
                  · refine Mir.region fun e h => ?_
                    simp only [↓reduceIte, reduceCtorEq, nA, nS, nM, nE, nL, nT, nB, iT, iN, iE, and_self, SR, SV, ag_42, sz_42, encApiWord, encTableLength, hb27, hb37]
                    refine SpecS.by (inp_has_spec hy26) (by simp only [↓reduceIte, reduceCtorEq, nA, nE, nL, and_self, and_true, true_and, SL, encApiWord, encTableLength, hb27, hb37]) ?_
                    simp only [↓reduceIte, reduceCtorEq, nA, nS, nM, nE, nL, nT, nB, iT, iN, iE, and_self, SR, SV, ag_42, sz_42, encApiWord, encTableLength, hb27, hb37]
                    refine SpecS.by (inp_has_spec hy36) (by simp only [↓reduceIte, reduceCtorEq, nA, nE, nL, and_self, and_true, true_and, SL, encApiWord, encTableLength, hb27, hb37]) ?_
                    simp only [↓reduceIte, reduceCtorEq, nA, nS, nM, nE, nL, nT, nB, iT, iN, iE, and_self, SR, SV, encApiWord, encTableLength, hb27, hb37]
                    cases h
                    simp only [↓reduceIte, reduceCtorEq, nA, nE, nL, and_self, and_true, true_and, SL, encApiWord, encTableLength, hb27, hb37]
              · intro v123
                refine Mir.toK ?_
                refine Mir.cond rfl (fun hb41 => ?_) (fun hb41 => ?_)
                · refine Mir.seqK ?_
                  refine Mir.bind fun v125 hv42 => ?_
                  refine Mir.region fun e h => ?_
                  simp only [↓reduceIte, reduceCtorEq, nA, nS, nM, nE, nL, nT, nB, iT, iN, iE, and_self, SR, SV, encApiWord, encTableLength]
                  refine SpecS.inl Tryd.func46 rfl (by kernel_rfl) (by kernel_rfl) (fun v125 : Unit => .tuple [.nil, .agg [.d (.int .i64 0), .d (.int .i64 0), .d (.int .i64 0), .d (.int .i64 0), .d (.int .i64 0), .d (.int .i64 0), .d (.int .i64 0), .d (.int .i64 0)], .agg [.d (.int .i64 0), .d (.int .i64 0), .d (.int .i64 0), .d (.int .i64 0), .d (.int .i64 0), .d (.int .i64 0), .d (.bool false)], .d (.int .i64 1)]) (fun v125 : Unit => ⟨[[.d (.int .i64 y110.1.Motion), .d (.int .i64 y110.1.Distance), .d (.int .i64 y110.1.Work), .d (.int .i64 y110.1.Length), .d (.int .i64 y110.1.Return), .d (.int .i64 y110.1.Feed), .d (.int .i64 y110.1.Tool), .d (.int .i64 y110.1.Offset)], [.d (.int .i64 v114.Code), .d (.int .i64 v114.R), .d (.int .i64 v114.Z), .d (.int .i64 v114.Q), .d (.int .i64 v114.Rate), .d (.int .i64 v114.Initial), .d (.bool v114.High)], [.d (.bool a2.Skip), .d (.list (List.map encApiWord a2.Words)), .d (.str a2.Comment)], [.d (.int .i64 a3.Work.e0.X), .d (.int .i64 a3.Work.e0.Y), .d (.int .i64 a3.Work.e0.Z), .d (.int .i64 a3.Work.e1.X), .d (.int .i64 a3.Work.e1.Y), .d (.int .i64 a3.Work.e1.Z), .d (.int .i64 a3.Work.e2.X), .d (.int .i64 a3.Work.e2.Y), .d (.int .i64 a3.Work.e2.Z), .d (.int .i64 a3.Work.e3.X), .d (.int .i64 a3.Work.e3.Y), .d (.int .i64 a3.Work.e3.Z), .d (.int .i64 a3.Work.e4.X), .d (.int .i64 a3.Work.e4.Y), .d (.int .i64 a3.Work.e4.Z), .d (.int .i64 a3.Work.e5.X), .d (.int .i64 a3.Work.e5.Y), .d (.int .i64 a3.Work.e5.Z), .d (.list (List.map encTableLength a3.Lengths))], [.d (.int .i64 a4.X), .d (.int .i64 a4.Y), .d (.int .i64 a4.Z)], [.d (.int .i64 0), .d (.int .i64 0), .d (.int .i64 0), .d (.int .i64 0), .d (.int .i64 0), .d (.int .i64 0), .d (.int .i64 0), .d (.int .i64 0)], [.d (.int .i64 0), .d (.int .i64 0), .d (.int .i64 0), .d (.int .i64 0), .d (.int .i64 0), .d (.int .i64 0), .d (.bool false)]], []⟩) hv42 rfl ?_ ?_
                  · simp only [List.replicate, List.length, nS, nA, Tryd.ntmps46, SV]
                    refine Mir.seqK ?_
                    refine Mir.region fun e h => ?_
                    simp only [↓reduceIte, reduceCtorEq, nA, nS, nM, nE, nL, nT, nB, iT, iN, iE, and_self, SR, SV, zero_65, zero_68, encApiWord, encTableLength]
                    refine Mir.use (e := e) ?_ h
                    refine Mir.seqK ?_
                    refine Mir.region fun e h => ?_
                    simp only [↓reduceIte, reduceCtorEq, nA, nS, nM, nE, nL, nT, nB, iT, iN, iE, and_self, SR, SV, zero_65, pl_65, zero_68, pl_68, sz_65, sz_68, encApiWord, encTableLength]
                    refine Mir.use (e := e) ?_ h
                    refine Mir.ret fun e h => ?_
                    cases h
                    simp only [↓reduceIte, reduceCtorEq, nA, nE, nL, and_self, and_true, true_and, SL, encApiWord, encTableLength, Tryd.results46, ag_65, sz_65, ag_68, sz_68]
                  simp only [↓reduceIte, reduceCtorEq, nA, nS, nM, nE, nL, nT, nB, iT, iN, iE, and_self, SR, SV, sz_65, sz_68, encApiWord, encTableLength]
                  refine Mir.use (e := e) ?_ h
                  refine Mir.ret fun e h => ?_
                  cases h
                  simp only [↓reduceIte, reduceCtorEq, nA, nE, nL, and_self, and_true, true_and, SL, encApiWord, encTableLength, Tryd.results21, ag_65, sz_65, ag_68, sz_68, fx_r, fx_n, xr_o, xr_n, rowT]
                · refine Mir.skip ?_
                  refine Mir.toK ?_
                  refine Mir.seqK ?_
                  refine Mir.seqK ?_
                  refine Mir.joinV [U, U, U, U, U, .ptr 0 0, .ptr 1 0, .ptr 2 0, .ptr 3 0, .ptr 4 0, U, .ptr 5 0, .ptr 6 0, U, U, U, U, U, U, U, U, U, U, U, U, U, U, U, U, U, U, U, U, U, U, U, U, U, U, U, U, U, U, U, U, U, U, U, U, U, U, U, U, U, U, U, U, U, U, U, U, U, U, U, U, U, U, U, U, U, U, U, U, U, U, U, U, U, U, U, U, U, U, U, U, U, U, U, U, U, U, U, U, U, U, U, U, U, U, U, U, U, U, U, U, U, U, U, U, U, U, U, U, U, U, U, .d (.bool ((y110.1.Motion == 80000) || ((y110.1.Motion != 0) && (decide (y110.1.Feed ≤ 0))))), U, U, U, U, U, U, U, U, U, U, U, U, U, U, U, U, U, U, U, U, U, U, U, U, U, U, U, U, U, U, U, U, U, U, U, U, U, U, U, U, U, U, U, U, U, U, U, U, U, U, U, U, U, U, U, U, U, U, U, U, U, U, U, U, U, U, U, U, U, U, U, U, U, U, U, U, U, U, U, U, U, U, U, U, U, U, U, U] ⟨[[.d (.int .i64 y110.1.Motion), .d (.int .i64 y110.1.Distance), .d (.int .i64 y110.1.Work), .d (.int .i64 y110.1.Length), .d (.int .i64 y110.1.Return), .d (.int .i64 y110.1.Feed), .d (.int .i64 y110.1.Tool), .d (.int .i64 y110.1.Offset)], [.d (.int .i64 v114.Code), .d (.int .i64 v114.R), .d (.int .i64 v114.Z), .d (.int .i64 v114.Q), .d (.int .i64 v114.Rate), .d (.int .i64 v114.Initial), .d (.bool v114.High)], [.d (.bool a2.Skip), .d (.list (List.map encApiWord a2.Words)), .d (.str a2.Comment)], [.d (.int .i64 a3.Work.e0.X), .d (.int .i64 a3.Work.e0.Y), .d (.int .i64 a3.Work.e0.Z), .d (.int .i64 a3.Work.e1.X), .d (.int .i64 a3.Work.e1.Y), .d (.int .i64 a3.Work.e1.Z), .d (.int .i64 a3.Work.e2.X), .d (.int .i64 a3.Work.e2.Y), .d (.int .i64 a3.Work.e2.Z), .d (.int .i64 a3.Work.e3.X), .d (.int .i64 a3.Work.e3.Y), .d (.int .i64 a3.Work.e3.Z), .d (.int .i64 a3.Work.e4.X), .d (.int .i64 a3.Work.e4.Y), .d (.int .i64 a3.Work.e4.Z), .d (.int .i64 a3.Work.e5.X), .d (.int .i64 a3.Work.e5.Y), .d (.int .i64 a3.Work.e5.Z), .d (.list (List.map encTableLength a3.Lengths))], [.d (.int .i64 a4.X), .d (.int .i64 a4.Y), .d (.int .i64 a4.Z)], [.d (.int .i64 0), .d (.int .i64 0), .d (.int .i64 0), .d (.int .i64 0), .d (.int .i64 0), .d (.int .i64 0), .d (.int .i64 0), .d (.int .i64 0)], [.d (.int .i64 0), .d (.int .i64 0), .d (.int .i64 0), .d (.int .i64 0), .d (.int .i64 0), .d (.int .i64 0), .d (.bool false)]], []⟩ rfl ?_ ?_
                  · refine SWs.region ?_
                    rcases Bool.eq_false_or_eq_true (y110.1.Motion == 80000) with hb43 | hb43
                    · simp only [↓reduceIte, reduceCtorEq, nA, nS, nM, nE, nL, nT, nB, iT, iN, iE, and_self, SR, SV, SL, Bool.true_and, Bool.false_and, Bool.true_or, Bool.false_or, Bool.or_true, Bool.or_false, Bool.and_true, Bool.and_false, Bool.not_true, Bool.not_false, fld_65_0, sz_2, ag_2, hb43, encApiMotion, encApiWord, encInterpreterReached, encTableLength]
                    · rcases Bool.eq_false_or_eq_true (y110.1.Motion != 0) with hb44 | hb44
                      · simp only [↓reduceIte, reduceCtorEq, nA, nS, nM, nE, nL, nT, nB, iT, iN, iE, and_self, SR, SV, SL, Bool.true_and, Bool.false_and, Bool.true_or, Bool.false_or, Bool.or_true, Bool.or_false, Bool.and_true, Bool.and_false, Bool.not_true, Bool.not_false, fld_65_0, sz_2, ag_2, fld_65_5, hb43, hb44, encApiMotion, encApiWord, encInterpreterReached, encTableLength]
                      · simp only [↓reduceIte, reduceCtorEq, nA, nS, nM, nE, nL, nT, nB, iT, iN, iE, and_self, SR, SV, SL, Bool.true_and, Bool.false_and, Bool.true_or, Bool.false_or, Bool.or_true, Bool.or_false, Bool.and_true, Bool.and_false, Bool.not_true, Bool.not_false, fld_65_0, sz_2, ag_2, hb43, hb44, encApiMotion, encApiWord, encInterpreterReached, encTableLength]
                  · refine Mir.toK ?_
                    refine Mir.cond rfl (fun hb47 => ?_) (fun hb47 => ?_)
                    · refine Mir.seqK ?_
                      refine Mir.bind fun v127 hv48 => ?_
                      refine Mir.region fun e h => ?_
                      simp only [↓reduceIte, reduceCtorEq, nA, nS, nM, nE, nL, nT, nB, iT, iN, iE, and_self, SR, SV, encApiWord, encTableLength]
                      refine SpecS.inl Tryd.func46 rfl (by kernel_rfl) (by kernel_rfl) (fun v127 : Unit => .tuple [.nil, .agg [.d (.int .i64 0), .d (.int .i64 0), .d (.int .i64 0), .d (.int .i64 0), .d (.int .i64 0), .d (.int .i64 0), .d (.int .i64 0), .d (.int .i64 0)], .agg [.d (.int .i64 0), .d (.int .i64 0), .d (.int .i64 0), .d (.int .i64 0), .d (.int .i64 0), .d (.int .i64 0), .d (.bool false)], .d (.int .i64 13)]) (fun v127 : Unit => ⟨[[.d (.int .i64 y110.1.Motion), .d (.int .i64 y110.1.Distance), .d (.int .i64 y110.1.Work), .d (.int .i64 y110.1.Length), .d (.int .i64 y110.1.Return), .d (.int .i64 y110.1.Feed), .d (.int .i64 y110.1.Tool), .d (.int .i64 y110.1.Offset)], [.d (.int .i64 v114.Code), .d (.int .i64 v114.R), .d (.int .i64 v114.Z), .d (.int .i64 v114.Q), .d (.int .i64 v114.Rate), .d (.int .i64 v114.Initial), .d (.bool v114.High)], [.d (.bool a2.Skip), .d (.list (List.map encApiWord a2.Words)), .d (.str a2.Comment)], [.d (.int .i64 a3.Work.e0.X), .d (.int .i64 a3.Work.e0.Y), .d (.int .i64 a3.Work.e0.Z), .d (.int .i64 a3.Work.e1.X), .d (.int .i64 a3.Work.e1.Y), .d (.int .i64 a3.Work.e1.Z), .d (.int .i64 a3.Work.e2.X), .d (.int .i64 a3.Work.e2.Y), .d (.int .i64 a3.Work.e2.Z), .d (.int .i64 a3.Work.e3.X), .d (.int .i64 a3.Work.e3.Y), .d (.int .i64 a3.Work.e3.Z), .d (.int .i64 a3.Work.e4.X), .d (.int .i64 a3.Work.e4.Y), .d (.int .i64 a3.Work.e4.Z), .d (.int .i64 a3.Work.e5.X), .d (.int .i64 a3.Work.e5.Y), .d (.int .i64 a3.Work.e5.Z), .d (.list (List.map encTableLength a3.Lengths))], [.d (.int .i64 a4.X), .d (.int .i64 a4.Y), .d (.int .i64 a4.Z)], [.d (.int .i64 0), .d (.int .i64 0), .d (.int .i64 0), .d (.int .i64 0), .d (.int .i64 0), .d (.int .i64 0), .d (.int .i64 0), .d (.int .i64 0)], [.d (.int .i64 0), .d (.int .i64 0), .d (.int .i64 0), .d (.int .i64 0), .d (.int .i64 0), .d (.int .i64 0), .d (.bool false)]], []⟩) hv48 rfl ?_ ?_
                      · simp only [List.replicate, List.length, nS, nA, Tryd.ntmps46, SV]
                        refine Mir.seqK ?_
                        refine Mir.region fun e h => ?_
                        simp only [↓reduceIte, reduceCtorEq, nA, nS, nM, nE, nL, nT, nB, iT, iN, iE, and_self, SR, SV, zero_65, zero_68, encApiWord, encTableLength]
                        refine Mir.use (e := e) ?_ h
                        refine Mir.seqK ?_
                        refine Mir.region fun e h => ?_
                        simp only [↓reduceIte, reduceCtorEq, nA, nS, nM, nE, nL, nT, nB, iT, iN, iE, and_self, SR, SV, zero_65, pl_65, zero_68, pl_68, sz_65, sz_68, encApiWord, encTableLength]
                        refine Mir.use (e := e) ?_ h
                        refine Mir.ret fun e h => ?_
                        cases h
                        simp only [↓reduceIte, reduceCtorEq, nA, nE, nL, and_self, and_true, true_and, SL, encApiWord, encTableLength, Tryd.results46, ag_65, sz_65, ag_68, sz_68]
                      simp only [↓reduceIte, reduceCtorEq, nA, nS, nM, nE, nL, nT, nB, iT, iN, iE, and_self, SR, SV, sz_65, sz_68, encApiWord, encTableLength]
                      refine Mir.use (e := e) ?_ h
                      refine Mir.ret fun e h => ?_
                      cases h
                      simp only [↓reduceIte, reduceCtorEq, nA, nE, nL, and_self, and_true, true_and, SL, encApiWord, encTableLength, Tryd.results21, ag_65, sz_65, ag_68, sz_68, fx_r, fx_n, xr_o, xr_n, rowT]
                    · refine Mir.skip ?_
                      refine Mir.toK ?_
                      refine Mir.seqK ?_
                      refine Mir.region fun e h => ?_
                      simp only [↓reduceIte, reduceCtorEq, nA, nS, nM, nE, nL, nT, nB, iT, iN, iE, and_self, SR, SV, encApiMotion, encApiWord, encInterpreterReached, encTableLength]
                      refine Mir.use (e := e) ?_ h
                      refine Mir.seqK ?_
                      refine Mir.seqK ?_
                      refine Mir.region fun e h => ?_
                      simp only [↓reduceIte, reduceCtorEq, nA, nS, nM, nE, nL, nT, nB, iT, iN, iE, and_self, SR, SV, fld_65_3, sz_2, ag_2, encApiMotion, encApiWord, encInterpreterReached, encTableLength]
                      refine Mir.use (e := e) ?_ h
                      refine Mir.joinO (fun v128 : Int => [U, U, U, U, U, .ptr 0 0, .ptr 1 0, .ptr 2 0, .ptr 3 0, .ptr 4 0, U, .ptr 5 0, .ptr 6 0, U, U, U, .d (.int .i64 v128), U, U, U, U, U, U, U, U, U, U, U, U, U, U, U, U, U, U, U, U, U, U, U, U, U, U, U, U, U, U, U, U, U, U, U, U, U, U, U, U, U, U, U, U, U, U, U, U, U, U, U, U, U, U, U, U, U, U, U, U, U, U, U, U, U, U, U, U, U, U, U, U, U, U, U, U, U, U, U, U, U, U, U, U, U, U, U, U, U, U, U, U, U, U, U, U, U, U, U, U, U, U, U, U, U, U, U, U, U, U, U, U, U, U, U, U, U, U, U, U, U, U, U, U, U, U, U, U, U, U, U, U, U, U, U, U, U, U, U, U, U, U, U, U, U, U, U, U, U, U, U, U, U, U, U, U, U, U, U, U, U, U, U, U, U, U, U, U, U, U, U, U, U, U, U, U, U, U, U, U, U, U, U, U, U, U, U, U]) (fun v128 : Int => ⟨[[.d (.int .i64 y110.1.Motion), .d (.int .i64 y110.1.Distance), .d (.int .i64 y110.1.Work), .d (.int .i64 y110.1.Length), .d (.int .i64 y110.1.Return), .d (.int .i64 y110.1.Feed), .d (.int .i64 y110.1.Tool), .d (.int .i64 y110.1.Offset)], [.d (.int .i64 v114.Code), .d (.int .i64 v114.R), .d (.int .i64 v114.Z), .d (.int .i64 v114.Q), .d (.int .i64 v114.Rate), .d (.int .i64 v114.Initial), .d (.bool v114.High)], [.d (.bool a2.Skip), .d (.list (List.map encApiWord a2.Words)), .d (.str a2.Comment)], [.d (.int .i64 a3.Work.e0.X), .d (.int .i64 a3.Work.e0.Y), .d (.int .i64 a3.Work.e0.Z), .d (.int .i64 a3.Work.e1.X), .d (.int .i64 a3.Work.e1.Y), .d (.int .i64 a3.Work.e1.Z), .d (.int .i64 a3.Work.e2.X), .d (.int .i64 a3.Work.e2.Y), .d (.int .i64 a3.Work.e2.Z), .d (.int .i64 a3.Work.e3.X), .d (.int .i64 a3.Work.e3.Y), .d (.int .i64 a3.Work.e3.Z), .d (.int .i64 a3.Work.e4.X), .d (.int .i64 a3.Work.e4.Y), .d (.int .i64 a3.Work.e4.Z), .d (.int .i64 a3.Work.e5.X), .d (.int .i64 a3.Work.e5.Y), .d (.int .i64 a3.Work.e5.Z), .d (.list (List.map encTableLength a3.Lengths))], [.d (.int .i64 a4.X), .d (.int .i64 a4.Y), .d (.int .i64 a4.Z)], [.d (.int .i64 0), .d (.int .i64 0), .d (.int .i64 0), .d (.int .i64 0), .d (.int .i64 0), .d (.int .i64 0), .d (.int .i64 0), .d (.int .i64 0)], [.d (.int .i64 0), .d (.int .i64 0), .d (.int .i64 0), .d (.int .i64 0), .d (.int .i64 0), .d (.int .i64 0), .d (.bool false)]], []⟩) (fun _ => rfl) ?_ ?_
                      · refine Mir.cond rfl (fun hb50 => ?_) (fun hb50 => ?_)
                        · refine Mir.region fun e h => ?_
                          simp only [↓reduceIte, reduceCtorEq, nA, nS, nM, nE, nL, nT, nB, iT, iN, iE, and_self, SR, SV, fld_65_7, sz_2, ag_2, encApiWord, encTableLength]
                          cases h
                          simp only [↓reduceIte, reduceCtorEq, nA, nE, nL, and_self, and_true, true_and, SL, encApiWord, encTableLength, Tryd.results21, ag_65, sz_65, ag_68, sz_68]
                        · refine Mir.skip fun e h => ?_
                          cases h
                          simp only [↓reduceIte, reduceCtorEq, nA, nE, nL, and_self, and_true, true_and, SL, encApiWord, encTableLength, Tryd.results21, ag_65, sz_65, ag_68, sz_68]
                      · intro v128
                        refine Mir.toK ?_
                        refine Mir.seqK ?_
                        refine Mir.bind fun y129 hy51 => ?_
                        refine Mir.region fun e h => ?_
                        simp only [↓reduceIte, reduceCtorEq, nA, nS, nM, nE, nL, nT, nB, iT, iN, iE, and_self, SR, SV, ag_54, sz_54, fld_65_2, sz_2, ag_2, ag_24, sz_24, encApiMotion, encApiWord, encInterpreterReached, encTableLength]
                        refine SpecS.by (tb_Work_spec hy51) (by simp only [↓reduceIte, reduceCtorEq, nA, nE, nL, and_self, and_true, true_and, SL, encApiMotion, encApiWord, encInterpreterReached, encTableLength]) ?_
                        simp only [↓reduceIte, reduceCtorEq, nA, nS, nM, nE, nL, nT, nB, iT, iN, iE, and_self, SR, SV, zero_24, sz_24, encApiMotion, encApiWord, encInterpreterReached, encTableLength]
                        refine Mir.use (e := e) ?_ h
                        refine Mir.seqK ?_
                        refine Mir.seqK ?_
                        refine Mir.region fun e h => ?_
                        simp only [↓reduceIte, reduceCtorEq, nA, nS, nM, nE, nL, nT, nB, iT, iN, iE, and_self, SR, SV, encApiMotion, encApiWord, encInterpreterReached, encTableLength]
                        refine Mir.use (e := e) ?_ h
                        refine Mir.cond rfl (fun hb54 => ?_) (fun hb54 => ?_)
                        · refine Mir.seqK ?_
                          refine Mir.bind fun v131 hv55 => ?_
                          refine Mir.region fun e h => ?_
                          simp only [↓reduceIte, reduceCtorEq, nA, nS, nM, nE, nL, nT, nB, iT, iN, iE, and_self, SR, SV, encApiWord, encTableLength]
                          refine SpecS.inl Tryd.func46 rfl (by kernel_rfl) (by kernel_rfl) (fun v131 : Unit => .tuple [.nil, .agg [.d (.int .i64 0), .d (.int .i64 0), .d (.int .i64 0), .d (.int .i64 0), .d (.int .i64 0), .d (.int .i64 0), .d (.int .i64 0), .d (.int .i64 0)], .agg [.d (.int .i64 0), .d (.int .i64 0), .d (.int .i64 0), .d (.int .i64 0), .d (.int .i64 0), .d (.int .i64 0), .d (.bool false)], .d (.int .i64 y129.2)]) (fun v131 : Unit => ⟨[[.d (.int .i64 y110.1.Motion), .d (.int .i64 y110.1.Distance), .d (.int .i64 y110.1.Work), .d (.int .i64 y110.1.Length), .d (.int .i64 y110.1.Return), .d (.int .i64 y110.1.Feed), .d (.int .i64 y110.1.Tool), .d (.int .i64 y110.1.Offset)], [.d (.int .i64 v114.Code), .d (.int .i64 v114.R), .d (.int .i64 v114.Z), .d (.int .i64 v114.Q), .d (.int .i64 v114.Rate), .d (.int .i64 v114.Initial), .d (.bool v114.High)], [.d (.bool a2.Skip), .d (.list (List.map encApiWord a2.Words)), .d (.str a2.Comment)], [.d (.int .i64 a3.Work.e0.X), .d (.int .i64 a3.Work.e0.Y), .d (.int .i64 a3.Work.e0.Z), .d (.int .i64 a3.Work.e1.X), .d (.int .i64 a3.Work.e1.Y), .d (.int .i64 a3.Work.e1.Z), .d (.int .i64 a3.Work.e2.X), .d (.int .i64 a3.Work.e2.Y), .d (.int .i64 a3.Work.e2.Z), .d (.int .i64 a3.Work.e3.X), .d (.int .i64 a3.Work.e3.Y), .d (.int .i64 a3.Work.e3.Z), .d (.int .i64 a3.Work.e4.X), .d (.int .i64 a3.Work.e4.Y), .d (.int .i64 a3.Work.e4.Z), .d (.int .i64 a3.Work.e5.X), .d (.int .i64 a3.Work.e5.Y), .d (.int .i64 a3.Work.e5.Z), .d (.list (List.map encTableLength a3.Lengths))], [.d (.int .i64 a4.X), .d (.int .i64 a4.Y), .d (.int .i64 a4.Z)], [.d (.int .i64 0), .d (.int .i64 0), .d (.int .i64 0), .d (.int .i64 0), .d (.int .i64 0), .d (.int .i64 0), .d (.int .i64 0), .d (.int .i64 0)], [.d (.int .i64 0), .d (.int .i64 0), .d (.int .i64 0), .d (.int .i64 0), .d (.int .i64 0), .d (.int .i64 0), .d (.bool false)], [.d (.int .i64 y129.1.X), .d (.int .i64 y129.1.Y), .d (.int .i64 y129.1.Z)]], []⟩) hv55 rfl ?_ ?_
                          · simp only [List.replicate, List.length, nS, nA, Tryd.ntmps46, SV]
                            refine Mir.seqK ?_
                            refine Mir.region fun e h => ?_
                            simp only [↓reduceIte, reduceCtorEq, nA, nS, nM, nE, nL, nT, nB, iT, iN, iE, and_self, SR, SV, zero_65, zero_68, encApiWord, encTableLength]
                            refine Mir.use (e := e) ?_ h
                            refine Mir.seqK ?_
                            refine Mir.region fun e h => ?_
                            simp only [↓reduceIte, reduceCtorEq, nA, nS, nM, nE, nL, nT, nB, iT, iN, iE, and_self, SR, SV, zero_65, pl_65, zero_68, pl_68, sz_65, sz_68, encApiWord, encTableLength]
                            refine Mir.use (e := e) ?_ h
                            refine Mir.ret fun e h => ?_
                            cases h
                            simp only [↓reduceIte, reduceCtorEq, nA, nE, nL, and_self, and_true, true_and, SL, encApiWord, encTableLength, Tryd.results46, ag_65, sz_65, ag_68, sz_68]
                          simp only [↓reduceIte, reduceCtorEq, nA, nS, nM, nE, nL, nT, nB, iT, iN, iE, and_self, SR, SV, sz_65, sz_68, encApiWord, encTableLength]
                          refine Mir.use (e := e) ?_ h
                          refine Mir.ret fun e h => ?_
                          cases h
                          simp only [↓reduceIte, reduceCtorEq, nA, nE, nL, and_self, and_true, true_and, SL, encApiWord, encTableLength, Tryd.results21, ag_65, sz_65, ag_68, sz_68, fx_r, fx_n, xr_o, xr_n, rowT]
                        · refine Mir.skip ?_
                          refine Mir.toK ?_
                          refine Mir.seqK ?_
                          refine Mir.bind fun y132 hy56 => ?_
                          refine Mir.region fun e h => ?_
                          simp only [↓reduceIte, reduceCtorEq, nA, nS, nM, nE, nL, nT, nB, iT, iN, iE, and_self, SR, SV, ag_65, sz_65, ag_68, sz_68, ag_42, sz_42, ag_24, sz_24, encApiMotion, encApiWord, encInterpreterReached, encTableLength]
                          refine SpecS.by (inp_positions_spec hy56) (by simp only [↓reduceIte, reduceCtorEq, nA, nE, nL, and_self, and_true, true_and, SL, encApiMotion, encApiWord, encInterpreterReached, encTableLength]) ?_
                          simp only [↓reduceIte, reduceCtorEq, nA, nS, nM, nE, nL, nT, nB, iT, iN, iE, and_self, SR, SV, sz_68, encApiMotion, encApiWord, encInterpreterReached, encTableLength]
                          refine Mir.use (e := e) ?_ h
                          refine Mir.seqK ?_
                          refine Mir.seqK ?_
                          refine Mir.region fun e h => ?_
                          simp only [↓reduceIte, reduceCtorEq, nA, nS, nM, nE, nL, nT, nB, iT, iN, iE, and_self, SR, SV, encApiMotion, encApiWord, encInterpreterReached, encTableLength]
                          refine Mir.use (e := e) ?_ h
                          refine Mir.cond rfl (fun hb59 => ?_) (fun hb59 => ?_)
                          · refine Mir.seqK ?_
                            refine Mir.bind fun v134 hv60 => ?_
                            refine Mir.region fun e h => ?_
                            simp only [↓reduceIte, reduceCtorEq, nA, nS, nM, nE, nL, nT, nB, iT, iN, iE, and_self, SR, SV, encApiWord, encTableLength]
                            refine SpecS.inl Tryd.func46 rfl (by kernel_rfl) (by kernel_rfl) (fun v134 : Unit => .tuple [.nil, .agg [.d (.int .i64 0), .d (.int .i64 0), .d (.int .i64 0), .d (.int .i64 0), .d (.int .i64 0), .d (.int .i64 0), .d (.int .i64 0), .d (.int .i64 0)], .agg [.d (.int .i64 0), .d (.int .i64 0), .d (.int .i64 0), .d (.int .i64 0), .d (.int .i64 0), .d (.int .i64 0), .d (.bool false)], .d (.int .i64 y132.2.2)]) (fun v134 : Unit => ⟨[[.d (.int .i64 y110.1.Motion), .d (.int .i64 y110.1.Distance), .d (.int .i64 y110.1.Work), .d (.int .i64 y110.1.Length), .d (.int .i64 y110.1.Return), .d (.int .i64 y110.1.Feed), .d (.int .i64 y110.1.Tool), .d (.int .i64 y110.1.Offset)], [.d (.int .i64 y132.2.1.Code), .d (.int .i64 y132.2.1.R), .d (.int .i64 y132.2.1.Z), .d (.int .i64 y132.2.1.Q), .d (.int .i64 y132.2.1.Rate), .d (.int .i64 y132.2.1.Initial), .d (.bool y132.2.1.High)], [.d (.bool a2.Skip), .d (.list (List.map encApiWord a2.Words)), .d (.str a2.Comment)], [.d (.int .i64 a3.Work.e0.X), .d (.int .i64 a3.Work.e0.Y), .d (.int .i64 a3.Work.e0.Z), .d (.int .i64 a3.Work.e1.X), .d (.int .i64 a3.Work.e1.Y), .d (.int .i64 a3.Work.e1.Z), .d (.int .i64 a3.Work.e2.X), .d (.int .i64 a3.Work.e2.Y), .d (.int .i64 a3.Work.e2.Z), .d (.int .i64 a3.Work.e3.X), .d (.int .i64 a3.Work.e3.Y), .d (.int .i64 a3.Work.e3.Z), .d (.int .i64 a3.Work.e4.X), .d (.int .i64 a3.Work.e4.Y), .d (.int .i64 a3.Work.e4.Z), .d (.int .i64 a3.Work.e5.X), .d (.int .i64 a3.Work.e5.Y), .d (.int .i64 a3.Work.e5.Z), .d (.list (List.map encTableLength a3.Lengths))], [.d (.int .i64 a4.X), .d (.int .i64 a4.Y), .d (.int .i64 a4.Z)], [.d (.int .i64 0), .d (.int .i64 0), .d (.int .i64 0), .d (.int .i64 0), .d (.int .i64 0), .d (.int .i64 0), .d (.int .i64 0), .d (.int .i64 0)], [.d (.int .i64 0), .d (.int .i64 0), .d (.int .i64 0), .d (.int .i64 0), .d (.int .i64 0), .d (.int .i64 0), .d (.bool false)], [.d (.int .i64 y129.1.X), .d (.int .i64 y129.1.Y), .d (.int .i64 y129.1.Z)]], []⟩) hv60 rfl ?_ ?_
                            · simp only [List.replicate, List.length, nS, nA, Tryd.ntmps46, SV]
                              refine Mir.seqK ?_
                              refine Mir.region fun e h => ?_
                              simp only [↓reduceIte, reduceCtorEq, nA, nS, nM, nE, nL, nT, nB, iT, iN, iE, and_self, SR, SV, zero_65, zero_68, encApiWord, encTableLength]
                              refine Mir.use (e := e) ?_ h
                              refine Mir.seqK ?_
                              refine Mir.region fun e h => ?_
                              simp only [↓reduceIte, reduceCtorEq, nA, nS, nM, nE, nL, nT, nB, iT, iN, iE, and_self, SR, SV, zero_65, pl_65, zero_68, pl_68, sz_65, sz_68, encApiWord, encTableLength]
                              refine Mir.use (e := e) ?_ h
                              refine Mir.ret fun e h => ?_
                              cases h
                              simp only [↓reduceIte, reduceCtorEq, nA, nE, nL, and_self, and_true, true_and, SL, encApiWord, encTableLength, Tryd.results46, ag_65, sz_65, ag_68, sz_68]
                            simp only [↓reduceIte, reduceCtorEq, nA, nS, nM, nE, nL, nT, nB, iT, iN, iE, and_self, SR, SV, sz_65, sz_68, encApiWord, encTableLength]
                            refine Mir.use (e := e) ?_ h
                            refine Mir.ret fun e h => ?_
                            cases h
                            simp only [↓reduceIte, reduceCtorEq, nA, nE, nL, and_self, and_true, true_and, SL, encApiWord, encTableLength, Tryd.results21, ag_65, sz_65, ag_68, sz_68, fx_r, fx_n, xr_o, xr_n, rowT]
                          · refine Mir.skip ?_
                            refine Mir.toK ?_
                            refine Mir.seqK ?_
                            refine Mir.region fun e h => ?_
                            simp only [↓reduceIte, reduceCtorEq, nA, nS, nM, nE, nL, nT, nB, iT, iN, iE, and_self, SR, SV, encApiMotion, encApiWord, encInterpreterReached, encTableLength]
                            refine Mir.use (e := e) ?_ h
                            refine Mir.seqK ?_
                            refine Mir.seqK ?_
                            refine Mir.region fun e h => ?_
                            simp only [↓reduceIte, reduceCtorEq, nA, nS, nM, nE, nL, nT, nB, iT, iN, iE, and_self, SR, SV, und_107, encApiMotion, encApiWord, encInterpreterReached, encTableLength]
                            refine Mir.use (e := e) ?_ h
                            refine Mir.gh [.slot 19 62] rfl ?_
                            refine Mir.join (fun v238 : (List ApiMotion) × ApiPos => [U, U, U, U, U, .ptr 0 0, .ptr 1 0, U, U, U, U, .ptr 5 0, .ptr 6 0, U, U, U, U, U, U, .own 0 (List.map encApiMotion v238.1), U, U, U, U, U, U, U, U, U, U, U, U, U, U, U, U, U, U, U, U, U, U, U, U, U, U, U, U, U, U, U, U, U, U, U, U, U, U, U, U, U, U, U, U, U, U, U, U, U, U, U, U, U, U, U, U, U, U, U, U, U, U, U, U, U, U, U, U, U, U, U, U, U, U, U, U, U, U, U, U, U, U, U, U, U, U, U, U, U, U, U, U, U, U, U, U, U, U, U, U, U, U, U, U, U, U, U, U, U, U, U, U, U, U, U, U, U, U, U, U, U, U, U, U, U, U, U, U, U, U, U, U, U, U, U, U, U, U, U, U, U, U, U, U, U, U, U, U, U, U, U, U, U, U, U, U, U, U, U, U, U, U, U, U, U, U, U, U, U, U, U, U, U, U, U, U, U, U, U, U, U, U, U, U, U]) (fun v238 : (List ApiMotion) × ApiPos => ⟨[[.d (.int .i64 y110.1.Motion), .d (.int .i64 y110.1.Distance), .d (.int .i64 y110.1.Work), .d (.int .i64 y110.1.Length), .d (.int .i64 y110.1.Return), .d (.int .i64 y110.1.Feed), .d (.int .i64 y110.1.Tool), .d (.int .i64 y110.1.Offset)], [.d (.int .i64 y132.2.1.Code), .d (.int .i64 y132.2.1.R), .d (.int .i64 y132.2.1.Z), .d (.int .i64 y132.2.1.Q), .d (.int .i64 y132.2.1.Rate), .d (.int .i64 y132.2.1.Initial), .d (.bool y132.2.1.High)], [.d (.bool a2.Skip), .d (.list (List.map encApiWord a2.Words)), .d (.str a2.Comment)], [.d (.int .i64 a3.Work.e0.X), .d (.int .i64 a3.Work.e0.Y), .d (.int .i64 a3.Work.e0.Z), .d (.int .i64 a3.Work.e1.X), .d (.int .i64 a3.Work.e1.Y), .d (.int .i64 a3.Work.e1.Z), .d (.int .i64 a3.Work.e2.X), .d (.int .i64 a3.Work.e2.Y), .d (.int .i64 a3.Work.e2.Z), .d (.int .i64 a3.Work.e3.X), .d (.int .i64 a3.Work.e3.Y), .d (.int .i64 a3.Work.e3.Z), .d (.int .i64 a3.Work.e4.X), .d (.int .i64 a3.Work.e4.Y), .d (.int .i64 a3.Work.e4.Z), .d (.int .i64 a3.Work.e5.X), .d (.int .i64 a3.Work.e5.Y), .d (.int .i64 a3.Work.e5.Z), .d (.list (List.map encTableLength a3.Lengths))], [.d (.int .i64 v238.2.X), .d (.int .i64 v238.2.Y), .d (.int .i64 v238.2.Z)], [.d (.int .i64 0), .d (.int .i64 0), .d (.int .i64 0), .d (.int .i64 0), .d (.int .i64 0), .d (.int .i64 0), .d (.int .i64 0), .d (.int .i64 0)], [.d (.int .i64 0), .d (.int .i64 0), .d (.int .i64 0), .d (.int .i64 0), .d (.int .i64 0), .d (.int .i64 0), .d (.bool false)], [.d (.int .i64 y129.1.X), .d (.int .i64 y129.1.Y), .d (.int .i64 y129.1.Z)]], [(62, v238.1.length)]⟩) (fun _ => rfl) ?_ ?_
                            · refine Mir.block ?_
                              refine Mir.guard fun qg311 => ?_
                              refine Mir.range (fun (i274 : Nat) (v275 : (List ApiMotion) × ApiPos) => [U, U, U, U, U, .ptr 0 0, .ptr 1 0, U, .ptr 3 0, .ptr 4 0, U, .ptr 5 0, .ptr 6 0, U, U, U, .d (.int .i64 v128), U, U, .own 0 (List.map encApiMotion v275.1), U, U, U, U, U, U, U, U, U, U, U, U, U, U, U, U, U, U, U, U, U, U, U, U, U, U, U, U, U, U, U, U, U, U, U, U, U, U, U, U, U, U, U, U, U, U, U, U, U, U, U, U, U, U, U, U, U, U, U, U, U, U, U, U, U, U, U, U, U, U, U, U, U, U, U, U, U, U, U, U, U, U, U, U, U, U, U, U, U, U, U, U, U, U, U, U, U, U, U, U, U, U, U, U, U, U, U, U, U, U, U, U, U, U, U, U, U, U, U, U, U, U, U, U, U, U, U, U, U, U, U, U, U, U, U, U, U, U, U, U, U, U, .d (.list (List.map encInterpreterReached y132.1)), .d (.int .i64 (y132.1.length : Int)), .d (.int .i64 (i274 : Int)), U, U, U, U, U, U, U, U, U, U, U, U, U, U, U, U, U, U, U, U, U, U, U, U, U, U, U, U, U, U, U, U, U, U, U, U, U, U, U, U]) (fun (i274 : Nat) (v275 : (List ApiMotion) × ApiPos) => ⟨[[.d (.int .i64 y110.1.Motion), .d (.int .i64 y110.1.Distance), .d (.int .i64 y110.1.Work), .d (.int .i64 y110.1.Length), .d (.int .i64 y110.1.Return), .d (.int .i64 y110.1.Feed), .d (.int .i64 y110.1.Tool), .d (.int .i64 y110.1.Offset)], [.d (.int .i64 y132.2.1.Code), .d (.int .i64 y132.2.1.R), .d (.int .i64 y132.2.1.Z), .d (.int .i64 y132.2.1.Q), .d (.int .i64 y132.2.1.Rate), .d (.int .i64 y132.2.1.Initial), .d (.bool y132.2.1.High)], [.d (.bool a2.Skip), .d (.list (List.map encApiWord a2.Words)), .d (.str a2.Comment)], [.d (.int .i64 a3.Work.e0.X), .d (.int .i64 a3.Work.e0.Y), .d (.int .i64 a3.Work.e0.Z), .d (.int .i64 a3.Work.e1.X), .d (.int .i64 a3.Work.e1.Y), .d (.int .i64 a3.Work.e1.Z), .d (.int .i64 a3.Work.e2.X), .d (.int .i64 a3.Work.e2.Y), .d (.int .i64 a3.Work.e2.Z), .d (.int .i64 a3.Work.e3.X), .d (.int .i64 a3.Work.e3.Y), .d (.int .i64 a3.Work.e3.Z), .d (.int .i64 a3.Work.e4.X), .d (.int .i64 a3.Work.e4.Y), .d (.int .i64 a3.Work.e4.Z), .d (.int .i64 a3.Work.e5.X), .d (.int .i64 a3.Work.e5.Y), .d (.int .i64 a3.Work.e5.Z), .d (.list (List.map encTableLength a3.Lengths))], [.d (.int .i64 v275.2.X), .d (.int .i64 v275.2.Y), .d (.int .i64 v275.2.Z)], [.d (.int .i64 0), .d (.int .i64 0), .d (.int .i64 0), .d (.int .i64 0), .d (.int .i64 0), .d (.int .i64 0), .d (.int .i64 0), .d (.int .i64 0)], [.d (.int .i64 0), .d (.int .i64 0), .d (.int .i64 0), .d (.int .i64 0), .d (.int .i64 0), .d (.int .i64 0), .d (.bool false)], [.d (.int .i64 y129.1.X), .d (.int .i64 y129.1.Y), .d (.int .i64 y129.1.Z)]], [(62, v275.1.length)]⟩) qg311 (fun _ _ => rfl) (by simp only [↓reduceIte, reduceCtorEq, nA, nE, nL, and_self, and_true, true_and, SL, encApiMotion, encApiWord, encInterpreterReached, encTableLength, (nr rfl : ((0 : Nat) : Int) = 0)]) (by simp only [↓reduceIte, reduceCtorEq, nA, nE, nL, and_self, and_true, true_and, SL, encApiMotion, encApiWord, encInterpreterReached, encTableLength, (nr rfl : ((0 : Nat) : Int) = 0)]) ?_ ?_
                              · intro i274 e276 v275 qr309
                                refine Mir.seqK ?_
                                refine Mir.region fun e h => ?_
                                simp only [↓reduceIte, reduceCtorEq, nA, nS, nM, nE, nL, nT, nB, iT, iN, iE, and_self, SR, SV, qr309, encApiMotion, encApiWord, encInterpreterReached, encTableLength]
                                refine Mir.use (e := e) ?_ h
                                refine Mir.seqK ?_
                                refine Mir.condT rfl ?_
                                refine Mir.skip ?_
                                refine Mir.toK ?_
                                refine Mir.seqK ?_
                                refine Mir.block ?_
                                refine Mir.seqK ?_
                                refine Mir.region fun e h => ?_
                                simp only [↓reduceIte, reduceCtorEq, nA, nS, nM, nE, nL, nT, nB, iT, iN, iE, and_self, SR, SV, und_107, sz_111, qr309, ag_111, zero_111, encApiMotion, encApiWord, encInterpreterReached, encTableLength]
                                refine Mir.use (e := e) ?_ h
                                refine Mir.seqK ?_
                                refine Mir.bind fun y281 hy321 => ?_
                                refine Mir.region fun e h => ?_
                                simp only [↓reduceIte, reduceCtorEq, nA, nS, nM, nE, nL, nT, nB, iT, iN, iE, and_self, SR, SV, ag_54, sz_54, fld_65_2, sz_2, ag_2, fld_111_0, sz_24, ag_24, encApiMotion, encApiWord, encInterpreterReached, encTableLength]
                                refine SpecS.by (tb_Machine_spec hy321) (by simp only [↓reduceIte, reduceCtorEq, nA, nE, nL, and_self, and_true, true_and, SL, encApiMotion, encApiWord, encInterpreterReached, encTableLength]) ?_
                                simp only [↓reduceIte, reduceCtorEq, nA, nS, nM, nE, nL, nT, nB, iT, iN, iE, and_self, SR, SV, zero_24, sz_24, encApiMotion, encApiWord, encInterpreterReached, encTableLength]
                                refine Mir.use (e := e) ?_ h
                                refine Mir.seqK ?_
                                refine Mir.seqK ?_
                                refine Mir.region fun e h => ?_
                                simp only [↓reduceIte, reduceCtorEq, nA, nS, nM, nE, nL, nT, nB, iT, iN, iE, and_self, SR, SV, encApiMotion, encApiWord, encInterpreterReached, encTableLength]
                                refine Mir.use (e := e) ?_ h
                                refine Mir.cond rfl (fun hb324 => ?_) (fun hb324 => ?_)
                                · refine Mir.seqK ?_
                                  refine Mir.bind fun v283 hv325 => ?_
                                  refine Mir.region fun e h => ?_
                                  simp only [↓reduceIte, reduceCtorEq, nA, nS, nM, nE, nL, nT, nB, iT, iN, iE, and_self, SR, SV, encApiMotion, encApiWord, encInterpreterReached, encTableLength]
                                  refine SpecS.inl Tryd.func46 rfl (by kernel_rfl) (by kernel_rfl) (fun v283 : Unit => .tuple [.nil, .agg [.d (.int .i64 0), .d (.int .i64 0), .d (.int .i64 0), .d (.int .i64 0), .d (.int .i64 0), .d (.int .i64 0), .d (.int .i64 0), .d (.int .i64 0)], .agg [.d (.int .i64 0), .d (.int .i64 0), .d (.int .i64 0), .d (.int .i64 0), .d (.int .i64 0), .d (.int .i64 0), .d (.bool false)], .d (.int .i64 y281.2)]) (fun v283 : Unit => ⟨[[.d (.int .i64 y110.1.Motion), .d (.int .i64 y110.1.Distance), .d (.int .i64 y110.1.Work), .d (.int .i64 y110.1.Length), .d (.int .i64 y110.1.Return), .d (.int .i64 y110.1.Feed), .d (.int .i64 y110.1.Tool), .d (.int .i64 y110.1.Offset)], [.d (.int .i64 y132.2.1.Code), .d (.int .i64 y132.2.1.R), .d (.int .i64 y132.2.1.Z), .d (.int .i64 y132.2.1.Q), .d (.int .i64 y132.2.1.Rate), .d (.int .i64 y132.2.1.Initial), .d (.bool y132.2.1.High)], [.d (.bool a2.Skip), .d (.list (List.map encApiWord a2.Words)), .d (.str a2.Comment)], [.d (.int .i64 a3.Work.e0.X), .d (.int .i64 a3.Work.e0.Y), .d (.int .i64 a3.Work.e0.Z), .d (.int .i64 a3.Work.e1.X), .d (.int .i64 a3.Work.e1.Y), .d (.int .i64 a3.Work.e1.Z), .d (.int .i64 a3.Work.e2.X), .d (.int .i64 a3.Work.e2.Y), .d (.int .i64 a3.Work.e2.Z), .d (.int .i64 a3.Work.e3.X), .d (.int .i64 a3.Work.e3.Y), .d (.int .i64 a3.Work.e3.Z), .d (.int .i64 a3.Work.e4.X), .d (.int .i64 a3.Work.e4.Y), .d (.int .i64 a3.Work.e4.Z), .d (.int .i64 a3.Work.e5.X), .d (.int .i64 a3.Work.e5.Y), .d (.int .i64 a3.Work.e5.Z), .d (.list (List.map encTableLength a3.Lengths))], [.d (.int .i64 v275.2.X), .d (.int .i64 v275.2.Y), .d (.int .i64 v275.2.Z)], [.d (.int .i64 0), .d (.int .i64 0), .d (.int .i64 0), .d (.int .i64 0), .d (.int .i64 0), .d (.int .i64 0), .d (.int .i64 0), .d (.int .i64 0)], [.d (.int .i64 0), .d (.int .i64 0), .d (.int .i64 0), .d (.int .i64 0), .d (.int .i64 0), .d (.int .i64 0), .d (.bool false)], [.d (.int .i64 y129.1.X), .d (.int .i64 y129.1.Y), .d (.int .i64 y129.1.Z)], [.d (.int .i64 e276.at_.X), .d (.int .i64 e276.at_.Y), .d (.int .i64 e276.at_.Z), .d (.int .i64 e276.rate)], [.d (.int .i64 y281.1.X), .d (.int .i64 y281.1.Y), .d (.int .i64 y281.1.Z)]], [(62, v275.1.length)]⟩) hv325 rfl ?_ ?_
                                  · simp only [List.replicate, List.length, nS, nA, Tryd.ntmps46, SV]
                                    refine Mir.seqK ?_
                                    refine Mir.region fun e h => ?_
                                    simp only [↓reduceIte, reduceCtorEq, nA, nS, nM, nE, nL, nT, nB, iT, iN, iE, and_self, SR, SV, zero_65, zero_68, encApiMotion, encApiWord, encInterpreterReached, encTableLength]
                                    refine Mir.use (e := e) ?_ h
                                    refine Mir.seqK ?_
                                    refine Mir.region fun e h => ?_
                                    simp only [↓reduceIte, reduceCtorEq, nA, nS, nM, nE, nL, nT, nB, iT, iN, iE, and_self, SR, SV, zero_65, pl_65, zero_68, pl_68, sz_65, sz_68, encApiMotion, encApiWord, encInterpreterReached, encTableLength]
                                    refine Mir.use (e := e) ?_ h
                                    refine Mir.ret fun e h => ?_
                                    cases h
                                    simp only [↓reduceIte, reduceCtorEq, nA, nE, nL, and_self, and_true, true_and, SL, encApiMotion, encApiWord, encInterpreterReached, encTableLength, Tryd.results46, ag_65, sz_65, ag_68, sz_68]
                                  simp only [↓reduceIte, reduceCtorEq, nA, nS, nM, nE, nL, nT, nB, iT, iN, iE, and_self, SR, SV, sz_65, sz_68, encApiMotion, encApiWord, encInterpreterReached, encTableLength]
                                  refine Mir.use (e := e) ?_ h
                                  refine Mir.ret fun e h => ?_
                                  cases h
                                  simp only [↓reduceIte, reduceCtorEq, nA, nE, nL, and_self, and_true, true_and, SL, encApiMotion, encApiWord, encInterpreterReached, encTableLength, Tryd.results21, ag_65, sz_65, ag_68, sz_68, fx_r, fx_n, xr_o, xr_n, rowT]
                                · refine Mir.skip ?_
                                  refine Mir.toK ?_
                                  refine Mir.seqK ?_
                                  refine Mir.seqK ?_
                                  refine Mir.region fun e h => ?_
                                  simp only [↓reduceIte, reduceCtorEq, nA, nS, nM, nE, nL, nT, nB, iT, iN, iE, and_self, SR, SV, ag_24, sz_24, gE_24, encApiMotion, encApiWord, encInterpreterReached, encTableLength]
                                  refine Mir.use (e := e) ?_ h
                                  refine Mir.joinO (fun v284 : (List ApiMotion) => [U, U, U, U, U, .ptr 0 0, .ptr 1 0, U, .ptr 3 0, .ptr 4 0, U, .ptr 5 0, .ptr 6 0, U, U, U, .d (.int .i64 v128), U, U, .own 0 (List.map encApiMotion v284), U, U, .ptr 9 0, U, U, U, U, U, U, U, U, U, U, U, U, U, U, U, U, U, U, U, U, U, U, U, U, U, U, U, U, U, U, U, U, U, U, U, U, U, U, U, U, U, U, U, U, U, U, U, U, U, U, U, U, U, U, U, U, U, U, U, U, U, U, U, U, U, U, U, U, U, U, U, U, U, U, U, U, U, U, U, U, U, U, U, U, U, U, U, U, U, U, U, U, U, U, U, U, U, U, U, U, U, U, U, U, U, U, U, U, U, U, U, U, U, U, U, U, U, U, U, U, U, U, U, U, U, U, U, U, U, U, U, U, U, U, U, U, U, U, U, .d (.list (List.map encInterpreterReached y132.1)), .d (.int .i64 (y132.1.length : Int)), .d (.int .i64 (i274 : Int)), U, U, U, U, U, U, U, U, U, U, U, U, U, U, U, U, U, U, U, U, U, U, U, U, U, U, U, U, U, U, U, U, U, U, U, U, U, U, U, U]) (fun v284 : (List ApiMotion) => ⟨[[.d (.int .i64 y110.1.Motion), .d (.int .i64 y110.1.Distance), .d (.int .i64 y110.1.Work), .d (.int .i64 y110.1.Length), .d (.int .i64 y110.1.Return), .d (.int .i64 y110.1.Feed), .d (.int .i64 y110.1.Tool), .d (.int .i64 y110.1.Offset)], [.d (.int .i64 y132.2.1.Code), .d (.int .i64 y132.2.1.R), .d (.int .i64 y132.2.1.Z), .d (.int .i64 y132.2.1.Q), .d (.int .i64 y132.2.1.Rate), .d (.int .i64 y132.2.1.Initial), .d (.bool y132.2.1.High)], [.d (.bool a2.Skip), .d (.list (List.map encApiWord a2.Words)), .d (.str a2.Comment)], [.d (.int .i64 a3.Work.e0.X), .d (.int .i64 a3.Work.e0.Y), .d (.int .i64 a3.Work.e0.Z), .d (.int .i64 a3.Work.e1.X), .d (.int .i64 a3.Work.e1.Y), .d (.int .i64 a3.Work.e1.Z), .d (.int .i64 a3.Work.e2.X), .d (.int .i64 a3.Work.e2.Y), .d (.int .i64 a3.Work.e2.Z), .d (.int .i64 a3.Work.e3.X), .d (.int .i64 a3.Work.e3.Y), .d (.int .i64 a3.Work.e3.Z), .d (.int .i64 a3.Work.e4.X), .d (.int .i64 a3.Work.e4.Y), .d (.int .i64 a3.Work.e4.Z), .d (.int .i64 a3.Work.e5.X), .d (.int .i64 a3.Work.e5.Y), .d (.int .i64 a3.Work.e5.Z), .d (.list (List.map encTableLength a3.Lengths))], [.d (.int .i64 v275.2.X), .d (.int .i64 v275.2.Y), .d (.int .i64 v275.2.Z)], [.d (.int .i64 0), .d (.int .i64 0), .d (.int .i64 0), .d (.int .i64 0), .d (.int .i64 0), .d (.int .i64 0), .d (.int .i64 0), .d (.int .i64 0)], [.d (.int .i64 0), .d (.int .i64 0), .d (.int .i64 0), .d (.int .i64 0), .d (.int .i64 0), .d (.int .i64 0), .d (.bool false)], [.d (.int .i64 y129.1.X), .d (.int .i64 y129.1.Y), .d (.int .i64 y129.1.Z)], [.d (.int .i64 e276.at_.X), .d (.int .i64 e276.at_.Y), .d (.int .i64 e276.at_.Z), .d (.int .i64 e276.rate)], [.d (.int .i64 y281.1.X), .d (.int .i64 y281.1.Y), .d (.int .i64 y281.1.Z)]], [(62, v284.length)]⟩) (fun _ => rfl) ?_ ?_
                                  · refine Mir.cond rfl (fun hb328 => ?_) (fun hb328 => ?_)
                                    · refine Mir.guard fun q329 => ?_
                                      refine Mir.region fun e h => ?_
                                      simp only [↓reduceIte, reduceCtorEq, nA, nS, nM, nE, nL, nT, nB, iT, iN, iE, and_self, SR, SV, ag_24, sz_24, fld_111_1, sz_2, ag_2, fld_65_6, zero_62, pl_62, und_47, sz_62, (nr rfl : okLen 9 = true), app_47, al_ApiMotion, q329, encApiMotion, encApiWord, encInterpreterReached, encTableLength]
                                      cases h
                                      simp only [↓reduceIte, reduceCtorEq, nA, nE, nL, and_self, and_true, true_and, SL, encApiMotion, encApiWord, encInterpreterReached, encTableLength, Tryd.results21, ag_65, sz_65, ag_68, sz_68]
                                    · refine Mir.skip fun e h => ?_
                                      cases h
                                      simp only [↓reduceIte, reduceCtorEq, nA, nE, nL, and_self, and_true, true_and, SL, encApiMotion, encApiWord, encInterpreterReached, encTableLength, Tryd.results21, ag_65, sz_65, ag_68, sz_68]
                                  · intro v284
                                    refine Mir.toK ?_
                                    refine Mir.region fun e h => ?_
                                    simp only [↓reduceIte, reduceCtorEq, nA, nS, nM, nE, nL, nT, nB, iT, iN, iE, and_self, SR, SV, ag_24, sz_24, encApiMotion, encApiWord, encInterpreterReached, encTableLength]
                                    refine Mir.use (e := e) ?_ h
                                    refine Mir.region fun e h => ?_
                                    simp only [↓reduceIte, reduceCtorEq, nA, nS, nM, nE, nL, nT, nB, iT, iN, iE, and_self, SR, SV, encApiMotion, encApiWord, encInterpreterReached, encTableLength]
                                    cases h
                                    simp only [↓reduceIte, reduceCtorEq, nA, nE, nL, and_self, and_true, true_and, SL, encApiMotion, encApiWord, encInterpreterReached, encTableLength, Tryd.results21, ag_65, sz_65, ag_68, sz_68, qr309]
                              · intro v275 qd310
                                refine Mir.seqK ?_
                                refine Mir.region fun e h => ?_
                                simp only [↓reduceIte, reduceCtorEq, nA, nS, nM, nE, nL, nT, nB, iT, iN, iE, and_self, SR, SV, qd310, encApiMotion, encApiWord, encInterpreterReached, encTableLength]
                                refine Mir.use (e := e) ?_ h
                                refine Mir.seqK ?_
                                refine Mir.condF rfl ?_
                                refine Mir.exit fun e h => ?_
                                cases h
                                simp only [↓reduceIte, reduceCtorEq, nA, nE, nL, and_self, and_true, true_and, SL, encApiMotion, encApiWord, encInterpreterReached, encTableLength, Tryd.results21, ag_65, sz_65, ag_68, sz_68]
                            · intro v238
                              refine Mir.toK ?_
                              refine Mir.seqK ?_
                              refine Mir.regionD [(6, 11)] (by kernel_rfl) fun e h => ?_
                              simp only [↓reduceIte, reduceCtorEq, nA, nS, nM, nE, nL, nT, nB, iT, iN, iE, and_self, SR, SV, sepL_nil, sepL_cons, sepV_ne, sepV_d, sepV_i, true_and, Bool.and_self, ag_65, sz_65, ag_68, sz_68, encApiMotion, encApiWord, encInterpreterReached, encTableLength]
                              refine Mir.use (e := e) ?_ h
                              refine Mir.ret fun e h => ?_
                              cases h
                              simp only [↓reduceIte, reduceCtorEq, nA, nE, nL, and_self, and_true, true_and, SL, encApiMotion, encApiWord, encInterpreterReached, encTableLength, Tryd.results21, ag_65, sz_65, ag_68, sz_68, fx_r, fx_n, xr_o, xr_n, rowT]
theorem inp_Step_spec {a0 : ModalState} {a1 : CycleCycle} {a2 : ApiBlock} {a3 : TableTable} {a4 : ApiPos} {y : (List ApiMotion) × ModalState × CycleCycle × Int} (h : inp_Step a0 a1 a2 a3 a4 = some y) : Spec gP 21 [.agg [.d (.int .i64 a0.Motion), .d (.int .i64 a0.Distance), .d (.int .i64 a0.Work), .d (.int .i64 a0.Length), .d (.int .i64 a0.Return), .d (.int .i64 a0.Feed), .d (.int .i64 a0.Tool), .d (.int .i64 a0.Offset)], .agg [.d (.int .i64 a1.Code), .d (.int .i64 a1.R), .d (.int .i64 a1.Z), .d (.int .i64 a1.Q), .d (.int .i64 a1.Rate), .d (.int .i64 a1.Initial), .d (.bool a1.High)], .agg [.d (.bool a2.Skip), .d (.list (List.map encApiWord a2.Words)), .d (.str a2.Comment)], .agg [.d (.int .i64 a3.Work.e0.X), .d (.int .i64 a3.Work.e0.Y), .d (.int .i64 a3.Work.e0.Z), .d (.int .i64 a3.Work.e1.X), .d (.int .i64 a3.Work.e1.Y), .d (.int .i64 a3.Work.e1.Z), .d (.int .i64 a3.Work.e2.X), .d (.int .i64 a3.Work.e2.Y), .d (.int .i64 a3.Work.e2.Z), .d (.int .i64 a3.Work.e3.X), .d (.int .i64 a3.Work.e3.Y), .d (.int .i64 a3.Work.e3.Z), .d (.int .i64 a3.Work.e4.X), .d (.int .i64 a3.Work.e4.Y), .d (.int .i64 a3.Work.e4.Z), .d (.int .i64 a3.Work.e5.X), .d (.int .i64 a3.Work.e5.Y), .d (.int .i64 a3.Work.e5.Z), .d (.list (List.map encTableLength a3.Lengths))], .agg [.d (.int .i64 a4.X), .d (.int .i64 a4.Y), .d (.int .i64 a4.Z)]] (.tuple [.d (.list (List.map encApiMotion y.1)), .agg [.d (.int .i64 y.2.1.Motion), .d (.int .i64 y.2.1.Distance), .d (.int .i64 y.2.1.Work), .d (.int .i64 y.2.1.Length), .d (.int .i64 y.2.1.Return), .d (.int .i64 y.2.1.Feed), .d (.int .i64 y.2.1.Tool), .d (.int .i64 y.2.1.Offset)], .agg [.d (.int .i64 y.2.2.1.Code), .d (.int .i64 y.2.2.1.R), .d (.int .i64 y.2.2.1.Z), .d (.int .i64 y.2.2.1.Q), .d (.int .i64 y.2.2.1.Rate), .d (.int .i64 y.2.2.1.Initial), .d (.bool y.2.2.1.High)], .d (.int .i64 y.2.2.2)]) := (inp_Step_specX h).toSpec

def inp_End (a0 : ApiPos) (a1 : (List ApiMotion)) : Option ApiPos :=
  if ((a1.length : Int) == 0) = true then
    some a0
  else
    bindO (gt a1 (IntKind.i64.wrap ((a1.length : Int) - 1))) fun (e101 : ApiMotion) =>
    some e101.To
theorem inp_End_spec {a0 : ApiPos} {a1 : (List ApiMotion)} {y : ApiPos} (h : inp_End a0 a1 = some y) : Spec gP 22 [.agg [.d (.int .i64 a0.X), .d (.int .i64 a0.Y), .d (.int .i64 a0.Z)], .d (.list (List.map encApiMotion a1))] (.agg [.d (.int .i64 y.X), .d (.int .i64 y.Y), .d (.int .i64 y.Z)]) := by
  refine spec_mir Tryd.func22 rfl (by kernel_rfl) (by kernel_rfl) (fun y : ApiPos => .agg [.d (.int .i64 y.X), .d (.int .i64 y.Y), .d (.int .i64 y.Z)]) ?_ h
  unfold inp_End
  simp only [List.replicate, List.length, nS, nA, Tryd.ntmps22, SV]
  refine Mir.seqK ?_
  refine Mir.region fun e h => ?_
  simp only [↓reduceIte, reduceCtorEq, nA, nS, nM, nE, nL, nT, nB, iT, iN, iE, and_self, SR, SV, zero_24, encApiMotion]
  refine Mir.use (e := e) ?_ h
  refine Mir.seqK ?_
  refine Mir.seqK ?_
  refine Mir.region fun e h => ?_
  simp only [↓reduceIte, reduceCtorEq, nA, nS, nM, nE, nL, nT, nB, iT, iN, iE, and_self, SR, SV, und_47, encApiMotion]
  refine Mir.use (e := e) ?_ h
  refine Mir.cond rfl (fun hb2 => ?_) (fun hb2 => ?_)
  · refine Mir.seqK ?_
    refine Mir.region fun e h => ?_
    simp only [↓reduceIte, reduceCtorEq, nA, nS, nM, nE, nL, nT, nB, iT, iN, iE, and_self, SR, SV, ag_24, sz_24, encApiMotion]
    refine Mir.use (e := e) ?_ h
    refine Mir.ret fun e h => ?_
    cases h
    simp only [↓reduceIte, reduceCtorEq, nA, nE, nL, and_self, and_true, true_and, SL, encApiMotion, Tryd.results22, ag_24, sz_24]
  · refine Mir.skip ?_
    refine Mir.toK ?_
    refine Mir.seqK ?_
    refine Mir.bind fun e101 q3 => ?_
    replace q3 := gt_ok q3
    refine Mir.region fun e h => ?_
    simp only [↓reduceIte, reduceCtorEq, nA, nS, nM, nE, nL, nT, nB, iT, iN, iE, and_self, SR, SV, und_47, sz_62, q3, fld_62_1, sz_24, ag_24, encApiMotion]
    refine Mir.use (e := e) ?_ h
    refine Mir.ret fun e h => ?_
    cases h
    simp only [↓reduceIte, reduceCtorEq, nA, nE, nL, and_self, and_true, true_and, SL, encApiMotion, Tryd.results22, ag_24, sz_24]

def bk_Codes (a0 : ApiBlock) (a1 : Int) : Option (List Int) :=
  bindO (guardO (okIdx a0.Words) (
      rangeX (fun (i157 : Nat) (e159 : ApiWord) (v158 : (List Int)) =>
        bindO (if (e159.Letter == a1) = true then
              guardO (okLen (v158.length + 1)) (
              some (v158 ++ [e159.Value]))
            else
              some v158) fun (v160 : (List Int)) =>
        some (.go v160)) (fun (v158 : (List Int)) => some v158) a0.Words 0 [])) fun (v142 : (List Int)) =>
  some v142
theorem bk_Codes_spec {a0 : ApiBlock} {a1 : Int} {y : (List Int)} (h : bk_Codes a0 a1 = some y) : Spec gP 44 [.agg [.d (.bool a0.Skip), .d (.list (List.map encApiWord a0.Words)), .d (.str a0.Comment)], .d (.int .u8 a1)] (.d (.list (List.map (eInt .i64) y))) := by
  refine spec_mir Tryd.func44 rfl (by kernel_rfl) (by kernel_rfl) (fun y : (List Int) => .d (.list (List.map (eInt .i64) y))) ?_ h
  unfold bk_Codes
  simp only [List.replicate, List.length, nS, nA, Tryd.ntmps44, SV]
  refine Mir.seqK ?_
  refine Mir.region fun e h => ?_
  simp only [↓reduceIte, reduceCtorEq, nA, nS, nM, nE, nL, nT, nB, iT, iN, iE, and_self, SR, SV, eInt, encApiWord]
  refine Mir.use (e := e) ?_ h
  refine Mir.seqK ?_
  refine Mir.region fun e h => ?_
  simp only [↓reduceIte, reduceCtorEq, nA, nS, nM, nE, nL, nT, nB, iT, iN, iE, and_self, SR, SV, eInt, encApiWord]
  refine Mir.use (e := e) ?_ h
  refine Mir.seqK ?_
  refine Mir.seqK ?_
  refine Mir.region fun e h => ?_
  simp only [↓reduceIte, reduceCtorEq, nA, nS, nM, nE, nL, nT, nB, iT, iN, iE, and_self, SR, SV, fld_42_1, sz_40, ag_40, und_40, eInt, encApiWord]
  refine Mir.use (e := e) ?_ h
  refine Mir.gh [.slot 5 2] rfl ?_
  refine Mir.joinO (fun v142 : (List Int) => [U, U, U, U, U, .own 0 (List.map (eInt .i64) v142), U, U, U, U, U, U, U, U, U, U, U, U, U, U, U, U, U, U, U, U]) (fun v142 : (List Int) => ⟨[[.d (.bool a0.Skip), .d (.list (List.map encApiWord a0.Words)), .d (.str a0.Comment)]], [(2, v142.length)]⟩) (fun _ => rfl) ?_ ?_
  · refine Mir.block ?_
    refine Mir.guard fun qg91 => ?_
    refine Mir.range (fun (i157 : Nat) (v158 : (List Int)) => [U, .d (.int .u8 a1), U, U, U, .own 0 (List.map (eInt .i64) v158), U, U, U, .d (.list (List.map encApiWord a0.Words)), .d (.int .i64 (a0.Words.length : Int)), .d (.int .i64 (i157 : Int)), U, U, U, U, U, U, U, U, U, U, U, U, U, U]) (fun (i157 : Nat) (v158 : (List Int)) => ⟨[[.d (.bool a0.Skip), .d (.list (List.map encApiWord a0.Words)), .d (.str a0.Comment)]], [(2, v158.length)]⟩) qg91 (fun _ _ => rfl) (by simp only [↓reduceIte, reduceCtorEq, nA, nE, nL, and_self, and_true, true_and, SL, eInt, encApiWord, (nr rfl : ((0 : Nat) : Int) = 0)]) (by simp only [↓reduceIte, reduceCtorEq, nA, nE, nL, and_self, and_true, true_and, SL, eInt, encApiWord, (nr rfl : ((0 : Nat) : Int) = 0)]) ?_ ?_
    · intro i157 e159 v158 qr89
      refine Mir.seqK ?_
      refine Mir.region fun e h => ?_
      simp only [↓reduceIte, reduceCtorEq, nA, nS, nM, nE, nL, nT, nB, iT, iN, iE, and_self, SR, SV, qr89, eInt, encApiWord]
      refine Mir.use (e := e) ?_ h
      refine Mir.seqK ?_
      refine Mir.condT rfl ?_
      refine Mir.skip ?_
      refine Mir.toK ?_
      refine Mir.seqK ?_
      refine Mir.joinO (fun v160 : (List Int) => [U, .d (.int .u8 a1), U, U, U, .own 0 (List.map (eInt .i64) v160), U, U, U, .d (.list (List.map encApiWord a0.Words)), .d (.int .i64 (a0.Words.length : Int)), .d (.int .i64 (i157 : Int)), U, U, U, U, U, U, U, U, U, U, U, U, U, U]) (fun v160 : (List Int) => ⟨[[.d (.bool a0.Skip), .d (.list (List.map encApiWord a0.Words)), .d (.str a0.Comment)]], [(2, v160.length)]⟩) (fun _ => rfl) ?_ ?_
      · refine Mir.block ?_
        refine Mir.seqK ?_
        refine Mir.region fun e h => ?_
        simp only [↓reduceIte, reduceCtorEq, nA, nS, nM, nE, nL, nT, nB, iT, iN, iE, and_self, SR, SV, und_40, sz_38, qr89, ag_38, zero_38, eInt, encApiWord]
        refine Mir.use (e := e) ?_ h
        refine Mir.seqK ?_
        refine Mir.region fun e h => ?_
        simp only [↓reduceIte, reduceCtorEq, nA, nS, nM, nE, nL, nT, nB, iT, iN, iE, and_self, SR, SV, fld_38_0, sz_5, ag_5, eInt, encApiWord]
        refine Mir.use (e := e) ?_ h
        refine Mir.cond rfl (fun hb94 => ?_) (fun hb94 => ?_)
        · refine Mir.guard fun q95 => ?_
          refine Mir.region fun e h => ?_
          simp only [↓reduceIte, reduceCtorEq, nA, nS, nM, nE, nL, nT, nB, iT, iN, iE, and_self, SR, SV, fld_38_1, sz_2, ag_2, und_98, zero_2, (nr rfl : okLen 1 = true), app_98, al_eInt, q95, eInt, encApiWord]
          cases h
          simp only [↓reduceIte, reduceCtorEq, nA, nE, nL, and_self, and_true, true_and, SL, eInt, encApiWord, Tryd.results44]
        · refine Mir.skip fun e h => ?_
          cases h
          simp only [↓reduceIte, reduceCtorEq, nA, nE, nL, and_self, and_true, true_and, SL, eInt, encApiWord, Tryd.results44]
      · intro v160
        refine Mir.toK ?_
        refine Mir.region fun e h => ?_
        simp only [↓reduceIte, reduceCtorEq, nA, nS, nM, nE, nL, nT, nB, iT, iN, iE, and_self, SR, SV, eInt, encApiWord]
        cases h
        simp only [↓reduceIte, reduceCtorEq, nA, nE, nL, and_self, and_true, true_and, SL, eInt, encApiWord, Tryd.results44, qr89]
    · intro v158 qd90
      refine Mir.seqK ?_
      refine Mir.region fun e h => ?_
      simp only [↓reduceIte, reduceCtorEq, nA, nS, nM, nE, nL, nT, nB, iT, iN, iE, and_self, SR, SV, qd90, eInt, encApiWord]
      refine Mir.use (e := e) ?_ h
      refine Mir.seqK ?_
      refine Mir.condF rfl ?_
      refine Mir.exit fun e h => ?_
      cases h
      simp only [↓reduceIte, reduceCtorEq, nA, nE, nL, and_self, and_true, true_and, SL, eInt, encApiWord, Tryd.results44]
  · intro v142
    refine Mir.toK ?_
    refine Mir.seqK ?_
    refine Mir.region fun e h => ?_
    simp only [↓reduceIte, reduceCtorEq, nA, nS, nM, nE, nL, nT, nB, iT, iN, iE, and_self, SR, SV, eInt, encApiWord]
    refine Mir.use (e := e) ?_ h
    refine Mir.ret fun e h => ?_
    cases h
    simp only [↓reduceIte, reduceCtorEq, nA, nE, nL, and_self, and_true, true_and, SL, eInt, encApiWord, Tryd.results44]

def inp_Blocks (a0 : (List ApiBlock)) (a1 : TableTable) (a2 : ApiPos) : Option ((List ApiMotion) × InterpreterAlarm) :=
  bindO (inp_checked (TableTable.mk a1.Work a1.Lengths) a2) fun (y101 : Int) =>
  if (y101 != 0) = true then
    some ([], InterpreterAlarm.mk (-1) y101)
  else
    bindO (md_New ) fun (y102 : ModalState) =>
    bindX (guardO (okIdx a0) (
        rangeX (fun (i1134 : Nat) (e1136 : ApiBlock) (v1135 : (List ApiMotion) × ApiPos × ModalState × CycleCycle) =>
          bindX (bindO (inp_Step v1135.2.2.1 v1135.2.2.2 e1136 (TableTable.mk a1.Work a1.Lengths) v1135.2.1) fun (y1177 : (List ApiMotion) × ModalState × CycleCycle × Int) =>
              bindO (if (y1177.2.2.2 == 0) = true then
                    some (decide ((IntKind.i64.wrap ((v1135.1.length : Int) + (y1177.1.length : Int))) > 20000))
                  else
                    some false) fun (v1178 : Bool) =>
              bindO (if v1178 = true then
                    some 3
                  else
                    some y1177.2.2.2) fun (v1179 : Int) =>
              if (v1179 != 0) = true then
                some (.ret (.ret (.ret (v1135.1, InterpreterAlarm.mk (i1134 : Int) v1179))))
              else
                bindO (guardO (okIdx y1177.1) (
                    rangeX (fun (i1208 : Nat) (e1210 : ApiMotion) (v1209 : (List ApiMotion)) =>
                      bindO (gt v1209 (i1208 : Int)) fun (e1212 : ApiMotion) =>
                      some (.go (v1209.set (Int.toNat (i1208 : Int)) (ApiMotion.mk e1212.From e1212.To e1212.Rate e1212.Tool (i1134 : Int))))) (fun (v1209 : (List ApiMotion)) => some v1209) y1177.1 0 y1177.1)) fun (v1196 : (List ApiMotion)) =>
                guardO (okLen (v1135.1.length + v1196.length)) (
                bindO (inp_End v1135.2.1 v1196) fun (y1213 : ApiPos) =>
                bindO (bk_Codes e1136 77) fun (y1214 : (List Int)) =>
                bindO (slices_Contains_int64_int64 y1214 30000) fun (y1215 : Bool) =>
                if y1215 = true then
                  some (.ret (.ret (.ret (v1135.1 ++ v1196, InterpreterAlarm.mk (-1) 0))))
                else
                  some (.go (v1135.1 ++ v1196, y1213, y1177.2.1, y1177.2.2.1)))) fun (v1176 : (List ApiMotion) × ApiPos × ModalState × CycleCycle) =>
          some (.go (v1176.1, v1176.2.1, v1176.2.2.1, v1176.2.2.2))) (fun (v1135 : (List ApiMotion) × ApiPos × ModalState × CycleCycle) => some (.go (v1135.1, v1135.2.1, v1135.2.2.1, v1135.2.2.2))) a0 0 ([], a2, y102, CycleCycle.mk 0 0 0 0 0 0 false))) fun (v885 : (List ApiMotion) × ApiPos × ModalState × CycleCycle) =>
    some (v885.1, InterpreterAlarm.mk (a0.length : Int) 13)
set_option maxHeartbeats 8000000 in
theorem inp_Blocks_spec {a0 : (List ApiBlock)} {a1 : TableTable} {a2 : ApiPos} {y : (List ApiMotion) × InterpreterAlarm} (h : inp_Blocks a0 a1 a2 = some y) : Spec gP 15 [.d (.list (List.map encApiBlock a0)), .agg [.d (.int .i64 a1.Work.e0.X), .d (.int .i64 a1.Work.e0.Y), .d (.int .i64 a1.Work.e0.Z), .d (.int .i64 a1.Work.e1.X), .d (.int .i64 a1.Work.e1.Y), .d (.int .i64 a1.Work.e1.Z), .d (.int .i64 a1.Work.e2.X), .d (.int .i64 a1.Work.e2.Y), .d (.int .i64 a1.Work.e2.Z), .d (.int .i64 a1.Work.e3.X), .d (.int .i64 a1.Work.e3.Y), .d (.int .i64 a1.Work.e3.Z), .d (.int .i64 a1.Work.e4.X), .d (.int .i64 a1.Work.e4.Y), .d (.int .i64 a1.Work.e4.Z), .d (.int .i64 a1.Work.e5.X), .d (.int .i64 a1.Work.e5.Y), .d (.int .i64 a1.Work.e5.Z), .d (.list (List.map encTableLength a1.Lengths))], .agg [.d (.int .i64 a2.X), .d (.int .i64 a2.Y), .d (.int .i64 a2.Z)]] (.tuple [.d (.list (List.map encApiMotion y.1)), .agg [.d (.int .i64 y.2.Block), .d (.int .i64 y.2.Code)]]) := by
  refine spec_mir Tryd.func15 rfl (by kernel_rfl) (by kernel_rfl) (fun y : (List ApiMotion) × InterpreterAlarm => .tuple [.d (.list (List.map encApiMotion y.1)), .agg [.d (.int .i64 y.2.Block), .d (.int .i64 y.2.Code)]]) ?_ h
  unfold inp_Blocks
  simp only [List.replicate, List.length, nS, nA, Tryd.ntmps15, SV]
  refine Mir.seqK ?_
  refine Mir.region fun e h => ?_
  simp only [↓reduceIte, reduceCtorEq, nA, nS, nM, nE, nL, nT, nB, iT, iN, iE, and_self, SR, SV, zero_49, encApiBlock, encApiMotion, encTableLength, rmap_set, spD]
  refine Mir.use (e := e) ?_ h
  refine Mir.seqK ?_
  refine Mir.seqK ?_
  refine Mir.bind fun y101 hy1 => ?_
  refine Mir.region fun e h => ?_
  simp only [↓reduceIte, reduceCtorEq, nA, nS, nM, nE, nL, nT, nB, iT, iN, iE, and_self, SR, SV, ag_54, sz_54, ag_24, sz_24, encApiBlock, encApiMotion, encTableLength, rmap_set, spD]
  refine SpecS.by (inp_checked_spec hy1) (by simp only [↓reduceIte, reduceCtorEq, nA, nE, nL, and_self, and_true, true_and, SL, encApiBlock, encApiMotion, encTableLength, rmap_set, spD]) ?_
  simp only [↓reduceIte, reduceCtorEq, nA, nS, nM, nE, nL, nT, nB, iT, iN, iE, and_self, SR, SV, encApiBlock, encApiMotion, encTableLength, rmap_set, spD]
  refine Mir.use (e := e) ?_ h
  refine Mir.seqK ?_
  refine Mir.region fun e h => ?_
  simp only [↓reduceIte, reduceCtorEq, nA, nS, nM, nE, nL, nT, nB, iT, iN, iE, and_self, SR, SV, encApiBlock, encApiMotion, encTableLength, rmap_set, spD]
  refine Mir.use (e := e) ?_ h
  refine Mir.cond rfl (fun hb3 => ?_) (fun hb3 => ?_)
  · refine Mir.seqK ?_
    refine Mir.region fun e h => ?_
    simp only [↓reduceIte, reduceCtorEq, nA, nS, nM, nE, nL, nT, nB, iT, iN, iE, and_self, SR, SV, zero_49, pl_49, sz_49, encApiBlock, encTableLength]
    refine Mir.use (e := e) ?_ h
    refine Mir.ret fun e h => ?_
    cases h
    simp only [↓reduceIte, reduceCtorEq, nA, nE, nL, and_self, and_true, true_and, SL, encApiBlock, encTableLength, Tryd.results15, ag_49, sz_49]
  · refine Mir.skip ?_
    refine Mir.toK ?_
    refine Mir.seqK ?_
    refine Mir.bind fun y102 hy4 => ?_
    refine Mir.region fun e h => ?_
    simp only [↓reduceIte, reduceCtorEq, nA, nS, nM, nE, nL, nT, nB, iT, iN, iE, and_self, SR, SV, encApiBlock, encApiMotion, encTableLength, rmap_set, spD]
    refine SpecS.by (md_New_spec hy4) (rfl) ?_
    simp only [↓reduceIte, reduceCtorEq, nA, nS, nM, nE, nL, nT, nB, iT, iN, iE, and_self, SR, SV, zero_68, pl_68, zero_65, sz_65, sz_68, encApiBlock, encApiMotion, encTableLength, rmap_set, spD]
    refine Mir.use (e := e) ?_ h
    refine Mir.seqK ?_
    refine Mir.region fun e h => ?_
    simp only [↓reduceIte, reduceCtorEq, nA, nS, nM, nE, nL, nT, nB, iT, iN, iE, and_self, SR, SV, encApiBlock, encApiMotion, encTableLength, rmap_set, spD]
    refine Mir.use (e := e) ?_ h
    refine Mir.seqK ?_
    refine Mir.seqK ?_
    refine Mir.region fun e h => ?_
    simp only [↓reduceIte, reduceCtorEq, nA, nS, nM, nE, nL, nT, nB, iT, iN, iE, and_self, SR, SV, und_43, encApiBlock, encApiMotion, encTableLength, rmap_set, spD]
    refine Mir.use (e := e) ?_ h
    refine Mir.gh [.slot 11 62] rfl ?_
    refine Mir.join (fun v885 : (List ApiMotion) × ApiPos × ModalState × CycleCycle => [.d (.list (List.map encApiBlock a0)), U, U, U, U, U, U, .ptr 2 0, U, U, U, .own 0 (List.map encApiMotion v885.1), U, U, U, U, U, U, U, U, U, U, U, U, U, U, U, U, U, U, U, U, U, U, U, U, U, U, U, U, U, U, U, U, U, U, U, U, U, U, U, U, U, U, U, U, U, U, U, U, U, U, U, U, U, U, U, U, U, U, U, U, U, U, U, U, U, U, U, U, U, U, U, U, U, U, U, U, U, U, U]) (fun v885 : (List ApiMotion) × ApiPos × ModalState × CycleCycle => ⟨[[.d (.int .i64 a1.Work.e0.X), .d (.int .i64 a1.Work.e0.Y), .d (.int .i64 a1.Work.e0.Z), .d (.int .i64 a1.Work.e1.X), .d (.int .i64 a1.Work.e1.Y), .d (.int .i64 a1.Work.e1.Z), .d (.int .i64 a1.Work.e2.X), .d (.int .i64 a1.Work.e2.Y), .d (.int .i64 a1.Work.e2.Z), .d (.int .i64 a1.Work.e3.X), .d (.int .i64 a1.Work.e3.Y), .d (.int .i64 a1.Work.e3.Z), .d (.int .i64 a1.Work.e4.X), .d (.int .i64 a1.Work.e4.Y), .d (.int .i64 a1.Work.e4.Z), .d (.int .i64 a1.Work.e5.X), .d (.int .i64 a1.Work.e5.Y), .d (.int .i64 a1.Work.e5.Z), .d (.list (List.map encTableLength a1.Lengths))], [.d (.int .i64 v885.2.1.X), .d (.int .i64 v885.2.1.Y), .d (.int .i64 v885.2.1.Z)], [.d (.int .i64 0), .d (.int .i64 0)], [.d (.int .i64 v885.2.2.1.Motion), .d (.int .i64 v885.2.2.1.Distance), .d (.int .i64 v885.2.2.1.Work), .d (.int .i64 v885.2.2.1.Length), .d (.int .i64 v885.2.2.1.Return), .d (.int .i64 v885.2.2.1.Feed), .d (.int .i64 v885.2.2.1.Tool), .d (.int .i64 v885.2.2.1.Offset)], [.d (.int .i64 v885.2.2.2.Code), .d (.int .i64 v885.2.2.2.R), .d (.int .i64 v885.2.2.2.Z), .d (.int .i64 v885.2.2.2.Q), .d (.int .i64 v885.2.2.2.Rate), .d (.int .i64 v885.2.2.2.Initial), .d (.bool v885.2.2.2.High)]], [(62, v885.1.length)]⟩) (fun _ => rfl) ?_ ?_
    · refine Mir.block ?_
      refine Mir.guard fun qg1179 => ?_
      refine Mir.range (fun (i1134 : Nat) (v1135 : (List ApiMotion) × ApiPos × ModalState × CycleCycle) => [.d (.list (List.map encApiBlock a0)), U, U, U, .ptr 0 0, .ptr 1 0, U, .ptr 2 0, U, .ptr 3 0, .ptr 4 0, .own 0 (List.map encApiMotion v1135.1), U, U, U, U, U, U, U, U, U, U, U, U, U, U, U, U, .d (.list (List.map encApiBlock a0)), .d (.int .i64 (a0.length : Int)), .d (.int .i64 (i1134 : Int)), U, U, U, U, U, U, U, U, U, U, U, U, U, U, U, U, U, U, U, U, U, U, U, U, U, U, U, U, U, U, U, U, U, U, U, U, U, U, U, U, U, U, U, U, U, U, U, U, U, U, U, U, U, U, U, U, U, U, U, U]) (fun (i1134 : Nat) (v1135 : (List ApiMotion) × ApiPos × ModalState × CycleCycle) => ⟨[[.d (.int .i64 a1.Work.e0.X), .d (.int .i64 a1.Work.e0.Y), .d (.int .i64 a1.Work.e0.Z), .d (.int .i64 a1.Work.e1.X), .d (.int .i64 a1.Work.e1.Y), .d (.int .i64 a1.Work.e1.Z), .d (.int .i64 a1.Work.e2.X), .d (.int .i64 a1.Work.e2.Y), .d (.int .i64 a1.Work.e2.Z), .d (.int .i64 a1.Work.e3.X), .d (.int .i64 a1.Work.e3.Y), .d (.int .i64 a1.Work.e3.Z), .d (.int .i64 a1.Work.e4.X), .d (.int .i64 a1.Work.e4.Y), .d (.int .i64 a1.Work.e4.Z), .d (.int .i64 a1.Work.e5.X), .d (.int .i64 a1.Work.e5.Y), .d (.int .i64 a1.Work.e5.Z), .d (.list (List.map encTableLength a1.Lengths))], [.d (.int .i64 v1135.2.1.X), .d (.int .i64 v1135.2.1.Y), .d (.int .i64 v1135.2.1.Z)], [.d (.int .i64 0), .d (.int .i64 0)], [.d (.int .i64 v1135.2.2.1.Motion), .d (.int .i64 v1135.2.2.1.Distance), .d (.int .i64 v1135.2.2.1.Work), .d (.int .i64 v1135.2.2.1.Length), .d (.int .i64 v1135.2.2.1.Return), .d (.int .i64 v1135.2.2.1.Feed), .d (.int .i64 v1135.2.2.1.Tool), .d (.int .i64 v1135.2.2.1.Offset)], [.d (.int .i64 v1135.2.2.2.Code), .d (.int .i64 v1135.2.2.2.R), .d (.int .i64 v1135.2.2.2.Z), .d (.int .i64 v1135.2.2.2.Q), .d (.int .i64 v1135.2.2.2.Rate), .d (.int .i64 v1135.2.2.2.Initial), .d (.bool v1135.2.2.2.High)]], [(62, v1135.1.length)]⟩) qg1179 (fun _ _ => rfl) (by simp only [↓reduceIte, reduceCtorEq, nA, nE, nL, and_self, and_true, true_and, SL, encApiBlock, encApiMotion, encTableLength, rmap_set, spD, (nr rfl : ((0 : Nat) : Int) = 0)]) (by simp only [↓reduceIte, reduceCtorEq, nA, nE, nL, and_self, and_true, true_and, SL, encApiBlock, encApiMotion, encTableLength, rmap_set, spD, (nr rfl : ((0 : Nat) : Int) = 0)]) ?_ ?_
      · intro i1134 e1136 v1135 qr1177
        refine Mir.seqK ?_
        refine Mir.region fun e h => ?_
        simp only [↓reduceIte, reduceCtorEq, nA, nS, nM, nE, nL, nT, nB, iT, iN, iE, and_self, SR, SV, qr1177, encApiBlock, encApiMotion, encTableLength, rmap_set, spD]
        refine Mir.use (e := e) ?_ h
        refine Mir.seqK ?_
        refine Mir.condT rfl ?_
        refine Mir.skip ?_
        refine Mir.toK ?_
        refine Mir.seqK ?_
        refine Mir.join (fun v1176 : (List ApiMotion) × ApiPos × ModalState × CycleCycle => [.d (.list (List.map encApiBlock a0)), U, U, U, .ptr 0 0, .ptr 1 0, U, .ptr 2 0, U, .ptr 3 0, .ptr 4 0, .own 0 (List.map encApiMotion v1176.1), U, U, U, U, U, U, U, U, U, U, U, U, U, U, U, U, .d (.list (List.map encApiBlock a0)), .d (.int .i64 (a0.length : Int)), .d (.int .i64 (i1134 : Int)), U, U, U, U, U, U, U, U, U, U, U, U, U, U, U, U, U, U, U, U, U, U, U, U, U, U, U, U, U, U, U, U, U, U, U, U, U, U, U, U, U, U, U, U, U, U, U, U, U, U, U, U, U, U, U, U, U, U, U, U]) (fun v1176 : (List ApiMotion) × ApiPos × ModalState × CycleCycle => ⟨[[.d (.int .i64 a1.Work.e0.X), .d (.int .i64 a1.Work.e0.Y), .d (.int .i64 a1.Work.e0.Z), .d (.int .i64 a1.Work.e1.X), .d (.int .i64 a1.Work.e1.Y), .d (.int .i64 a1.Work.e1.Z), .d (.int .i64 a1.Work.e2.X), .d (.int .i64 a1.Work.e2.Y), .d (.int .i64 a1.Work.e2.Z), .d (.int .i64 a1.Work.e3.X), .d (.int .i64 a1.Work.e3.Y), .d (.int .i64 a1.Work.e3.Z), .d (.int .i64 a1.Work.e4.X), .d (.int .i64 a1.Work.e4.Y), .d (.int .i64 a1.Work.e4.Z), .d (.int .i64 a1.Work.e5.X), .d (.int .i64 a1.Work.e5.Y), .d (.int .i64 a1.Work.e5.Z), .d (.list (List.map encTableLength a1.Lengths))], [.d (.int .i64 v1176.2.1.X), .d (.int .i64 v1176.2.1.Y), .d (.int .i64 v1176.2.1.Z)], [.d (.int .i64 0), .d (.int .i64 0)], [.d (.int .i64 v1176.2.2.1.Motion), .d (.int .i64 v1176.2.2.1.Distance), .d (.int .i64 v1176.2.2.1.Work), .d (.int .i64 v1176.2.2.1.Length), .d (.int .i64 v1176.2.2.1.Return), .d (.int .i64 v1176.2.2.1.Feed), .d (.int .i64 v1176.2.2.1.Tool), .d (.int .i64 v1176.2.2.1.Offset)], [.d (.int .i64 v1176.2.2.2.Code), .d (.int .i64 v1176.2.2.2.R), .d (.int .i64 v1176.2.2.2.Z), .d (.int .i64 v1176.2.2.2.Q), .d (.int .i64 v1176.2.2.2.Rate), .d (.int .i64 v1176.2.2.2.Initial), .d (.bool v1176.2.2.2.High)]], [(62, v1176.1.length)]⟩) (fun _ => rfl) ?_ ?_
        · refine Mir.block ?_
          refine Mir.seqK ?_
          refine Mir.region fun e h => ?_
          simp only [↓reduceIte, reduceCtorEq, nA, nS, nM, nE, nL, nT, nB, iT, iN, iE, and_self, SR, SV, und_43, sz_42, qr1177, ag_42, zero_42, encApiBlock, encApiMotion, encTableLength, rmap_set, spD]
          refine Mir.use (e := e) ?_ h
          refine Mir.seqK ?_
          refine Mir.bind fun y1177 hy1225 => ?_
          refine Mir.region fun e h => ?_
          simp only [↓reduceIte, reduceCtorEq, nA, nS, nM, nE, nL, nT, nB, iT, iN, iE, and_self, SR, SV, ag_65, sz_65, ag_68, sz_68, ag_42, sz_42, ag_54, sz_54, ag_24, sz_24, encApiBlock, encApiMotion, encTableLength, rmap_set, spD]
          refine SpecX.toS (inp_Step_specX hy1225) (by simp only [↓reduceIte, reduceCtorEq, nA, nE, nL, and_self, and_true, true_and, SL, encApiBlock, encApiMotion, encTableLength, rmap_set, spD]) ?_
          simp only [↓reduceIte, reduceCtorEq, nA, nS, nM, nE, nL, nT, nB, iT, iN, iE, and_self, SR, SV, zero_65, zero_68, sz_65, sz_68, encApiBlock, encApiMotion, encTableLength, rmap_set, spD]
          refine Mir.use (e := e) ?_ h
          refine Mir.seqK ?_
          refine Mir.seqK ?_
          refine Mir.joinO (fun v1178 : Bool => [.d (.list (List.map encApiBlock a0)), U, U, U, .ptr 0 0, .ptr 1 0, U, .ptr 2 0, U, .ptr 3 0, .ptr 4 0, .own 0 (List.map encApiMotion v1135.1), .d (.int .i64 (i1134 : Int)), .ptr 5 0, .gr 6 0, .ptr 7 0, .ptr 8 0, .d (.int .i64 y1177.2.2.2), U, U, U, U, U, U, U, U, U, U, .d (.list (List.map encApiBlock a0)), .d (.int .i64 (a0.length : Int)), .d (.int .i64 (i1134 : Int)), U, U, U, U, U, U, U, U, U, U, U, U, U, U, U, U, U, U, U, U, U, U, U, U, .d (.bool v1178), U, U, U, U, U, U, U, U, U, U, U, U, U, U, U, U, U, U, U, U, U, U, U, U, U, U, U, U, U, U, U, U, U, U, U]) (fun v1178 : Bool => ⟨[[.d (.int .i64 a1.Work.e0.X), .d (.int .i64 a1.Work.e0.Y), .d (.int .i64 a1.Work.e0.Z), .d (.int .i64 a1.Work.e1.X), .d (.int .i64 a1.Work.e1.Y), .d (.int .i64 a1.Work.e1.Z), .d (.int .i64 a1.Work.e2.X), .d (.int .i64 a1.Work.e2.Y), .d (.int .i64 a1.Work.e2.Z), .d (.int .i64 a1.Work.e3.X), .d (.int .i64 a1.Work.e3.Y), .d (.int .i64 a1.Work.e3.Z), .d (.int .i64 a1.Work.e4.X), .d (.int .i64 a1.Work.e4.Y), .d (.int .i64 a1.Work.e4.Z), .d (.int .i64 a1.Work.e5.X), .d (.int .i64 a1.Work.e5.Y), .d (.int .i64 a1.Work.e5.Z), .d (.list (List.map encTableLength a1.Lengths))], [.d (.int .i64 v1135.2.1.X), .d (.int .i64 v1135.2.1.Y), .d (.int .i64 v1135.2.1.Z)], [.d (.int .i64 0), .d (.int .i64 0)], [.d (.int .i64 v1135.2.2.1.Motion), .d (.int .i64 v1135.2.2.1.Distance), .d (.int .i64 v1135.2.2.1.Work), .d (.int .i64 v1135.2.2.1.Length), .d (.int .i64 v1135.2.2.1.Return), .d (.int .i64 v1135.2.2.1.Feed), .d (.int .i64 v1135.2.2.1.Tool), .d (.int .i64 v1135.2.2.1.Offset)], [.d (.int .i64 v1135.2.2.2.Code), .d (.int .i64 v1135.2.2.2.R), .d (.int .i64 v1135.2.2.2.Z), .d (.int .i64 v1135.2.2.2.Q), .d (.int .i64 v1135.2.2.2.Rate), .d (.int .i64 v1135.2.2.2.Initial), .d (.bool v1135.2.2.2.High)], [.d (.bool e1136.Skip), .d (.list (List.map encApiWord e1136.Words)), .d (.str e1136.Comment)], [.rowc 62 0 (List.map encApiMotion y1177.1)], [.d (.int .i64 y1177.2.1.Motion), .d (.int .i64 y1177.2.1.Distance), .d (.int .i64 y1177.2.1.Work), .d (.int .i64 y1177.2.1.Length), .d (.int .i64 y1177.2.1.Return), .d (.int .i64 y1177.2.1.Feed), .d (.int .i64 y1177.2.1.Tool), .d (.int .i64 y1177.2.1.Offset)], [.d (.int .i64 y1177.2.2.1.Code), .d (.int .i64 y1177.2.2.1.R), .d (.int .i64 y1177.2.2.1.Z), .d (.int .i64 y1177.2.2.1.Q), .d (.int .i64 y1177.2.2.1.Rate), .d (.int .i64 y1177.2.2.1.Initial), .d (.bool y1177.2.2.1.High)]], [(62, v1135.1.length)]⟩) (fun _ => rfl) ?_ ?_
          · refine Mir.ite (fun hb1226 => ?_) (fun hb1226 => ?_)
            · refine Mir.regionW fun e h => ?_
              refine regW.alt 6 rfl ?_
              simp only [↓reduceIte, reduceCtorEq, nA, nS, nM, nE, nL, nT, nB, iT, iN, iE, and_self, SR, SV, w_none, w_eq, and_true, true_and, tkS, tk0, tkN, dpS, dp0, und_47, encApiBlock, encApiMotion, encTableLength, rmap_set, spD, hb1226]
              refine alt_lenR rfl rfl und_47 ?_
              refine regW.of ?_
              simp only [↓reduceIte, reduceCtorEq, nA, nS, nM, nE, nL, nT, nB, iT, iN, iE, and_self, SR, SV, w_none, w_eq, and_true, true_and, tkS, tk0, tkN, dpS, dp0, und_47, encApiBlock, encApiMotion, encTableLength, rmap_set, spD, hb1226]
              cases h
              simp only [↓reduceIte, reduceCtorEq, nA, nE, nL, and_self, and_true, true_and, SL, encApiBlock, encApiMotion, encTableLength, rmap_set, spD, hb1226]
            · refine Mir.region fun e h => ?_
              simp only [↓reduceIte, reduceCtorEq, nA, nS, nM, nE, nL, nT, nB, iT, iN, iE, and_self, SR, SV, encApiBlock, encApiMotion, encTableLength, rmap_set, spD, hb1226]
              cases h
              simp only [↓reduceIte, reduceCtorEq, nA, nE, nL, and_self, and_true, true_and, SL, encApiBlock, encApiMotion, encTableLength, rmap_set, spD, hb1226]
          · intro v1178
            refine Mir.toK ?_
            refine Mir.joinO (fun v1179 : Int => [.d (.list (List.map encApiBlock a0)), U, U, U, .ptr 0 0, .ptr 1 0, U, .ptr 2 0, U, .ptr 3 0, .ptr 4 0, .own 0 (List.map encApiMotion v1135.1), .d (.int .i64 (i1134 : Int)), .ptr 5 0, .gr 6 0, .ptr 7 0, .ptr 8 0, .d (.int .i64 v1179), U, U, U, U, U, U, U, U, U, U, .d (.list (List.map encApiBlock a0)), .d (.int .i64 (a0.length : Int)), .d (.int .i64 (i1134 : Int)), U, U, U, U, U, U, U, U, U, U, U, U, U, U, U, U, U, U, U, U, U, U, U, U, U, U, U, U, U, U, U, U, U, U, U, U, U, U, U, U, U, U, U, U, U, U, U, U, U, U, U, U, U, U, U, U, U, U, U, U]) (fun v1179 : Int => ⟨[[.d (.int .i64 a1.Work.e0.X), .d (.int .i64 a1.Work.e0.Y), .d (.int .i64 a1.Work.e0.Z), .d (.int .i64 a1.Work.e1.X), .d (.int .i64 a1.Work.e1.Y), .d (.int .i64 a1.Work.e1.Z), .d (.int .i64 a1.Work.e2.X), .d (.int .i64 a1.Work.e2.Y), .d (.int .i64 a1.Work.e2.Z), .d (.int .i64 a1.Work.e3.X), .d (.int .i64 a1.Work.e3.Y), .d (.int .i64 a1.Work.e3.Z), .d (.int .i64 a1.Work.e4.X), .d (.int .i64 a1.Work.e4.Y), .d (.int .i64 a1.Work.e4.Z), .d (.int .i64 a1.Work.e5.X), .d (.int .i64 a1.Work.e5.Y), .d (.int .i64 a1.Work.e5.Z), .d (.list (List.map encTableLength a1.Lengths))], [.d (.int .i64 v1135.2.1.X), .d (.int .i64 v1135.2.1.Y), .d (.int .i64 v1135.2.1.Z)], [.d (.int .i64 0), .d (.int .i64 0)], [.d (.int .i64 v1135.2.2.1.Motion), .d (.int .i64 v1135.2.2.1.Distance), .d (.int .i64 v1135.2.2.1.Work), .d (.int .i64 v1135.2.2.1.Length), .d (.int .i64 v1135.2.2.1.Return), .d (.int .i64 v1135.2.2.1.Feed), .d (.int .i64 v1135.2.2.1.Tool), .d (.int .i64 v1135.2.2.1.Offset)], [.d (.int .i64 v1135.2.2.2.Code), .d (.int .i64 v1135.2.2.2.R), .d (.int .i64 v1135.2.2.2.Z), .d (.int .i64 v1135.2.2.2.Q), .d (.int .i64 v1135.2.2.2.Rate), .d (.int .i64 v1135.2.2.2.Initial), .d (.bool v1135.2.2.2.High)], [.d (.bool e1136.Skip), .d (.list (List.map encApiWord e1136.Words)), .d (.str e1136.Comment)], [.rowc 62 0 (List.map encApiMotion y1177.1)], [.d (.int .i64 y1177.2.1.Motion), .d (.int .i64 y1177.2.1.Distance), .d (.int .i64 y1177.2.1.Work), .d (.int .i64 y1177.2.1.Length), .d (.int .i64 y1177.2.1.Return), .d (.int .i64 y1177.2.1.Feed), .d (.int .i64 y1177.2.1.Tool), .d (.int .i64 y1177.2.1.Offset)], [.d (.int .i64 y1177.2.2.1.Code), .d (.int .i64 y1177.2.2.1.R), .d (.int .i64 y1177.2.2.1.Z), .d (.int .i64 y1177.2.2.1.Q), .d (.int .i64 y1177.2.2.1.Rate), .d (.int .i64 y1177.2.2.1.Initial), .d (.bool y1177.2.2.1.High)]], [(62, v1135.1.length)]⟩) (fun _ => rfl) ?_ ?_
            · refine Mir.cond rfl (fun hb1228 => ?_) (fun hb1228 => ?_)
              · refine Mir.region fun e h => ?_
                simp only [↓reduceIte, reduceCtorEq, nA, nS, nM, nE, nL, nT, nB, iT, iN, iE, and_self, SR, SV, encApiBlock, encApiMotion, encTableLength, rmap_set, spD]
                cases h
                simp only [↓reduceIte, reduceCtorEq, nA, nE, nL, and_self, and_true, true_and, SL, encApiBlock, encApiMotion, encTableLength, rmap_set, spD, Tryd.results15, ag_49, sz_49]
              · refine Mir.skip fun e h => ?_
                cases h
                simp only [↓reduceIte, reduceCtorEq, nA, nE, nL, and_self, and_true, true_and, SL, encApiBlock, encApiMotion, encTableLength, rmap_set, spD, Tryd.results15, ag_49, sz_49]
            · intro v1179
              refine Mir.toK ?_
              refine Mir.seqK ?_
              refine Mir.seqK ?_
              refine Mir.region fun e h => ?_
              simp only [↓reduceIte, reduceCtorEq, nA, nS, nM, nE, nL, nT, nB, iT, iN, iE, and_self, SR, SV, encApiBlock, encApiMotion, encTableLength, rmap_set, spD]
              refine Mir.use (e := e) ?_ h
              refine Mir.cond rfl (fun hb1230 => ?_) (fun hb1230 => ?_)
              · refine Mir.seqK ?_
                refine Mir.region fun e h => ?_
                simp only [↓reduceIte, reduceCtorEq, nA, nS, nM, nE, nL, nT, nB, iT, iN, iE, and_self, SR, SV, zero_49, pl_49, sz_49, encApiBlock, encApiMotion, encTableLength, rmap_set, spD]
                refine Mir.use (e := e) ?_ h
                refine Mir.ret fun e h => ?_
                cases h
                simp only [↓reduceIte, reduceCtorEq, nA, nE, nL, and_self, and_true, true_and, SL, encApiBlock, encApiMotion, encTableLength, rmap_set, spD, Tryd.results15, ag_49, sz_49]
              · refine Mir.skip ?_
                refine Mir.toK ?_
                refine Mir.seqK ?_
                refine Mir.seqK ?_
                refine Mir.regionW fun e h => ?_
                refine regW.alt 1 rfl ?_
                simp only [↓reduceIte, reduceCtorEq, nA, nS, nM, nE, nL, nT, nB, iT, iN, iE, and_self, SR, SV, w_none, w_eq, and_true, true_and, tkS, tk0, tkN, dpS, dp0, encApiBlock, encApiMotion, encTableLength, rmap_set, spD]
                refine alt_lenR rfl rfl und_47 ?_
                refine regW.of ?_
                simp only [↓reduceIte, reduceCtorEq, nA, nS, nM, nE, nL, nT, nB, iT, iN, iE, and_self, SR, SV, w_none, w_eq, and_true, true_and, tkS, tk0, tkN, dpS, dp0, und_47, encApiBlock, encApiMotion, encTableLength, rmap_set, spD]
                refine Mir.use (e := e) ?_ h
                refine Mir.joinO (fun v1196 : (List ApiMotion) => [.d (.list (List.map encApiBlock a0)), U, U, U, .ptr 0 0, .ptr 1 0, U, .ptr 2 0, U, .ptr 3 0, .ptr 4 0, .own 0 (List.map encApiMotion v1135.1), U, .ptr 5 0, .gr 6 0, .ptr 7 0, .ptr 8 0, U, U, U, U, U, U, U, U, U, U, U, .d (.list (List.map encApiBlock a0)), .d (.int .i64 (a0.length : Int)), .d (.int .i64 (i1134 : Int)), U, U, U, U, U, U, U, U, U, U, U, U, U, U, U, U, U, U, U, U, U, U, U, U, U, U, U, U, U, U, U, U, U, U, U, U, U, U, U, U, U, U, U, U, U, U, U, U, U, U, U, U, U, U, U, U, U, U, U, U]) (fun v1196 : (List ApiMotion) => ⟨[[.d (.int .i64 a1.Work.e0.X), .d (.int .i64 a1.Work.e0.Y), .d (.int .i64 a1.Work.e0.Z), .d (.int .i64 a1.Work.e1.X), .d (.int .i64 a1.Work.e1.Y), .d (.int .i64 a1.Work.e1.Z), .d (.int .i64 a1.Work.e2.X), .d (.int .i64 a1.Work.e2.Y), .d (.int .i64 a1.Work.e2.Z), .d (.int .i64 a1.Work.e3.X), .d (.int .i64 a1.Work.e3.Y), .d (.int .i64 a1.Work.e3.Z), .d (.int .i64 a1.Work.e4.X), .d (.int .i64 a1.Work.e4.Y), .d (.int .i64 a1.Work.e4.Z), .d (.int .i64 a1.Work.e5.X), .d (.int .i64 a1.Work.e5.Y), .d (.int .i64 a1.Work.e5.Z), .d (.list (List.map encTableLength a1.Lengths))], [.d (.int .i64 v1135.2.1.X), .d (.int .i64 v1135.2.1.Y), .d (.int .i64 v1135.2.1.Z)], [.d (.int .i64 0), .d (.int .i64 0)], [.d (.int .i64 v1135.2.2.1.Motion), .d (.int .i64 v1135.2.2.1.Distance), .d (.int .i64 v1135.2.2.1.Work), .d (.int .i64 v1135.2.2.1.Length), .d (.int .i64 v1135.2.2.1.Return), .d (.int .i64 v1135.2.2.1.Feed), .d (.int .i64 v1135.2.2.1.Tool), .d (.int .i64 v1135.2.2.1.Offset)], [.d (.int .i64 v1135.2.2.2.Code), .d (.int .i64 v1135.2.2.2.R), .d (.int .i64 v1135.2.2.2.Z), .d (.int .i64 v1135.2.2.2.Q), .d (.int .i64 v1135.2.2.2.Rate), .d (.int .i64 v1135.2.2.2.Initial), .d (.bool v1135.2.2.2.High)], [.d (.bool e1136.Skip), .d (.list (List.map encApiWord e1136.Words)), .d (.str e1136.Comment)], [.rowc 62 0 (List.map encApiMotion v1196)], [.d (.int .i64 y1177.2.1.Motion), .d (.int .i64 y1177.2.1.Distance), .d (.int .i64 y1177.2.1.Work), .d (.int .i64 y1177.2.1.Length), .d (.int .i64 y1177.2.1.Return), .d (.int .i64 y1177.2.1.Feed), .d (.int .i64 y1177.2.1.Tool), .d (.int .i64 y1177.2.1.Offset)], [.d (.int .i64 y1177.2.2.1.Code), .d (.int .i64 y1177.2.2.1.R), .d (.int .i64 y1177.2.2.1.Z), .d (.int .i64 y1177.2.2.1.Q), .d (.int .i64 y1177.2.2.1.Rate), .d (.int .i64 y1177.2.2.1.Initial), .d (.bool y1177.2.2.1.High)]], [(62, v1135.1.length)]⟩) (fun _ => rfl) ?_ ?_
                · refine Mir.block ?_
                  refine Mir.guard fun qg1262 => ?_
                  refine Mir.range (fun (i1208 : Nat) (v1209 : (List ApiMotion)) => [.d (.list (List.map encApiBlock a0)), U, U, U, .ptr 0 0, .ptr 1 0, U, .ptr 2 0, U, .ptr 3 0, .ptr 4 0, .own 0 (List.map encApiMotion v1135.1), .d (.int .i64 (i1134 : Int)), .ptr 5 0, .gr 6 0, .ptr 7 0, .ptr 8 0, U, U, U, U, U, U, U, U, U, U, U, .d (.list (List.map encApiBlock a0)), .d (.int .i64 (a0.length : Int)), .d (.int .i64 (i1134 : Int)), U, U, U, U, U, U, U, U, U, U, U, U, U, U, U, U, U, U, U, U, U, U, U, U, U, U, U, U, U, U, U, U, .d (.int .i64 (y1177.1.length : Int)), .d (.int .i64 (i1208 : Int)), U, U, U, U, U, U, U, U, U, U, U, U, U, U, U, U, U, U, U, U, U, U, U, U, U, U]) (fun (i1208 : Nat) (v1209 : (List ApiMotion)) => ⟨[[.d (.int .i64 a1.Work.e0.X), .d (.int .i64 a1.Work.e0.Y), .d (.int .i64 a1.Work.e0.Z), .d (.int .i64 a1.Work.e1.X), .d (.int .i64 a1.Work.e1.Y), .d (.int .i64 a1.Work.e1.Z), .d (.int .i64 a1.Work.e2.X), .d (.int .i64 a1.Work.e2.Y), .d (.int .i64 a1.Work.e2.Z), .d (.int .i64 a1.Work.e3.X), .d (.int .i64 a1.Work.e3.Y), .d (.int .i64 a1.Work.e3.Z), .d (.int .i64 a1.Work.e4.X), .d (.int .i64 a1.Work.e4.Y), .d (.int .i64 a1.Work.e4.Z), .d (.int .i64 a1.Work.e5.X), .d (.int .i64 a1.Work.e5.Y), .d (.int .i64 a1.Work.e5.Z), .d (.list (List.map encTableLength a1.Lengths))], [.d (.int .i64 v1135.2.1.X), .d (.int .i64 v1135.2.1.Y), .d (.int .i64 v1135.2.1.Z)], [.d (.int .i64 0), .d (.int .i64 0)], [.d (.int .i64 v1135.2.2.1.Motion), .d (.int .i64 v1135.2.2.1.Distance), .d (.int .i64 v1135.2.2.1.Work), .d (.int .i64 v1135.2.2.1.Length), .d (.int .i64 v1135.2.2.1.Return), .d (.int .i64 v1135.2.2.1.Feed), .d (.int .i64 v1135.2.2.1.Tool), .d (.int .i64 v1135.2.2.1.Offset)], [.d (.int .i64 v1135.2.2.2.Code), .d (.int .i64 v1135.2.2.2.R), .d (.int .i64 v1135.2.2.2.Z), .d (.int .i64 v1135.2.2.2.Q), .d (.int .i64 v1135.2.2.2.Rate), .d (.int .i64 v1135.2.2.2.Initial), .d (.bool v1135.2.2.2.High)], [.d (.bool e1136.Skip), .d (.list (List.map encApiWord e1136.Words)), .d (.str e1136.Comment)], [.rowc 62 0 (List.map encApiMotion v1209)], [.d (.int .i64 y1177.2.1.Motion), .d (.int .i64 y1177.2.1.Distance), .d (.int .i64 y1177.2.1.Work), .d (.int .i64 y1177.2.1.Length), .d (.int .i64 y1177.2.1.Return), .d (.int .i64 y1177.2.1.Feed), .d (.int .i64 y1177.2.1.Tool), .d (.int .i64 y1177.2.1.Offset)], [.d (.int .i64 y1177.2.2.1.Code), .d (.int .i64 y1177.2.2.1.R), .d (.int .i64 y1177.2.2.1.Z), .d (.int .i64 y1177.2.2.1.Q), .d (.int .i64 y1177.2.2.1.Rate), .d (.int .i64 y1177.2.2.1.Initial), .d (.bool y1177.2.2.1.High)]], [(62, v1135.1.length)]⟩) qg1262 (fun _ _ => rfl) (by simp only [↓reduceIte, reduceCtorEq, nA, nE, nL, and_self, and_true, true_and, SL, encApiBlock, encApiMotion, encTableLength, rmap_set, spD, (nr rfl : ((0 : Nat) : Int) = 0)]) (by simp only [↓reduceIte, reduceCtorEq, nA, nE, nL, and_self, and_true, true_and, SL, encApiBlock, encApiMotion, encTableLength, rmap_set, spD, (nr rfl : ((0 : Nat) : Int) = 0)]) ?_ ?_
                  · intro i1208 e1210 v1209 qr1260
                    refine Mir.seqK ?_
                    refine Mir.region fun e h => ?_
                    simp only [↓reduceIte, reduceCtorEq, nA, nS, nM, nE, nL, nT, nB, iT, iN, iE, and_self, SR, SV, qr1260, encApiBlock, encApiMotion, encTableLength, rmap_set, spD]
                    refine Mir.use (e := e) ?_ h
                    refine Mir.seqK ?_
                    refine Mir.condT rfl ?_
                    refine Mir.skip ?_
                    refine Mir.toK ?_
                    refine Mir.seqK ?_
                    refine Mir.block ?_
                    refine Mir.seqK ?_
                    refine Mir.region fun e h => ?_
                    simp only [↓reduceIte, reduceCtorEq, nA, nS, nM, nE, nL, nT, nB, iT, iN, iE, and_self, SR, SV, encApiBlock, encApiMotion, encTableLength, rmap_set, spD]
                    refine Mir.use (e := e) ?_ h
                    refine Mir.bind fun e1212 q1264 => ?_
                    replace q1264 := gt_ok q1264
                    refine Mir.regionW fun e h => ?_
                    refine regW.alt 3 rfl ?_
                    simp only [↓reduceIte, reduceCtorEq, nA, nS, nM, nE, nL, nT, nB, iT, iN, iE, and_self, SR, SV, w_none, w_eq, and_true, true_and, tkS, tk0, tkN, dpS, dp0, encApiBlock, encApiMotion, encTableLength, rmap_set, spD]
                    refine alt_indexR rfl rfl rfl und_47 sz_62 (row_lo q1264.1) (row_hi q1264.2 q1264.1) ?_
                    refine regW.alt 0 rfl ?_
                    simp only [↓reduceIte, reduceCtorEq, nA, nS, nM, nE, nL, nT, nB, iT, iN, iE, and_self, SR, SV, w_none, w_eq, and_true, true_and, tkS, tk0, tkN, dpS, dp0, und_47, sz_62, encApiBlock, encApiMotion, encTableLength, rmap_set, spD]
                    refine alt_fieldR rfl rfl fld_62_4 sz_3 (by decide) ?_
                    refine regW.alt 0 rfl ?_
                    simp only [↓reduceIte, reduceCtorEq, nA, nS, nM, nE, nL, nT, nB, iT, iN, iE, and_self, SR, SV, w_none, w_eq, and_true, true_and, tkS, tk0, tkN, dpS, dp0, fld_62_4, sz_3, encApiBlock, encApiMotion, encTableLength, rmap_set, spD]
                    refine alt_storeR rfl rfl (row_at q1264.2) rfl rfl sz_3 rfl (Nat.le_of_ble_eq_true rfl) ?_
                    refine regW.of ?_
                    simp only [↓reduceIte, reduceCtorEq, nA, nS, nM, nE, nL, nT, nB, iT, iN, iE, and_self, SR, SV, w_none, w_eq, and_true, true_and, tkS, tk0, tkN, dpS, dp0, sz_3, encApiBlock, encApiMotion, encTableLength, rmap_set, spD]
                    refine Mir.use (e := e) ?_ h
                    refine Mir.region fun e h => ?_
                    simp only [↓reduceIte, reduceCtorEq, nA, nS, nM, nE, nL, nT, nB, iT, iN, iE, and_self, SR, SV, encApiBlock, encApiMotion, encTableLength, rmap_set, spD]
                    cases h
                    simp only [↓reduceIte, reduceCtorEq, nA, nE, nL, and_self, and_true, true_and, SL, encApiBlock, encApiMotion, encTableLength, rmap_set, spD, Tryd.results15, ag_49, sz_49, qr1260]
                  · intro v1209 qd1261
                    refine Mir.seqK ?_
                    refine Mir.region fun e h => ?_
                    simp only [↓reduceIte, reduceCtorEq, nA, nS, nM, nE, nL, nT, nB, iT, iN, iE, and_self, SR, SV, qd1261, encApiBlock, encApiMotion, encTableLength, rmap_set, spD]
                    refine Mir.use (e := e) ?_ h
                    refine Mir.seqK ?_
                    refine Mir.condF rfl ?_
                    refine Mir.exit fun e h => ?_
                    cases h
                    simp only [↓reduceIte, reduceCtorEq, nA, nE, nL, and_self, and_true, true_and, SL, encApiBlock, encApiMotion, encTableLength, rmap_set, spD, Tryd.results15, ag_49, sz_49]
                · intro v1196
                  refine Mir.toK ?_
                  refine Mir.seqK ?_
                  refine Mir.guard fun q1265 => ?_
                  refine Mir.regionW fun e h => ?_
                  refine regW.alt 2 rfl ?_
                  simp only [↓reduceIte, reduceCtorEq, nA, nS, nM, nE, nL, nT, nB, iT, iN, iE, and_self, SR, SV, w_none, w_eq, and_true, true_and, tkS, tk0, tkN, dpS, dp0, encApiBlock, encApiMotion, encTableLength, rmap_set, spD]
                  refine alt_appOwnR rfl rfl rfl app_47 (by kernel_rfl) (by simp only [ge0, geS, lm, xMA, xLA]) al_ApiMotion (ok2 q1265 (by simp only [lm]) (by simp only [lm])) ?_
                  refine regW.of ?_
                  simp only [↓reduceIte, reduceCtorEq, nA, nS, nM, nE, nL, nT, nB, iT, iN, iE, and_self, SR, SV, w_none, w_eq, and_true, true_and, tkS, tk0, tkN, dpS, dp0, lm, encApiBlock, encApiMotion, encTableLength, rmap_set, spD]
                  refine Mir.use (e := e) ?_ h
                  refine Mir.seqK ?_
                  refine Mir.frz 6 rfl ?_
                  simp only [↓reduceIte, reduceCtorEq, nA, nE, and_self, and_true, true_and, and_false, false_and, SZ]
                  refine Mir.bind fun y1213 hy1266 => ?_
                  refine Mir.regionD [(16, 9)] (by kernel_rfl) fun e h => ?_
                  simp only [↓reduceIte, reduceCtorEq, nA, nS, nM, nE, nL, nT, nB, iT, iN, iE, and_self, SR, SV, sepL_nil, sepL_cons, sepV_ne, sepV_d, sepV_i, true_and, Bool.and_self, ag_65, sz_65, ag_68, sz_68, ag_24, sz_24, encApiBlock, encApiMotion, encTableLength, rmap_set, spD]
                  refine Spec.by (inp_End_spec hy1266) (by simp only [↓reduceIte, reduceCtorEq, nA, nE, nL, and_self, and_true, true_and, SL, encApiBlock, encApiMotion, encTableLength, rmap_set, spD]) ?_
                  simp only [↓reduceIte, reduceCtorEq, nA, nS, nM, nE, nL, nT, nB, iT, iN, iE, and_self, SR, SV, sepL_nil, sepL_cons, sepV_ne, sepV_d, sepV_i, true_and, Bool.and_self, sz_65, sz_68, sz_24, encApiBlock, encApiMotion, encTableLength, rmap_set, spD]
                  refine Mir.use (e := e) ?_ h
                  refine Mir.seqK ?_
                  refine Mir.bind fun y1214 hy1267 => ?_
                  refine Mir.bind fun y1215 hy1268 => ?_
                  refine Mir.region fun e h => ?_
                  simp only [↓reduceIte, reduceCtorEq, nA, nS, nM, nE, nL, nT, nB, iT, iN, iE, and_self, SR, SV, ag_42, sz_42, encApiBlock, encApiMotion, encTableLength, rmap_set, spD]
                  refine SpecS.by (bk_Codes_spec hy1267) (by simp only [↓reduceIte, reduceCtorEq, nA, nE, nL, and_self, and_true, true_and, SL, encApiBlock, encApiMotion, encTableLength, rmap_set, spD]) ?_
                  simp only [↓reduceIte, reduceCtorEq, nA, nS, nM, nE, nL, nT, nB, iT, iN, iE, and_self, SR, SV, encApiBlock, encApiMotion, encTableLength, rmap_set, spD]
                  refine SpecS.by (slices_Contains_int64_int64_spec hy1268) (by simp only [↓reduceIte, reduceCtorEq, nA, nE, nL, and_self, and_true, true_and, SL, encApiBlock, encApiMotion, encTableLength, rmap_set, spD]) ?_
                  simp only [↓reduceIte, reduceCtorEq, nA, nS, nM, nE, nL, nT, nB, iT, iN, iE, and_self, SR, SV, encApiBlock, encApiMotion, encTableLength, rmap_set, spD]
                  refine Mir.use (e := e) ?_ h
                  refine Mir.cond rfl (fun hb1269 => ?_) (fun hb1269 => ?_)
                  · refine Mir.seqK ?_
                    refine Mir.region fun e h => ?_
                    simp only [↓reduceIte, reduceCtorEq, nA, nS, nM, nE, nL, nT, nB, iT, iN, iE, and_self, SR, SV, zero_49, pl_49, sz_49, encApiBlock, encApiMotion, encTableLength, rmap_set, spD]
                    refine Mir.use (e := e) ?_ h
                    refine Mir.ret fun e h => ?_
                    cases h
                    simp only [↓reduceIte, reduceCtorEq, nA, nE, nL, and_self, and_true, true_and, SL, encApiBlock, encApiMotion, encTableLength, rmap_set, spD, Tryd.results15, ag_49, sz_49]
                  · refine Mir.skip fun e h => ?_
                    cases h
                    simp only [↓reduceIte, reduceCtorEq, nA, nE, nL, and_self, and_true, true_and, SL, encApiBlock, encApiMotion, encTableLength, rmap_set, spD, Tryd.results15, ag_49, sz_49]
        · intro v1176
          refine Mir.toK ?_
          refine Mir.region fun e h => ?_
          simp only [↓reduceIte, reduceCtorEq, nA, nS, nM, nE, nL, nT, nB, iT, iN, iE, and_self, SR, SV, encApiBlock, encApiMotion, encTableLength, rmap_set, spD]
          cases h
          simp only [↓reduceIte, reduceCtorEq, nA, nE, nL, and_self, and_true, true_and, SL, encApiBlock, encApiMotion, encTableLength, rmap_set, spD, Tryd.results15, ag_49, sz_49, qr1177]
      · intro v1135 qd1178
        refine Mir.seqK ?_
        refine Mir.region fun e h => ?_
        simp only [↓reduceIte, reduceCtorEq, nA, nS, nM, nE, nL, nT, nB, iT, iN, iE, and_self, SR, SV, qd1178, encApiBlock, encApiMotion, encTableLength, rmap_set, spD]
        refine Mir.use (e := e) ?_ h
        refine Mir.seqK ?_
        refine Mir.condF rfl ?_
        refine Mir.exit fun e h => ?_
        cases h
        simp only [↓reduceIte, reduceCtorEq, nA, nE, nL, and_self, and_true, true_and, SL, encApiBlock, encApiMotion, encTableLength, rmap_set, spD, Tryd.results15, ag_49, sz_49]
    · intro v885
      refine Mir.toK ?_
      refine Mir.seqK ?_
      refine Mir.region fun e h => ?_
      simp only [↓reduceIte, reduceCtorEq, nA, nS, nM, nE, nL, nT, nB, iT, iN, iE, and_self, SR, SV, und_43, zero_49, pl_49, sz_49, encApiBlock, encApiMotion, encTableLength, rmap_set, spD]
      refine Mir.use (e := e) ?_ h
      refine Mir.ret fun e h => ?_
      cases h
      simp only [↓reduceIte, reduceCtorEq, nA, nE, nL, and_self, and_true, true_and, SL, encApiBlock, encApiMotion, encTableLength, rmap_set, spD, Tryd.results15, ag_49, sz_49]

def l47_awake  : Option Bool :=
  bindO (l47_program true) fun (y101 : (List ApiBlock)) =>
  bindO (r47_Table ) fun (y102 : R45Table) =>
  bindO (l47_theirs y102) fun (y103 : TableTable) =>
  bindO (inp_Blocks y101 y103 (ApiPos.mk 0 0 0)) fun (y104 : (List ApiMotion) × InterpreterAlarm) =>
  bindO (l47_program false) fun (y105 : (List ApiBlock)) =>
  bindO (r47_Table ) fun (y106 : R45Table) =>
  bindO (l47_theirs y106) fun (y107 : TableTable) =>
  bindO (inp_Blocks y105 y107 (ApiPos.mk 0 0 0)) fun (y108 : (List ApiMotion) × InterpreterAlarm) =>
  bindO (if ((y104.1.length : Int) == 2) = true then
        bindO (gt y104.1 0) fun (e109 : ApiMotion) =>
        if ((e109.From.X == 0) && ((e109.From.Y == 0) && ((e109.From.Z == 0) && ((e109.To.X == 1000) && ((e109.To.Y == 2000) && ((e109.To.Z == 74500) && ((e109.Rate == 0) && ((e109.Tool == 3) && (e109.Block == 1))))))))) = true then
          bindO (gt y104.1 1) fun (e110 : ApiMotion) =>
          if ((e110.From.X == 1000) && ((e110.From.Y == 2000) && ((e110.From.Z == 74500) && ((e110.To.X == 2000) && ((e110.To.Y == 2000) && ((e110.To.Z == 74500) && ((e110.Rate == 10000) && ((e110.Tool == 3) && (e110.Block == 2))))))))) = true then
            if ((y104.2.Block == (-1)) && (y104.2.Code == 0)) = true then
              some ((y108.2.Block == 2) && (y108.2.Code == 13))
            else
              some false
          else
            some false
        else
          some false
      else
        some false) fun (v111 : Bool) =>
  some v111
theorem l47_awake_spec  {y : Bool} (h : l47_awake = some y) : Spec gP 9 [] (.d (.bool y)) := by
  refine spec_mir Tryd.func9 rfl (by kernel_rfl) (by kernel_rfl) (fun y : Bool => .d (.bool y)) ?_ h
  unfold l47_awake
  simp only [List.replicate, List.length, nS, nA, Tryd.ntmps9, SV]
  refine Mir.seqK ?_
  refine Mir.region fun e h => ?_
  simp only [↓reduceIte, reduceCtorEq, nA, nS, nM, nE, nL, nT, nB, iT, iN, iE, and_self, SR, SV, encApiMotion]
  refine Mir.use (e := e) ?_ h
  refine Mir.seqK ?_
  refine Mir.bind fun y101 hy1 => ?_
  refine Mir.bind fun y102 hy2 => ?_
  refine Mir.bind fun y103 hy3 => ?_
  refine Mir.bind fun y104 hy4 => ?_
  refine Mir.region fun e h => ?_
  simp only [↓reduceIte, reduceCtorEq, nA, nS, nM, nE, nL, nT, nB, iT, iN, iE, and_self, SR, SV, encApiMotion]
  refine SpecS.by (l47_program_spec hy1) (by simp only [↓reduceIte, reduceCtorEq, nA, nE, nL, and_self, and_true, true_and, SL, encApiMotion]) ?_
  simp only [↓reduceIte, reduceCtorEq, nA, nS, nM, nE, nL, nT, nB, iT, iN, iE, and_self, SR, SV, encApiMotion]
  refine SpecS.by (r47_Table_spec hy2) (rfl) ?_
  simp only [↓reduceIte, reduceCtorEq, nA, nS, nM, nE, nL, nT, nB, iT, iN, iE, and_self, SR, SV, encApiMotion]
  refine SpecS.by (l47_theirs_spec hy3) (by simp only [↓reduceIte, reduceCtorEq, nA, nE, nL, and_self, and_true, true_and, SL, encApiMotion]) ?_
  simp only [↓reduceIte, reduceCtorEq, nA, nS, nM, nE, nL, nT, nB, iT, iN, iE, and_self, SR, SV, zero_24, pl_24, encApiMotion]
  refine SpecS.by (inp_Blocks_spec hy4) (by simp only [↓reduceIte, reduceCtorEq, nA, nE, nL, and_self, and_true, true_and, SL, encApiMotion]) ?_
  simp only [↓reduceIte, reduceCtorEq, nA, nS, nM, nE, nL, nT, nB, iT, iN, iE, and_self, SR, SV, zero_49, sz_49, encApiMotion]
  refine Mir.use (e := e) ?_ h
  refine Mir.seqK ?_
  refine Mir.bind fun y105 hy5 => ?_
  refine Mir.bind fun y106 hy6 => ?_
  refine Mir.bind fun y107 hy7 => ?_
  refine Mir.bind fun y108 hy8 => ?_
  refine Mir.region fun e h => ?_
  simp only [↓reduceIte, reduceCtorEq, nA, nS, nM, nE, nL, nT, nB, iT, iN, iE, and_self, SR, SV, encApiMotion]
  refine SpecS.by (l47_program_spec hy5) (by simp only [↓reduceIte, reduceCtorEq, nA, nE, nL, and_self, and_true, true_and, SL, encApiMotion]) ?_
  simp only [↓reduceIte, reduceCtorEq, nA, nS, nM, nE, nL, nT, nB, iT, iN, iE, and_self, SR, SV, encApiMotion]
  refine SpecS.by (r47_Table_spec hy6) (rfl) ?_
  simp only [↓reduceIte, reduceCtorEq, nA, nS, nM, nE, nL, nT, nB, iT, iN, iE, and_self, SR, SV, encApiMotion]
  refine SpecS.by (l47_theirs_spec hy7) (by simp only [↓reduceIte, reduceCtorEq, nA, nE, nL, and_self, and_true, true_and, SL, encApiMotion]) ?_
  simp only [↓reduceIte, reduceCtorEq, nA, nS, nM, nE, nL, nT, nB, iT, iN, iE, and_self, SR, SV, zero_24, pl_24, encApiMotion]
  refine SpecS.by (inp_Blocks_spec hy8) (by simp only [↓reduceIte, reduceCtorEq, nA, nE, nL, and_self, and_true, true_and, SL, encApiMotion]) ?_
  simp only [↓reduceIte, reduceCtorEq, nA, nS, nM, nE, nL, nT, nB, iT, iN, iE, and_self, SR, SV, zero_49, sz_49, encApiMotion]
  refine Mir.use (e := e) ?_ h
  refine Mir.seqK ?_
  refine Mir.region fun e h => ?_
  simp only [↓reduceIte, reduceCtorEq, nA, nS, nM, nE, nL, nT, nB, iT, iN, iE, and_self, SR, SV, zero_24, pl_24, sz_24, encApiMotion]
  refine Mir.use (e := e) ?_ h
  refine Mir.seqK ?_
  refine Mir.joinO (fun v111 : Bool => [.d (.bool v111), U, U, U, U, U, U, U, U, U, U, U, U, U, U, U, U, U, U, U, U, U, U, U, U, U, U, U, U, U, U, U, U, U, U, U, U, U, U, U, U, U, U, U, U, U, U, U, U, U, U, U, U]) (fun v111 : Bool => ⟨[[.d (.int .i64 y104.2.Block), .d (.int .i64 y104.2.Code)], [.d (.int .i64 y108.2.Block), .d (.int .i64 y108.2.Code)], [.d (.int .i64 1000), .d (.int .i64 2000), .d (.int .i64 74500)]], []⟩) (fun _ => rfl) ?_ ?_
  · refine Mir.ite (fun hb9 => ?_) (fun hb9 => ?_)
    · refine Mir.bind fun e109 q10 => ?_
      replace q10 := gt_ok q10
      simp only [Int.reduceToNat, Int.reduceLT, Nat.sub_zero, dp0] at q10
      refine Mir.ite (fun hb11 => ?_) (fun hb11 => ?_)
      · refine Mir.bind fun e110 q12 => ?_
        replace q12 := gt_ok q12
        simp only [Int.reduceToNat, Int.reduceLT, Nat.sub_zero, dp0] at q12
        refine Mir.ite (fun hb13 => ?_) (fun hb13 => ?_)
        · refine Mir.ite (fun hb14 => ?_) (fun hb14 => ?_)
          · refine Mir.regionD [] (by kernel_rfl) fun e h => ?_
            simp only [↓reduceIte, reduceCtorEq, nA, nS, nM, nE, nL, nT, nB, iT, iN, iE, and_self, SR, SV, sepL_nil, sepL_cons, sepV_ne, sepV_d, sepV_i, true_and, Bool.and_self, und_47, sz_62, q10, ag_62, ag_24, sz_24, zero_62, pl_62, gE_62, q12, zero_24, pl_24, ag_49, sz_49, zero_49, pl_49, gE_49, encApiMotion, hb9, hb11, hb13, hb14]
            cases h
            simp only [↓reduceIte, reduceCtorEq, nA, nE, nL, and_self, and_true, true_and, SL, encApiMotion, hb9, hb11, hb13, hb14]
          · refine Mir.regionD [] (by kernel_rfl) fun e h => ?_
            simp only [↓reduceIte, reduceCtorEq, nA, nS, nM, nE, nL, nT, nB, iT, iN, iE, and_self, SR, SV, sepL_nil, sepL_cons, sepV_ne, sepV_d, sepV_i, true_and, Bool.and_self, und_47, sz_62, q10, ag_62, ag_24, sz_24, zero_62, pl_62, gE_62, q12, zero_24, pl_24, ag_49, sz_49, zero_49, pl_49, gE_49, encApiMotion, hb9, hb11, hb13, hb14]
            cases h
            simp only [↓reduceIte, reduceCtorEq, nA, nE, nL, and_self, and_true, true_and, SL, encApiMotion, hb9, hb11, hb13, hb14]
        · refine Mir.regionD [] (by kernel_rfl) fun e h => ?_
          simp only [↓reduceIte, reduceCtorEq, nA, nS, nM, nE, nL, nT, nB, iT, iN, iE, and_self, SR, SV, sepL_nil, sepL_cons, sepV_ne, sepV_d, sepV_i, true_and, Bool.and_self, und_47, sz_62, q10, ag_62, ag_24, sz_24, zero_62, pl_62, gE_62, q12, zero_24, pl_24, encApiMotion, hb9, hb11, hb13]
          cases h
          simp only [↓reduceIte, reduceCtorEq, nA, nE, nL, and_self, and_true, true_and, SL, encApiMotion, hb9, hb11, hb13]
      · refine Mir.regionD [] (by kernel_rfl) fun e h => ?_
        simp only [↓reduceIte, reduceCtorEq, nA, nS, nM, nE, nL, nT, nB, iT, iN, iE, and_self, SR, SV, sepL_nil, sepL_cons, sepV_ne, sepV_d, sepV_i, true_and, Bool.and_self, und_47, sz_62, q10, ag_62, ag_24, sz_24, zero_62, pl_62, gE_62, encApiMotion, hb9, hb11]
        cases h
        simp only [↓reduceIte, reduceCtorEq, nA, nE, nL, and_self, and_true, true_and, SL, encApiMotion, hb9, hb11]
    · refine Mir.regionD [] (by kernel_rfl) fun e h => ?_
      simp only [↓reduceIte, reduceCtorEq, nA, nS, nM, nE, nL, nT, nB, iT, iN, iE, and_self, SR, SV, sepL_nil, sepL_cons, sepV_ne, sepV_d, sepV_i, true_and, Bool.and_self, und_47, encApiMotion, hb9]
      cases h
      simp only [↓reduceIte, reduceCtorEq, nA, nE, nL, and_self, and_true, true_and, SL, encApiMotion, hb9]
  · intro v111
    refine Mir.toK ?_
    refine Mir.ret fun e h => ?_
    cases h
    simp only [↓reduceIte, reduceCtorEq, nA, nE, nL, and_self, and_true, true_and, SL, encApiMotion, Tryd.results9]

end Go.Proofs.YtlcfgpjgjdjpoaaDoor
