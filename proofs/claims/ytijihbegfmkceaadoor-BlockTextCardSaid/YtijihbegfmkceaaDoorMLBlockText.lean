/-
  Mirrors of functions, written by wip/mir.py.
-/
import Derived.Test.YtijihbegfmkceaaDoorGf
import Derived.Test.YtijihbegfmkceaaDoorTy
import Derived.Test.YtijihbegfmkceaaDoorGo
import Derived.Test.YtijihbegfmkceaaDoorMB
namespace Go.Proofs.YtijihbegfmkceaaDoor
open Go.RowKit
open Nat renaming reduceAdd → nA, reduceSub → nS, reduceMul → nM, reduceEqDiff → nE, reduceLeDiff → nL, reduceLT → nT, reduceBEq → nB
open Int renaming reduceLT → iT, reduceToNat → iN, reduceEq → iE
set_option linter.unusedVariables false
set_option linter.unusedSimpArgs false
set_option maxRecDepth 100000

def l41_BlockText (a0 : Int) : Option Bool :=
  bindO (l41_awake ) fun (y101 : Bool) =>
  if (!y101) = true then
    some false
  else
    bindO (bk_Text a0) fun (y102 : (List UInt8)) =>
    bindO (bk_Value y102) fun (y103 : Int × Int) =>
    if ((decide (a0 > 1000000000000)) || (decide (a0 < (-1000000000000)))) = true then
      bindO (bindO (r41_Text a0) fun (y106 : (List UInt8)) =>
          if (y102 == y106) = true then
            if (y103.2 == 11) = true then
              some (y103.1 == 0)
            else
              some false
          else
            some false) fun (v107 : Bool) =>
      some v107
    else
      bindO (bindO (r41_Text a0) fun (y108 : (List UInt8)) =>
          if (y102 == y108) = true then
            if (y103.2 == 0) = true then
              some (y103.1 == a0)
            else
              some false
          else
            some false) fun (v109 : Bool) =>
      some v109
theorem l41_BlockText_spec {a0 : Int} {y : Bool} (h : l41_BlockText a0 = some y) : Spec gP 3 [.d (.int .i64 a0)] (.d (.bool y)) := by
  refine spec_mir Tryd.func3 rfl (by kernel_rfl) (by kernel_rfl) (fun y : Bool => .d (.bool y)) ?_ h
  unfold l41_BlockText
  simp only [List.replicate, List.length, nS, nA, Tryd.ntmps3, SV]
  refine Mir.seqK (Mir.region fun e h => ?_)
  simp only [↓reduceIte, reduceCtorEq, nA, nS, nM, nE, nL, nT, nB, iT, iN, iE, and_self, SR, SV]
  refine Mir.use (e := e) ?_ h
  refine Mir.seqK (Mir.seqK (Mir.bind fun y101 hy1 => Mir.region fun e h => ?_))
  simp only [↓reduceIte, reduceCtorEq, nA, nS, nM, nE, nL, nT, nB, iT, iN, iE, and_self, SR, SV]
  refine SpecS.by (l41_awake_spec hy1) (rfl) ?_
  simp only [↓reduceIte, reduceCtorEq, nA, nS, nM, nE, nL, nT, nB, iT, iN, iE, and_self, SR, SV]
  refine Mir.use (e := e) ?_ h
  refine Mir.cond rfl (fun hb3 => ?_) (fun hb3 => ?_)
  ·refine Mir.seqK (Mir.region fun e h => ?_)
   simp only [↓reduceIte, reduceCtorEq, nA, nS, nM, nE, nL, nT, nB, iT, iN, iE, and_self, SR, SV]
   refine Mir.use (e := e) ?_ h
   refine Mir.ret fun e h => ?_
   cases h
   simp only [↓reduceIte, reduceCtorEq, nA, nE, nL, and_self, and_true, true_and, SL, Tryd.results3]
  ·refine Mir.skip (Mir.toK (Mir.seqK (Mir.bind fun y102 hy4 => Mir.region fun e h => ?_)))
   simp only [↓reduceIte, reduceCtorEq, nA, nS, nM, nE, nL, nT, nB, iT, iN, iE, and_self, SR, SV]
   refine SpecS.by (bk_Text_spec hy4) (by simp only [↓reduceIte, reduceCtorEq, nA, nE, nL, and_self, and_true, true_and, SL]) ?_
   simp only [↓reduceIte, reduceCtorEq, nA, nS, nM, nE, nL, nT, nB, iT, iN, iE, and_self, SR, SV]
   refine Mir.use (e := e) ?_ h
   refine Mir.seqK (Mir.bind fun y103 hy5 => Mir.region fun e h => ?_)
   simp only [↓reduceIte, reduceCtorEq, nA, nS, nM, nE, nL, nT, nB, iT, iN, iE, and_self, SR, SV]
   refine SpecS.by (bk_Value_spec hy5) (by simp only [↓reduceIte, reduceCtorEq, nA, nE, nL, and_self, and_true, true_and, SL]) ?_
   simp only [↓reduceIte, reduceCtorEq, nA, nS, nM, nE, nL, nT, nB, iT, iN, iE, and_self, SR, SV]
   refine Mir.use (e := e) ?_ h
   refine Mir.seqK (Mir.seqK (Mir.joinV [.d (.int .i64 a0), U, U, .d (.str y102), .d (.int .i64 y103.1), .d (.int .i64 y103.2), U, U, U, U, U, U, U, U, U, U, U, U, U, U, .d (.bool ((decide (a0 > 1000000000000)) || (decide (a0 < (-1000000000000))))), U, U, U, U, U, U, U, U, U, U, U, U, U, U, U, U, U, U, U, U, U, U, U, U, U] ⟨[], []⟩ rfl ?_ ?_))
   ·refine SWs.region ?_
    rcases Bool.eq_false_or_eq_true (decide (a0 > 1000000000000)) with hb6 | hb6
    ·simp only [↓reduceIte, reduceCtorEq, nA, nS, nM, nE, nL, nT, nB, iT, iN, iE, and_self, SR, SV, SL, PB, hb6]
    ·simp only [↓reduceIte, reduceCtorEq, nA, nS, nM, nE, nL, nT, nB, iT, iN, iE, and_self, SR, SV, SL, PB, hb6]
   ·refine Mir.toK (Mir.cond rfl (fun hb11 => ?_) (fun hb11 => ?_))
    ·refine Mir.seqK (Mir.joinO (fun v107 : Bool => [U, U, .d (.bool v107), U, U, U, U, U, U, U, U, U, U, U, U, U, U, U, U, U, U, U, U, U, U, U, U, U, U, U, U, U, U, U, U, U, U, U, U, U, U, U, U, U, U, U]) (fun v107 : Bool => ⟨[], []⟩) (fun _ => rfl) ?_ ?_)
     ·refine Mir.bind fun y106 hy12 => Mir.ite (fun hb13 => ?_) (fun hb13 => ?_)
      ·refine Mir.ite (fun hb14 => ?_) (fun hb14 => ?_)
       ·refine Mir.region fun e h => ?_
        simp only [↓reduceIte, reduceCtorEq, nA, nS, nM, nE, nL, nT, nB, iT, iN, iE, and_self, SR, SV, hb13, hb14]
        refine SpecS.by (r41_Text_spec hy12) (by simp only [↓reduceIte, reduceCtorEq, nA, nE, nL, and_self, and_true, true_and, SL, hb13, hb14]) ?_
        simp only [↓reduceIte, reduceCtorEq, nA, nS, nM, nE, nL, nT, nB, iT, iN, iE, and_self, SR, SV, hb13, hb14]
        cases h
        simp only [↓reduceIte, reduceCtorEq, nA, nE, nL, and_self, and_true, true_and, SL, hb13, hb14]
       ·refine Mir.region fun e h => ?_
        simp only [↓reduceIte, reduceCtorEq, nA, nS, nM, nE, nL, nT, nB, iT, iN, iE, and_self, SR, SV, hb13, hb14]
        refine SpecS.by (r41_Text_spec hy12) (by simp only [↓reduceIte, reduceCtorEq, nA, nE, nL, and_self, and_true, true_and, SL, hb13, hb14]) ?_
        simp only [↓reduceIte, reduceCtorEq, nA, nS, nM, nE, nL, nT, nB, iT, iN, iE, and_self, SR, SV, hb13, hb14]
        cases h
        simp only [↓reduceIte, reduceCtorEq, nA, nE, nL, and_self, and_true, true_and, SL, hb13, hb14]
      ·refine Mir.region fun e h => ?_
       simp only [↓reduceIte, reduceCtorEq, nA, nS, nM, nE, nL, nT, nB, iT, iN, iE, and_self, SR, SV, hb13]
       refine SpecS.by (r41_Text_spec hy12) (by simp only [↓reduceIte, reduceCtorEq, nA, nE, nL, and_self, and_true, true_and, SL, hb13]) ?_
       simp only [↓reduceIte, reduceCtorEq, nA, nS, nM, nE, nL, nT, nB, iT, iN, iE, and_self, SR, SV, hb13]
       cases h
       simp only [↓reduceIte, reduceCtorEq, nA, nE, nL, and_self, and_true, true_and, SL, hb13]
     ·intro v107
      refine Mir.toK (Mir.ret fun e h => ?_)
      cases h
      simp only [↓reduceIte, reduceCtorEq, nA, nE, nL, and_self, and_true, true_and, SL, Tryd.results3]
    ·refine Mir.skip (Mir.toK (Mir.seqK (Mir.joinO (fun v109 : Bool => [U, U, .d (.bool v109), U, U, U, U, U, U, U, U, U, U, U, U, U, U, U, U, U, U, U, U, U, U, U, U, U, U, U, U, U, U, U, U, U, U, U, U, U, U, U, U, U, U, U]) (fun v109 : Bool => ⟨[], []⟩) (fun _ => rfl) ?_ ?_)))
     ·refine Mir.bind fun y108 hy15 => Mir.ite (fun hb16 => ?_) (fun hb16 => ?_)
      ·refine Mir.ite (fun hb17 => ?_) (fun hb17 => ?_)
       ·refine Mir.region fun e h => ?_
        simp only [↓reduceIte, reduceCtorEq, nA, nS, nM, nE, nL, nT, nB, iT, iN, iE, and_self, SR, SV, hb16, hb17]
        refine SpecS.by (r41_Text_spec hy15) (by simp only [↓reduceIte, reduceCtorEq, nA, nE, nL, and_self, and_true, true_and, SL, hb16, hb17]) ?_
        simp only [↓reduceIte, reduceCtorEq, nA, nS, nM, nE, nL, nT, nB, iT, iN, iE, and_self, SR, SV, hb16, hb17]
        cases h
        simp only [↓reduceIte, reduceCtorEq, nA, nE, nL, and_self, and_true, true_and, SL, hb16, hb17]
       ·refine Mir.region fun e h => ?_
        simp only [↓reduceIte, reduceCtorEq, nA, nS, nM, nE, nL, nT, nB, iT, iN, iE, and_self, SR, SV, hb16, hb17]
        refine SpecS.by (r41_Text_spec hy15) (by simp only [↓reduceIte, reduceCtorEq, nA, nE, nL, and_self, and_true, true_and, SL, hb16, hb17]) ?_
        simp only [↓reduceIte, reduceCtorEq, nA, nS, nM, nE, nL, nT, nB, iT, iN, iE, and_self, SR, SV, hb16, hb17]
        cases h
        simp only [↓reduceIte, reduceCtorEq, nA, nE, nL, and_self, and_true, true_and, SL, hb16, hb17]
      ·refine Mir.region fun e h => ?_
       simp only [↓reduceIte, reduceCtorEq, nA, nS, nM, nE, nL, nT, nB, iT, iN, iE, and_self, SR, SV, hb16]
       refine SpecS.by (r41_Text_spec hy15) (by simp only [↓reduceIte, reduceCtorEq, nA, nE, nL, and_self, and_true, true_and, SL, hb16]) ?_
       simp only [↓reduceIte, reduceCtorEq, nA, nS, nM, nE, nL, nT, nB, iT, iN, iE, and_self, SR, SV, hb16]
       cases h
       simp only [↓reduceIte, reduceCtorEq, nA, nE, nL, and_self, and_true, true_and, SL, hb16]
     ·intro v109
      refine Mir.toK (Mir.ret fun e h => ?_)
      cases h
      simp only [↓reduceIte, reduceCtorEq, nA, nE, nL, and_self, and_true, true_and, SL, Tryd.results3]

theorem co_2 : Tryd.prog.cellsOf 2 = 1 := by kernel_rfl
theorem opn_2 : Opn Tryd.prog 2 (eInt .i64) (inInt .i64) := Opn.int Tryd.underlying2
end Go.Proofs.YtijihbegfmkceaaDoor
