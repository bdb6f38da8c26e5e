/-
  Mirrors of functions, written by wip/mir.py.
-/
import Derived.Test.YtijihbegfmkceaaDoorGf
import Derived.Test.YtijihbegfmkceaaDoorTy
import Derived.Test.YtijihbegfmkceaaDoorGo
import Derived.Test.YtijihbegfmkceaaDoorMB
namespace Go.Proofs.YtijihbegfmkceaaDoor
open Go.RowKit
open Nat renaming reduceAdd → nA, reduceSub → nS, reduceMul → nM, reduceEqDiff → nE, reduceLeDiff → nL, reduceLT → nT, reduceBEq → nB
open Int renaming reduceLT → iT, reduceToNat → iN, reduceEq → iE
set_option linter.unusedVariables false
set_option linter.unusedSimpArgs false
set_option maxRecDepth 100000

def l41_BlockValue (a0 : (List UInt8)) : Option Bool :=
  bindO (bindO (l41_awake ) fun (y101 : Bool) =>
      if y101 = true then
        some (decide ((a0.length : Int) > 60))
      else
        some true) fun (v102 : Bool) =>
  if v102 = true then
    bindO (l41_awake ) fun (y104 : Bool) =>
    some y104
  else
    bindO (bk_Value a0) fun (y105 : Int × Int) =>
    bindO (r41_Value a0) fun (y106 : Int × Int) =>
    bindO (if (y105.1 == y106.1) = true then
          if (y105.2 == y106.2) = true then
            if (y105.2 != 0) = true then
              some true
            else
              bindO (r41_Text y105.1) fun (y107 : (List UInt8)) =>
              some (y107 == a0)
          else
            some false
        else
          some false) fun (v108 : Bool) =>
    some v108
theorem l41_BlockValue_spec {a0 : (List UInt8)} {y : Bool} (h : l41_BlockValue a0 = some y) : Spec gP 4 [.d (.str a0)] (.d (.bool y)) := by
  refine spec_mir Tryd.func4 rfl (by kernel_rfl) (by kernel_rfl) (fun y : Bool => .d (.bool y)) ?_ h
  unfold l41_BlockValue
  simp only [List.replicate, List.length, nS, nA, Tryd.ntmps4, SV]
  refine Mir.seqK (Mir.region fun e h => ?_)
  simp only [↓reduceIte, reduceCtorEq, nA, nS, nM, nE, nL, nT, nB, iT, iN, iE, and_self, SR, SV]
  refine Mir.use (e := e) ?_ h
  refine Mir.seqK (Mir.seqK (Mir.joinO (fun v102 : Bool => [.d (.str a0), U, U, U, U, U, U, U, U, U, U, U, U, .d (.bool v102), U, U, U, U, U, U, U, U, U, U, U, U, U, U, U, U, U, U, U, U, U, U, U, U, U, U, U, U, U]) (fun v102 : Bool => ⟨[], []⟩) (fun _ => rfl) ?_ ?_))
  ·refine Mir.bind fun y101 hy1 => Mir.ite (fun hb2 => ?_) (fun hb2 => ?_)
   ·refine Mir.region fun e h => ?_
    simp only [↓reduceIte, reduceCtorEq, nA, nS, nM, nE, nL, nT, nB, iT, iN, iE, and_self, SR, SV, hb2]
    refine SpecS.by (l41_awake_spec hy1) (rfl) ?_
    simp only [↓reduceIte, reduceCtorEq, nA, nS, nM, nE, nL, nT, nB, iT, iN, iE, and_self, SR, SV, und_9, hb2]
    cases h
    simp only [↓reduceIte, reduceCtorEq, nA, nE, nL, and_self, and_true, true_and, SL, hb2]
   ·refine Mir.region fun e h => ?_
    simp only [↓reduceIte, reduceCtorEq, nA, nS, nM, nE, nL, nT, nB, iT, iN, iE, and_self, SR, SV, hb2]
    refine SpecS.by (l41_awake_spec hy1) (rfl) ?_
    simp only [↓reduceIte, reduceCtorEq, nA, nS, nM, nE, nL, nT, nB, iT, iN, iE, and_self, SR, SV, hb2]
    cases h
    simp only [↓reduceIte, reduceCtorEq, nA, nE, nL, and_self, and_true, true_and, SL, hb2]
  ·intro v102
   refine Mir.toK (Mir.cond rfl (fun hb5 => ?_) (fun hb5 => ?_))
   ·refine Mir.seqK (Mir.bind fun y104 hy6 => Mir.region fun e h => ?_)
    simp only [↓reduceIte, reduceCtorEq, nA, nS, nM, nE, nL, nT, nB, iT, iN, iE, and_self, SR, SV]
    refine SpecS.by (l41_awake_spec hy6) (rfl) ?_
    simp only [↓reduceIte, reduceCtorEq, nA, nS, nM, nE, nL, nT, nB, iT, iN, iE, and_self, SR, SV]
    refine Mir.use (e := e) ?_ h
    refine Mir.ret fun e h => ?_
    cases h
    simp only [↓reduceIte, reduceCtorEq, nA, nE, nL, and_self, and_true, true_and, SL, Tryd.results4]
   ·refine Mir.skip (Mir.toK (Mir.seqK (Mir.bind fun y105 hy7 => Mir.region fun e h => ?_)))
    simp only [↓reduceIte, reduceCtorEq, nA, nS, nM, nE, nL, nT, nB, iT, iN, iE, and_self, SR, SV]
    refine SpecS.by (bk_Value_spec hy7) (by simp only [↓reduceIte, reduceCtorEq, nA, nE, nL, and_self, and_true, true_and, SL]) ?_
    simp only [↓reduceIte, reduceCtorEq, nA, nS, nM, nE, nL, nT, nB, iT, iN, iE, and_self, SR, SV]
    refine Mir.use (e := e) ?_ h
    refine Mir.seqK (Mir.bind fun y106 hy8 => Mir.region fun e h => ?_)
    simp only [↓reduceIte, reduceCtorEq, nA, nS, nM, nE, nL, nT, nB, iT, iN, iE, and_self, SR, SV]
    refine SpecS.by (r41_Value_spec hy8) (by simp only [↓reduceIte, reduceCtorEq, nA, nE, nL, and_self, and_true, true_and, SL]) ?_
    simp only [↓reduceIte, reduceCtorEq, nA, nS, nM, nE, nL, nT, nB, iT, iN, iE, and_self, SR, SV]
    refine Mir.use (e := e) ?_ h
    refine Mir.seqK (Mir.joinO (fun v108 : Bool => [U, U, .d (.bool v108), U, U, U, U, U, U, U, U, U, U, U, U, U, U, U, U, U, U, U, U, U, U, U, U, U, U, U, U, U, U, U, U, U, U, U, U, U, U, U, U]) (fun v108 : Bool => ⟨[], []⟩) (fun _ => rfl) ?_ ?_)
    ·refine Mir.ite (fun hb9 => ?_) (fun hb9 => ?_)
     ·refine Mir.ite (fun hb10 => ?_) (fun hb10 => ?_)
      ·refine Mir.ite (fun hb11 => ?_) (fun hb11 => ?_)
       ·refine Mir.region fun e h => ?_
        simp only [↓reduceIte, reduceCtorEq, nA, nS, nM, nE, nL, nT, nB, iT, iN, iE, and_self, SR, SV, hb9, hb10, hb11]
        cases h
        simp only [↓reduceIte, reduceCtorEq, nA, nE, nL, and_self, and_true, true_and, SL, hb9, hb10, hb11]
       ·refine Mir.bind fun y107 hy12 => Mir.region fun e h => ?_
        simp only [↓reduceIte, reduceCtorEq, nA, nS, nM, nE, nL, nT, nB, iT, iN, iE, and_self, SR, SV, hb9, hb10, hb11]
        refine SpecS.by (r41_Text_spec hy12) (by simp only [↓reduceIte, reduceCtorEq, nA, nE, nL, and_self, and_true, true_and, SL, hb9, hb10, hb11]) ?_
        simp only [↓reduceIte, reduceCtorEq, nA, nS, nM, nE, nL, nT, nB, iT, iN, iE, and_self, SR, SV, hb9, hb10, hb11]
        cases h
        simp only [↓reduceIte, reduceCtorEq, nA, nE, nL, and_self, and_true, true_and, SL, hb9, hb10, hb11]
      ·refine Mir.region fun e h => ?_
       simp only [↓reduceIte, reduceCtorEq, nA, nS, nM, nE, nL, nT, nB, iT, iN, iE, and_self, SR, SV, hb9, hb10]
       cases h
       simp only [↓reduceIte, reduceCtorEq, nA, nE, nL, and_self, and_true, true_and, SL, hb9, hb10]
     ·refine Mir.region fun e h => ?_
      simp only [↓reduceIte, reduceCtorEq, nA, nS, nM, nE, nL, nT, nB, iT, iN, iE, and_self, SR, SV, hb9]
      cases h
      simp only [↓reduceIte, reduceCtorEq, nA, nE, nL, and_self, and_true, true_and, SL, hb9]
    ·intro v108
     refine Mir.toK (Mir.ret fun e h => ?_)
     cases h
     simp only [↓reduceIte, reduceCtorEq, nA, nE, nL, and_self, and_true, true_and, SL, Tryd.results4]

theorem co_9 : Tryd.prog.cellsOf 9 = 1 := by kernel_rfl
theorem opn_9 : Opn Tryd.prog 9 eStr inStr := Opn.str Tryd.underlying9
end Go.Proofs.YtijihbegfmkceaaDoor
