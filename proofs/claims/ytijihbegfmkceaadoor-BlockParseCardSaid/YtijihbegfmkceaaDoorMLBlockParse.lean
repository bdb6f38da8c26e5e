/-
  Mirrors of functions, written by wip/mir.py.
-/
import Derived.Test.YtijihbegfmkceaaDoorGf
import Derived.Test.YtijihbegfmkceaaDoorTy
import Derived.Test.YtijihbegfmkceaaDoorGo
import Derived.Test.YtijihbegfmkceaaDoorMB
namespace Go.Proofs.YtijihbegfmkceaaDoor
open Go.RowKit
open Nat renaming reduceAdd → nA, reduceSub → nS, reduceMul → nM, reduceEqDiff → nE, reduceLeDiff → nL, reduceLT → nT, reduceBEq → nB
open Int renaming reduceLT → iT, reduceToNat → iN, reduceEq → iE
set_option linter.unusedVariables false
set_option linter.unusedSimpArgs false
set_option maxRecDepth 100000

def l41_BlockParse (a0 : (List UInt8)) : Option Bool :=
  bindO (bindO (l41_awake ) fun (y101 : Bool) =>
      if y101 = true then
        some (decide ((a0.length : Int) > 400))
      else
        some true) fun (v102 : Bool) =>
  if v102 = true then
    bindO (l41_awake ) fun (y104 : Bool) =>
    some y104
  else
    bindO (bk_Parse a0) fun (y105 : ApiBlock × Int × Int) =>
    bindO (r41_Parse a0) fun (y106 : ApiBlock × Int × Int) =>
    bindO (if (y105.2.2 != y106.2.2) = true then
          some true
        else
          if (y105.2.1 != y106.2.1) = true then
            some true
          else
            bindO (r41_Equal y105.1 y106.1) fun (y107 : Bool) =>
            some (!y107)) fun (v108 : Bool) =>
    if v108 = true then
      some false
    else
      if (y105.2.2 != 0) = true then
        some true
      else
        bindO (bk_Format y105.1) fun (y109 : (List UInt8) × Int) =>
        some ((y109.2 == 0) && (y109.1 == a0))
theorem l41_BlockParse_spec {a0 : (List UInt8)} {y : Bool} (h : l41_BlockParse a0 = some y) : Spec gP 6 [.d (.str a0)] (.d (.bool y)) := by
  refine spec_mir Tryd.func6 rfl (by kernel_rfl) (by kernel_rfl) (fun y : Bool => .d (.bool y)) ?_ h
  unfold l41_BlockParse
  simp only [List.replicate, List.length, nS, nA, Tryd.ntmps6, SV]
  refine Mir.seqK (Mir.region fun e h => ?_)
  simp only [↓reduceIte, reduceCtorEq, nA, nS, nM, nE, nL, nT, nB, iT, iN, iE, and_self, SR, SV]
  refine Mir.use (e := e) ?_ h
  refine Mir.seqK (Mir.seqK (Mir.joinO (fun v102 : Bool => [.d (.str a0), U, U, U, U, U, U, U, U, U, U, U, U, U, U, U, U, .d (.bool v102), U, U, U, U, U, U, U, U, U, U, U, U, U, U, U, U, U, U, U, U, U, U, U, U, U, U, U, U, U, U, U, U, U, U, U, U, U, U, U, U, U]) (fun v102 : Bool => ⟨[], []⟩) (fun _ => rfl) ?_ ?_))
  ·refine Mir.bind fun y101 hy1 => Mir.ite (fun hb2 => ?_) (fun hb2 => ?_)
   ·refine Mir.region fun e h => ?_
    simp only [↓reduceIte, reduceCtorEq, nA, nS, nM, nE, nL, nT, nB, iT, iN, iE, and_self, SR, SV, hb2]
    refine SpecS.by (l41_awake_spec hy1) (rfl) ?_
    simp only [↓reduceIte, reduceCtorEq, nA, nS, nM, nE, nL, nT, nB, iT, iN, iE, and_self, SR, SV, und_9, hb2]
    cases h
    simp only [↓reduceIte, reduceCtorEq, nA, nE, nL, and_self, and_true, true_and, SL, hb2]
   ·refine Mir.region fun e h => ?_
    simp only [↓reduceIte, reduceCtorEq, nA, nS, nM, nE, nL, nT, nB, iT, iN, iE, and_self, SR, SV, hb2]
    refine SpecS.by (l41_awake_spec hy1) (rfl) ?_
    simp only [↓reduceIte, reduceCtorEq, nA, nS, nM, nE, nL, nT, nB, iT, iN, iE, and_self, SR, SV, hb2]
    cases h
    simp only [↓reduceIte, reduceCtorEq, nA, nE, nL, and_self, and_true, true_and, SL, hb2]
  ·intro v102
   refine Mir.toK (Mir.cond rfl (fun hb5 => ?_) (fun hb5 => ?_))
   ·refine Mir.seqK (Mir.bind fun y104 hy6 => Mir.region fun e h => ?_)
    simp only [↓reduceIte, reduceCtorEq, nA, nS, nM, nE, nL, nT, nB, iT, iN, iE, and_self, SR, SV]
    refine SpecS.by (l41_awake_spec hy6) (rfl) ?_
    simp only [↓reduceIte, reduceCtorEq, nA, nS, nM, nE, nL, nT, nB, iT, iN, iE, and_self, SR, SV]
    refine Mir.use (e := e) ?_ h
    refine Mir.ret fun e h => ?_
    cases h
    simp only [↓reduceIte, reduceCtorEq, nA, nE, nL, and_self, and_true, true_and, SL, Tryd.results6]
   ·refine Mir.skip (Mir.toK (Mir.seqK (Mir.bind fun y105 hy7 => Mir.region fun e h => ?_)))
    simp only [↓reduceIte, reduceCtorEq, nA, nS, nM, nE, nL, nT, nB, iT, iN, iE, and_self, SR, SV]
    refine SpecS.by (bk_Parse_spec hy7) (by simp only [↓reduceIte, reduceCtorEq, nA, nE, nL, and_self, and_true, true_and, SL]) ?_
    simp only [↓reduceIte, reduceCtorEq, nA, nS, nM, nE, nL, nT, nB, iT, iN, iE, and_self, SR, SV, zero_31, sz_31]
    refine Mir.use (e := e) ?_ h
    refine Mir.seqK (Mir.bind fun y106 hy8 => Mir.region fun e h => ?_)
    simp only [↓reduceIte, reduceCtorEq, nA, nS, nM, nE, nL, nT, nB, iT, iN, iE, and_self, SR, SV]
    refine SpecS.by (r41_Parse_spec hy8) (by simp only [↓reduceIte, reduceCtorEq, nA, nE, nL, and_self, and_true, true_and, SL]) ?_
    simp only [↓reduceIte, reduceCtorEq, nA, nS, nM, nE, nL, nT, nB, iT, iN, iE, and_self, SR, SV, zero_31, sz_31]
    refine Mir.use (e := e) ?_ h
    refine Mir.seqK (Mir.seqK (Mir.joinO (fun v108 : Bool => [.d (.str a0), U, U, .ptr 0 0, U, .d (.int .i64 y105.2.2), U, U, U, U, U, U, U, U, U, U, U, U, U, U, U, U, U, U, U, U, U, U, U, U, U, U, U, U, U, U, U, U, U, U, U, U, U, U, .d (.bool v108), U, U, U, U, U, U, U, U, U, U, U, U, U, U]) (fun v108 : Bool => ⟨[[.d (.bool y105.1.Skip), .d (.list (List.map encApiWord y105.1.Words)), .d (.str y105.1.Comment)], [.d (.bool y106.1.Skip), .d (.list (List.map encApiWord y106.1.Words)), .d (.str y106.1.Comment)]], []⟩) (fun _ => rfl) ?_ ?_))
    ·refine Mir.ite (fun hb9 => ?_) (fun hb9 => ?_)
     ·refine Mir.region fun e h => ?_
      simp only [↓reduceIte, reduceCtorEq, nA, nS, nM, nE, nL, nT, nB, iT, iN, iE, and_self, SR, SV, hb9]
      cases h
      simp only [↓reduceIte, reduceCtorEq, nA, nE, nL, and_self, and_true, true_and, SL, hb9]
     ·refine Mir.ite (fun hb10 => ?_) (fun hb10 => ?_)
      ·refine Mir.region fun e h => ?_
       simp only [↓reduceIte, reduceCtorEq, nA, nS, nM, nE, nL, nT, nB, iT, iN, iE, and_self, SR, SV, hb9, hb10]
       cases h
       simp only [↓reduceIte, reduceCtorEq, nA, nE, nL, and_self, and_true, true_and, SL, hb9, hb10]
      ·refine Mir.bind fun y107 hy11 => Mir.region fun e h => ?_
       simp only [↓reduceIte, reduceCtorEq, nA, nS, nM, nE, nL, nT, nB, iT, iN, iE, and_self, SR, SV, ag_31, sz_31, hb9, hb10]
       refine SpecS.by (r41_Equal_spec hy11) (by simp only [↓reduceIte, reduceCtorEq, nA, nE, nL, and_self, and_true, true_and, SL, hb9, hb10]) ?_
       simp only [↓reduceIte, reduceCtorEq, nA, nS, nM, nE, nL, nT, nB, iT, iN, iE, and_self, SR, SV, hb9, hb10]
       cases h
       simp only [↓reduceIte, reduceCtorEq, nA, nE, nL, and_self, and_true, true_and, SL, hb9, hb10]
    ·intro v108
     refine Mir.toK (Mir.cond rfl (fun hb13 => ?_) (fun hb13 => ?_))
     ·refine Mir.seqK (Mir.region fun e h => ?_)
      simp only [↓reduceIte, reduceCtorEq, nA, nS, nM, nE, nL, nT, nB, iT, iN, iE, and_self, SR, SV]
      refine Mir.use (e := e) ?_ h
      refine Mir.ret fun e h => ?_
      cases h
      simp only [↓reduceIte, reduceCtorEq, nA, nE, nL, and_self, and_true, true_and, SL, Tryd.results6]
     ·refine Mir.skip (Mir.toK (Mir.seqK (Mir.seqK (Mir.region fun e h => ?_))))
      simp only [↓reduceIte, reduceCtorEq, nA, nS, nM, nE, nL, nT, nB, iT, iN, iE, and_self, SR, SV]
      refine Mir.use (e := e) ?_ h
      refine Mir.cond rfl (fun hb15 => ?_) (fun hb15 => ?_)
      ·refine Mir.seqK (Mir.region fun e h => ?_)
       simp only [↓reduceIte, reduceCtorEq, nA, nS, nM, nE, nL, nT, nB, iT, iN, iE, and_self, SR, SV]
       refine Mir.use (e := e) ?_ h
       refine Mir.ret fun e h => ?_
       cases h
       simp only [↓reduceIte, reduceCtorEq, nA, nE, nL, and_self, and_true, true_and, SL, Tryd.results6]
      ·refine Mir.skip (Mir.toK (Mir.seqK (Mir.bind fun y109 hy16 => Mir.region fun e h => ?_)))
       simp only [↓reduceIte, reduceCtorEq, nA, nS, nM, nE, nL, nT, nB, iT, iN, iE, and_self, SR, SV, ag_31, sz_31]
       refine SpecS.by (bk_Format_spec hy16) (by simp only [↓reduceIte, reduceCtorEq, nA, nE, nL, and_self, and_true, true_and, SL]) ?_
       simp only [↓reduceIte, reduceCtorEq, nA, nS, nM, nE, nL, nT, nB, iT, iN, iE, and_self, SR, SV]
       refine Mir.use (e := e) ?_ h
       refine Mir.seqK (Mir.joinV [U, U, .d (.bool ((y109.2 == 0) && (y109.1 == a0))), U, U, U, U, U, U, U, U, U, U, U, U, U, U, U, U, U, U, U, U, U, U, U, U, U, U, U, U, U, U, U, U, U, U, U, U, U, U, U, U, U, U, U, U, U, U, U, U, U, U, U, U, U, U, U, U] ⟨[[.d (.bool y105.1.Skip), .d (.list (List.map encApiWord y105.1.Words)), .d (.str y105.1.Comment)], [.d (.bool y106.1.Skip), .d (.list (List.map encApiWord y106.1.Words)), .d (.str y106.1.Comment)]], []⟩ rfl ?_ ?_)
       ·refine SWs.region ?_
        rcases Bool.eq_false_or_eq_true (y109.2 == 0) with hb17 | hb17
        ·simp only [↓reduceIte, reduceCtorEq, nA, nS, nM, nE, nL, nT, nB, iT, iN, iE, and_self, SR, SV, SL, PB, hb17]
        ·simp only [↓reduceIte, reduceCtorEq, nA, nS, nM, nE, nL, nT, nB, iT, iN, iE, and_self, SR, SV, SL, PB, hb17]
       ·refine Mir.toK (Mir.ret fun e h => ?_)
        cases h
        simp only [↓reduceIte, reduceCtorEq, nA, nE, nL, and_self, and_true, true_and, SL, Tryd.results6]

theorem co_9 : Tryd.prog.cellsOf 9 = 1 := by kernel_rfl
theorem opn_9 : Opn Tryd.prog 9 eStr inStr := Opn.str Tryd.underlying9
end Go.Proofs.YtijihbegfmkceaaDoor
