/-
  Mirrors of functions, written by wip/mir.py.
-/
import Derived.Test.YtijihbegfmkceaaGreatDoorMBa
namespace Go.Proofs.YtijihbegfmkceaaGreatDoor
open Go.RowKit
open Nat renaming reduceAdd → nA, reduceSub → nS, reduceMul → nM, reduceEqDiff → nE, reduceLeDiff → nL, reduceLT → nT, reduceBEq → nB
open Int renaming reduceLT → iT, reduceToNat → iN, reduceEq → iE
set_option linter.unusedVariables false
set_option linter.unusedSimpArgs false
set_option maxRecDepth 100000

def r41_Parse (a0 : (List UInt8)) : Option (ApiBlock × Int × Int) :=
  if (decide ((a0.length : Int) > 65536)) = true then
    some (ApiBlock.mk false [] [], 0, 3)
  else
    bindO (if (a0 == []) = true then
          some false
        else
          bindO (gt a0 0) fun (c101 : UInt8) =>
          some ((c101.toNat : Int) == 47)) fun (v102 : Bool) =>
    bindO (if v102 = true then
          some (1, true)
        else
          some (0, false)) fun (v103 : Int × Bool) =>
    bindX (loopX (fun (v987 : Int × Bool × (List ApiWord)) =>
          if ((decide (v987.1 < (a0.length : Int))) || (!v987.2.1)) = true then
            bindX (if (v987.1 == (a0.length : Int)) = true then
                  some (.ret (.ret (.ret (ApiBlock.mk false [] [], v987.1, 2))))
                else
                  bindO (gt a0 v987.1) fun (c1034 : UInt8) =>
                  if ((c1034.toNat : Int) == 40) = true then
                    bindO (r41_comment a0 v987.1) fun (y1036 : (List UInt8) × Int × Int) =>
                    if (y1036.2.2 != 0) = true then
                      some (.ret (.ret (.ret (ApiBlock.mk false [] [], y1036.2.1, y1036.2.2))))
                    else
                      some (.ret (.ret (.ret (ApiBlock.mk v103.2 v987.2.2 y1036.1, 0, 0))))
                  else
                    if ((decide ((c1034.toNat : Int) < 65)) || (decide ((c1034.toNat : Int) > 90))) = true then
                      some (.ret (.ret (.ret (ApiBlock.mk false [] [], v987.1, 2))))
                    else
                      if ((v987.2.2.length : Int) == 16) = true then
                        some (.ret (.ret (.ret (ApiBlock.mk false [] [], v987.1, 3))))
                      else
                        bindO (loopX (fun (v1072 : Int) =>
                              bindO (if (decide (v1072 < (a0.length : Int))) = true then
                                    bindO (gt a0 v1072) fun (c1073 : UInt8) =>
                                    bindO (r41_number (c1073.toNat : Int)) fun (y1074 : Bool) =>
                                    some y1074
                                  else
                                    some false) fun (v1075 : Bool) =>
                              if v1075 = true then
                                some (.go (IntKind.i64.wrap (v1072 + 1)))
                              else
                                some (.ret v1072)) fuel (IntKind.i64.wrap (v987.1 + 1))) fun (v1056 : Int) =>
                        bindO (cutL a0 (IntKind.i64.wrap (v987.1 + 1)) v1056) fun (s1076 : (List UInt8)) =>
                        bindO (r41_Value s1076) fun (y1077 : Int × Int) =>
                        if (y1077.2 != 0) = true then
                          some (.ret (.ret (.ret (ApiBlock.mk false [] [], v987.1, y1077.2))))
                        else
                          guardO (okLen (v987.2.2.length + 1)) (
                          if (v1056 == (a0.length : Int)) = true then
                            some (.ret (.ret (.ret (ApiBlock.mk v103.2 (v987.2.2 ++ [ApiWord.mk (c1034.toNat : Int) y1077.1]) [], 0, 0))))
                          else
                            bindO (gt a0 v1056) fun (c1078 : UInt8) =>
                            if ((c1078.toNat : Int) != 32) = true then
                              some (.ret (.ret (.ret (ApiBlock.mk false [] [], v1056, 2))))
                            else
                              some (.go (IntKind.i64.wrap (v1056 + 1), v987.2.2 ++ [ApiWord.mk (c1034.toNat : Int) y1077.1])))) fun (v1033 : Int × (List ApiWord)) =>
            some (.go (v1033.1, false, v1033.2))
          else
            some (.ret (.go v987.2.2))) fuel (v103.1, true, [])) fun (v799 : (List ApiWord)) =>
    some (ApiBlock.mk v103.2 v799 [], 0, 0)
set_option maxHeartbeats 8000000 in
theorem r41_Parse_spec {a0 : (List UInt8)} {y : ApiBlock × Int × Int} (h : r41_Parse a0 = some y) : Spec gP 19 [.d (.str a0)] (.tuple [.agg [.d (.bool y.1.Skip), .d (.list (List.map encApiWord y.1.Words)), .d (.str y.1.Comment)], .d (.int .i64 y.2.1), .d (.int .i64 y.2.2)]) := by
  refine spec_mir Tryz.func19 rfl (by kernel_rfl) (by kernel_rfl) (fun y : ApiBlock × Int × Int => .tuple [.agg [.d (.bool y.1.Skip), .d (.list (List.map encApiWord y.1.Words)), .d (.str y.1.Comment)], .d (.int .i64 y.2.1), .d (.int .i64 y.2.2)]) ?_ h
  unfold r41_Parse
  simp only [List.replicate, List.length, nS, nA, Tryz.ntmps19, SV]
  refine Mir.seqK (Mir.region fun e h => ?_)
  simp only [↓reduceIte, reduceCtorEq, nA, nS, nM, nE, nL, nT, nB, iT, iN, iE, and_self, SR, SV, zero_36, ENMB]
  refine Mir.use (e := e) ?_ h
  refine Mir.seqK (Mir.seqK (Mir.region fun e h => ?_))
  simp only [↓reduceIte, reduceCtorEq, nA, nS, nM, nE, nL, nT, nB, iT, iN, iE, and_self, SR, SV, und_9, ENMB]
  refine Mir.use (e := e) ?_ h
  refine Mir.cond rfl (fun hb2 => ?_) (fun hb2 => ?_)
  ·refine Mir.seqK (Mir.region fun e h => ?_)
   simp only [↓reduceIte, reduceCtorEq, nA, nS, nM, nE, nL, nT, nB, iT, iN, iE, and_self, SR, SV, zero_36, pl_36, sz_36]
   refine Mir.use (e := e) ?_ h
   refine Mir.ret fun e h => ?_
   cases h
   simp only [↓reduceIte, reduceCtorEq, nA, nE, nL, and_self, and_true, true_and, SL, Tryz.results19, ag_36, sz_36]
  ·refine Mir.skip (Mir.toK (Mir.seqK (Mir.region fun e h => ?_)))
   simp only [↓reduceIte, reduceCtorEq, nA, nS, nM, nE, nL, nT, nB, iT, iN, iE, and_self, SR, SV, zero_36, ENMB]
   refine Mir.use (e := e) ?_ h
   refine Mir.seqK (Mir.region fun e h => ?_)
   simp only [↓reduceIte, reduceCtorEq, nA, nS, nM, nE, nL, nT, nB, iT, iN, iE, and_self, SR, SV, ENMB]
   refine Mir.use (e := e) ?_ h
   refine Mir.seqK (Mir.seqK (Mir.joinO (fun v102 : Bool => [.d (.str a0), U, .ptr 0 0, U, U, .ptr 1 0, .d (.int .i64 0), U, U, U, U, U, U, U, U, U, U, U, U, U, U, U, U, U, .d (.bool v102), U, U, U, U, U, U, U, U, U, U, U, U, U, U, U, U, U, U, U, U, U, U, U, U, U, U, U, U, U, U, U, U, U, U, U, U, U, U, U, U, U, U, U, U, U, U, U, U, U, U, U, U, U, U, U, U, U, U, U, U, U, U, U, U, U, U, U, U, U, U, U, U, U, U, U, U, U, U, U, U, U, U, U, U, U, U, U, U, U, U, U, U, U, U, U, U, U, U, U, U, U, U, U, U]) (fun v102 : Bool => ⟨[[.d (.bool false), .nil, .d (.str [])], [.d (.bool false), .nil, .d (.str [])]], []⟩) (fun _ => rfl) ?_ ?_))
   ·refine Mir.ite (fun hb3 => ?_) (fun hb3 => ?_)
    ·refine Mir.region fun e h => ?_
     simp only [↓reduceIte, reduceCtorEq, nA, nS, nM, nE, nL, nT, nB, iT, iN, iE, and_self, SR, SV, hb3]
     cases h
     simp only [↓reduceIte, reduceCtorEq, nA, nE, nL, and_self, and_true, true_and, SL, hb3]
    ·refine Mir.bind fun c101 q4 => ?_
     replace q4 := gt_ok q4
     simp only [Int.reduceToNat, Int.reduceLT, Nat.sub_zero, dp0] at q4
     refine Mir.region fun e h => ?_
     simp only [↓reduceIte, reduceCtorEq, nA, nS, nM, nE, nL, nT, nB, iT, iN, iE, and_self, SR, SV, und_9, q4, hb3]
     cases h
     simp only [↓reduceIte, reduceCtorEq, nA, nE, nL, and_self, and_true, true_and, SL, hb3]
   ·intro v102
    refine Mir.toK (Mir.joinO (fun v103 : Int × Bool => [.d (.str a0), U, .ptr 0 0, U, U, .ptr 1 0, .d (.int .i64 v103.1), U, U, U, U, U, U, U, U, U, U, U, U, U, U, U, U, U, U, U, U, U, U, U, U, U, U, U, U, U, U, U, U, U, U, U, U, U, U, U, U, U, U, U, U, U, U, U, U, U, U, U, U, U, U, U, U, U, U, U, U, U, U, U, U, U, U, U, U, U, U, U, U, U, U, U, U, U, U, U, U, U, U, U, U, U, U, U, U, U, U, U, U, U, U, U, U, U, U, U, U, U, U, U, U, U, U, U, U, U, U, U, U, U, U, U, U, U, U, U, U, U, U]) (fun v103 : Int × Bool => ⟨[[.d (.bool false), .nil, .d (.str [])], [.d (.bool v103.2), .nil, .d (.str [])]], []⟩) (fun _ => rfl) ?_ ?_)
    ·refine Mir.cond rfl (fun hb6 => ?_) (fun hb6 => ?_)
     ·refine Mir.region fun e h => ?_
      simp only [↓reduceIte, reduceCtorEq, nA, nS, nM, nE, nL, nT, nB, iT, iN, iE, and_self, SR, SV, fld_36_0, sz_4]
      cases h
      simp only [↓reduceIte, reduceCtorEq, nA, nE, nL, and_self, and_true, true_and, SL, Tryz.results19, ag_36, sz_36]
     ·refine Mir.skip fun e h => ?_
      cases h
      simp only [↓reduceIte, reduceCtorEq, nA, nE, nL, and_self, and_true, true_and, SL, Tryz.results19, ag_36, sz_36]
    ·intro v103
     refine Mir.toK (Mir.seqK (Mir.seqK (Mir.region fun e h => ?_)))
     simp only [↓reduceIte, reduceCtorEq, nA, nS, nM, nE, nL, nT, nB, iT, iN, iE, and_self, SR, SV, ENMB]
     refine Mir.use (e := e) ?_ h
     refine Mir.gh [.cell 1 1 58] rfl (Mir.join (fun v799 : (List ApiWord) => [U, U, .ptr 0 0, U, U, .ptr 1 0, U, U, U, U, U, U, U, U, U, U, U, U, U, U, U, U, U, U, U, U, U, U, U, U, U, U, U, U, U, U, U, U, U, U, U, U, U, U, U, U, U, U, U, U, U, U, U, U, U, U, U, U, U, U, U, U, U, U, U, U, U, U, U, U, U, U, U, U, U, U, U, U, U, U, U, U, U, U, U, U, U, U, U, U, U, U, U, U, U, U, U, U, U, U, U, U, U, U, U, U, U, U, U, U, U, U, U, U, U, U, U, U, U, U, U, U, U, U, U, U, U, U, U]) (fun v799 : (List ApiWord) => ⟨[[.d (.bool false), .nil, .d (.str [])], [.d (.bool v103.2), .own 0 (List.map encApiWord v799), .d (.str [])]], [(58, v799.length)]⟩) (fun _ => rfl) ?_ ?_)
     ·refine Mir.block (Mir.loop (fun v987 : Int × Bool × (List ApiWord) => [.d (.str a0), U, .ptr 0 0, U, U, .ptr 1 0, .d (.int .i64 v987.1), .d (.bool v987.2.1), U, U, U, U, U, U, U, U, U, U, U, U, U, U, U, U, U, U, U, U, U, U, U, U, U, U, U, U, U, U, U, U, U, U, U, U, U, U, U, U, U, U, U, U, U, U, U, U, U, U, U, U, U, U, U, U, U, U, U, U, U, U, U, U, U, U, U, U, U, U, U, U, U, U, U, U, U, U, U, U, U, U, U, U, U, U, U, U, U, U, U, U, U, U, U, U, U, U, U, U, U, U, U, U, U, U, U, U, U, U, U, U, U, U, U, U, U, U, U, U, U]) (fun v987 : Int × Bool × (List ApiWord) => ⟨[[.d (.bool false), .nil, .d (.str [])], [.d (.bool v103.2), .own 0 (List.map encApiWord v987.2.2), .d (.str [])]], [(58, v987.2.2.length)]⟩) (fun _ => rfl) (by simp only [↓reduceIte, reduceCtorEq, nA, nE, nL, and_self, and_true, true_and, SL, ENMB]) (by simp only [↓reduceIte, reduceCtorEq, nA, nE, nL, and_self, and_true, true_and, SL, ENMB]) fun v987 => Mir.seqK (Mir.seqK (Mir.joinV [.d (.str a0), U, .ptr 0 0, U, U, .ptr 1 0, .d (.int .i64 v987.1), U, U, U, U, U, U, U, U, U, U, U, U, U, U, U, U, U, U, U, U, U, U, U, U, U, U, .d (.bool ((decide (v987.1 < (a0.length : Int))) || (!v987.2.1))), U, U, U, U, U, U, U, U, U, U, U, U, U, U, U, U, U, U, U, U, U, U, U, U, U, U, U, U, U, U, U, U, U, U, U, U, U, U, U, U, U, U, U, U, U, U, U, U, U, U, U, U, U, U, U, U, U, U, U, U, U, U, U, U, U, U, U, U, U, U, U, U, U, U, U, U, U, U, U, U, U, U, U, U, U, U, U, U, U, U, U, U, U, U, U] ⟨[[.d (.bool false), .nil, .d (.str [])], [.d (.bool v103.2), .own 0 (List.map encApiWord v987.2.2), .d (.str [])]], [(58, v987.2.2.length)]⟩ rfl ?_ ?_)))
      ·refine SWs.region ?_
       rcases Bool.eq_false_or_eq_true (decide (v987.1 < (a0.length : Int))) with hb1305 | hb1305
       ·simp only [↓reduceIte, reduceCtorEq, nA, nS, nM, nE, nL, nT, nB, iT, iN, iE, and_self, SR, SV, SL, PB, und_9, hb1305, ENMB]
       ·simp only [↓reduceIte, reduceCtorEq, nA, nS, nM, nE, nL, nT, nB, iT, iN, iE, and_self, SR, SV, SL, PB, und_9, hb1305, ENMB]
      ·refine Mir.toK (Mir.cond rfl (fun hb1307 => ?_) (fun hb1307 => ?_))
       ·refine Mir.skip (Mir.toK (Mir.seqK (Mir.join (fun v1033 : Int × (List ApiWord) => [.d (.str a0), U, .ptr 0 0, U, U, .ptr 1 0, .d (.int .i64 v1033.1), U, U, U, U, U, U, U, U, U, U, U, U, U, U, U, U, U, U, U, U, U, U, U, U, U, U, U, U, U, U, U, U, U, U, U, U, U, U, U, U, U, U, U, U, U, U, U, U, U, U, U, U, U, U, U, U, U, U, U, U, U, U, U, U, U, U, U, U, U, U, U, U, U, U, U, U, U, U, U, U, U, U, U, U, U, U, U, U, U, U, U, U, U, U, U, U, U, U, U, U, U, U, U, U, U, U, U, U, U, U, U, U, U, U, U, U, U, U, U, U, U, U]) (fun v1033 : Int × (List ApiWord) => ⟨[[.d (.bool false), .nil, .d (.str [])], [.d (.bool v103.2), .own 0 (List.map encApiWord v1033.2), .d (.str [])]], [(58, v1033.2.length)]⟩) (fun _ => rfl) ?_ ?_)))
        ·refine Mir.block (Mir.seqK (Mir.seqK (Mir.region fun e h => ?_)))
         simp only [↓reduceIte, reduceCtorEq, nA, nS, nM, nE, nL, nT, nB, iT, iN, iE, and_self, SR, SV, und_9, ENMB]
         refine Mir.use (e := e) ?_ h
         refine Mir.cond rfl (fun hb1377 => ?_) (fun hb1377 => ?_)
         ·refine Mir.seqK (Mir.region fun e h => ?_)
          simp only [↓reduceIte, reduceCtorEq, nA, nS, nM, nE, nL, nT, nB, iT, iN, iE, and_self, SR, SV, zero_36, pl_36, sz_36, ENMB]
          refine Mir.use (e := e) ?_ h
          refine Mir.ret fun e h => ?_
          cases h
          simp only [↓reduceIte, reduceCtorEq, nA, nE, nL, and_self, and_true, true_and, SL, ENMB, Tryz.results19, ag_36, sz_36]
         ·refine Mir.skip (Mir.toK (Mir.seqK (Mir.seqK (Mir.bind fun c1034 q1378 => ?_))))
          replace q1378 := gt_ok q1378
          refine Mir.region fun e h => ?_
          simp only [↓reduceIte, reduceCtorEq, nA, nS, nM, nE, nL, nT, nB, iT, iN, iE, and_self, SR, SV, und_9, q1378, ENMB]
          refine Mir.use (e := e) ?_ h
          refine Mir.cond rfl (fun hb1383 => ?_) (fun hb1383 => ?_)
          ·refine Mir.seqK (Mir.bind fun y1036 hy1384 => Mir.region fun e h => ?_)
           simp only [↓reduceIte, reduceCtorEq, nA, nS, nM, nE, nL, nT, nB, iT, iN, iE, and_self, SR, SV, ENMB]
           refine SpecS.by (r41_comment_spec hy1384) (by simp only [↓reduceIte, reduceCtorEq, nA, nE, nL, and_self, and_true, true_and, SL, ENMB]) ?_
           simp only [↓reduceIte, reduceCtorEq, nA, nS, nM, nE, nL, nT, nB, iT, iN, iE, and_self, SR, SV, ENMB]
           refine Mir.use (e := e) ?_ h
           refine Mir.seqK (Mir.seqK (Mir.region fun e h => ?_))
           simp only [↓reduceIte, reduceCtorEq, nA, nS, nM, nE, nL, nT, nB, iT, iN, iE, and_self, SR, SV, ENMB]
           refine Mir.use (e := e) ?_ h
           refine Mir.cond rfl (fun hb1386 => ?_) (fun hb1386 => ?_)
           ·refine Mir.seqK (Mir.region fun e h => ?_)
            simp only [↓reduceIte, reduceCtorEq, nA, nS, nM, nE, nL, nT, nB, iT, iN, iE, and_self, SR, SV, zero_36, pl_36, sz_36, ENMB]
            refine Mir.use (e := e) ?_ h
            refine Mir.ret fun e h => ?_
            cases h
            simp only [↓reduceIte, reduceCtorEq, nA, nE, nL, and_self, and_true, true_and, SL, ENMB, Tryz.results19, ag_36, sz_36]
           ·refine Mir.skip (Mir.toK (Mir.seqK (Mir.region fun e h => ?_)))
            simp only [↓reduceIte, reduceCtorEq, nA, nS, nM, nE, nL, nT, nB, iT, iN, iE, and_self, SR, SV, fld_36_2, sz_9, ENMB]
            refine Mir.use (e := e) ?_ h
            refine Mir.seqK (Mir.region fun e h => ?_)
            simp only [↓reduceIte, reduceCtorEq, nA, nS, nM, nE, nL, nT, nB, iT, iN, iE, and_self, SR, SV, ag_36, sz_36, ENMB]
            refine Mir.use (e := e) ?_ h
            refine Mir.ret fun e h => ?_
            cases h
            simp only [↓reduceIte, reduceCtorEq, nA, nE, nL, and_self, and_true, true_and, SL, ENMB, Tryz.results19, ag_36, sz_36]
          ·refine Mir.skip (Mir.toK (Mir.seqK (Mir.seqK (Mir.joinV [.d (.str a0), U, .ptr 0 0, U, U, .ptr 1 0, .d (.int .i64 v987.1), U, U, U, U, U, U, U, U, U, U, U, U, U, U, U, U, U, U, U, U, U, U, U, U, U, U, U, U, U, U, U, U, U, U, U, U, U, U, U, U, U, U, U, U, U, U, U, U, U, U, U, U, U, U, U, U, U, U, U, U, U, .d (.bool ((decide ((c1034.toNat : Int) < 65)) || (decide ((c1034.toNat : Int) > 90)))), U, U, U, U, U, U, U, U, U, U, U, U, U, U, U, U, U, U, U, U, U, U, U, U, U, U, U, U, U, U, U, U, U, U, U, U, U, U, U, U, U, U, U, U, U, U, U, U, U, U, U, U, U, U, U, U, U, U, U, U] ⟨[[.d (.bool false), .nil, .d (.str [])], [.d (.bool v103.2), .own 0 (List.map encApiWord v987.2.2), .d (.str [])]], [(58, v987.2.2.length)]⟩ rfl ?_ ?_))))
           ·refine SWs.region ?_
            rcases Bool.eq_false_or_eq_true (decide ((c1034.toNat : Int) < 65)) with hb1387 | hb1387
            ·simp only [↓reduceIte, reduceCtorEq, nA, nS, nM, nE, nL, nT, nB, iT, iN, iE, and_self, SR, SV, SL, PB, und_9, q1378, hb1387, ENMB]
            ·simp only [↓reduceIte, reduceCtorEq, nA, nS, nM, nE, nL, nT, nB, iT, iN, iE, and_self, SR, SV, SL, PB, und_9, q1378, hb1387, ENMB]
           ·refine Mir.toK (Mir.cond rfl (fun hb1389 => ?_) (fun hb1389 => ?_))
            ·refine Mir.seqK (Mir.region fun e h => ?_)
             simp only [↓reduceIte, reduceCtorEq, nA, nS, nM, nE, nL, nT, nB, iT, iN, iE, and_self, SR, SV, zero_36, pl_36, sz_36, ENMB]
             refine Mir.use (e := e) ?_ h
             refine Mir.ret fun e h => ?_
             cases h
             simp only [↓reduceIte, reduceCtorEq, nA, nE, nL, and_self, and_true, true_and, SL, ENMB, Tryz.results19, ag_36, sz_36]
            ·refine Mir.skip (Mir.toK (Mir.seqK (Mir.seqK (Mir.region fun e h => ?_))))
             simp only [↓reduceIte, reduceCtorEq, nA, nS, nM, nE, nL, nT, nB, iT, iN, iE, and_self, SR, SV, fld_36_1, sz_34, ag_34, und_34, ENMB]
             refine Mir.use (e := e) ?_ h
             refine Mir.cond rfl (fun hb1391 => ?_) (fun hb1391 => ?_)
             ·refine Mir.seqK (Mir.region fun e h => ?_)
              simp only [↓reduceIte, reduceCtorEq, nA, nS, nM, nE, nL, nT, nB, iT, iN, iE, and_self, SR, SV, zero_36, pl_36, sz_36, ENMB]
              refine Mir.use (e := e) ?_ h
              refine Mir.ret fun e h => ?_
              cases h
              simp only [↓reduceIte, reduceCtorEq, nA, nE, nL, and_self, and_true, true_and, SL, ENMB, Tryz.results19, ag_36, sz_36]
             ·refine Mir.skip (Mir.toK (Mir.seqK (Mir.region fun e h => ?_)))
              simp only [↓reduceIte, reduceCtorEq, nA, nS, nM, nE, nL, nT, nB, iT, iN, iE, and_self, SR, SV, ENMB]
              refine Mir.use (e := e) ?_ h
              refine Mir.seqK (Mir.joinO (fun v1056 : Int => [.d (.str a0), U, .ptr 0 0, U, U, .ptr 1 0, .d (.int .i64 v987.1), U, U, U, U, .d (.int .i64 v1056), U, U, U, U, U, U, U, U, U, U, U, U, U, U, U, U, U, U, U, U, U, U, U, U, U, U, U, U, U, U, U, U, U, U, U, U, U, U, U, U, U, U, U, U, U, U, U, U, U, U, U, U, U, U, U, U, U, U, U, U, U, U, U, U, U, U, U, U, U, U, U, U, U, U, U, U, U, U, U, U, U, U, U, U, U, U, U, U, U, U, U, U, U, U, U, U, U, U, U, U, U, U, U, U, U, U, U, U, U, U, U, U, U, U, U, U, U]) (fun v1056 : Int => ⟨[[.d (.bool false), .nil, .d (.str [])], [.d (.bool v103.2), .own 0 (List.map encApiWord v987.2.2), .d (.str [])]], [(58, v987.2.2.length)]⟩) (fun _ => rfl) ?_ ?_)
              ·refine Mir.block (Mir.loop (fun v1072 : Int => [.d (.str a0), U, .ptr 0 0, U, U, .ptr 1 0, .d (.int .i64 v987.1), U, U, U, U, .d (.int .i64 v1072), U, U, U, U, U, U, U, U, U, U, U, U, U, U, U, U, U, U, U, U, U, U, U, U, U, U, U, U, U, U, U, U, U, U, U, U, U, U, U, U, U, U, U, U, U, U, U, U, U, U, U, U, U, U, U, U, U, U, U, U, U, U, U, U, U, U, U, U, U, U, U, U, U, U, U, U, U, U, U, U, U, U, U, U, U, U, U, U, U, U, U, U, U, U, U, U, U, U, U, U, U, U, U, U, U, U, U, U, U, U, U, U, U, U, U, U, U]) (fun v1072 : Int => ⟨[[.d (.bool false), .nil, .d (.str [])], [.d (.bool v103.2), .own 0 (List.map encApiWord v987.2.2), .d (.str [])]], [(58, v987.2.2.length)]⟩) (fun _ => rfl) (by simp only [↓reduceIte, reduceCtorEq, nA, nE, nL, and_self, and_true, true_and, SL, ENMB]) (by simp only [↓reduceIte, reduceCtorEq, nA, nE, nL, and_self, and_true, true_and, SL, ENMB]) fun v1072 => Mir.seqK (Mir.seqK (Mir.joinO (fun v1075 : Bool => [.d (.str a0), U, .ptr 0 0, U, U, .ptr 1 0, .d (.int .i64 v987.1), U, U, U, U, .d (.int .i64 v1072), U, U, U, U, U, U, U, U, U, U, U, U, U, U, U, U, U, U, U, U, U, U, U, U, U, U, U, U, U, U, U, U, U, U, U, U, U, U, U, U, U, U, U, U, U, U, U, U, U, U, U, U, U, U, U, U, U, U, U, U, U, U, U, U, U, U, U, U, U, U, U, U, U, U, U, U, .d (.bool v1075), U, U, U, U, U, U, U, U, U, U, U, U, U, U, U, U, U, U, U, U, U, U, U, U, U, U, U, U, U, U, U, U, U, U, U, U, U, U, U, U]) (fun v1075 : Bool => ⟨[[.d (.bool false), .nil, .d (.str [])], [.d (.bool v103.2), .own 0 (List.map encApiWord v987.2.2), .d (.str [])]], [(58, v987.2.2.length)]⟩) (fun _ => rfl) ?_ ?_)))
               ·refine Mir.ite (fun hb1429 => ?_) (fun hb1429 => ?_)
                ·refine Mir.bind fun c1073 q1430 => ?_
                 replace q1430 := gt_ok q1430
                 refine Mir.bind fun y1074 hy1431 => Mir.region fun e h => ?_
                 simp only [↓reduceIte, reduceCtorEq, nA, nS, nM, nE, nL, nT, nB, iT, iN, iE, and_self, SR, SV, und_9, q1430, ENMB, hb1429]
                 refine SpecS.by (r41_number_spec hy1431) (by simp only [↓reduceIte, reduceCtorEq, nA, nE, nL, and_self, and_true, true_and, SL, ENMB, hb1429]) ?_
                 simp only [↓reduceIte, reduceCtorEq, nA, nS, nM, nE, nL, nT, nB, iT, iN, iE, and_self, SR, SV, ENMB, hb1429]
                 cases h
                 simp only [↓reduceIte, reduceCtorEq, nA, nE, nL, and_self, and_true, true_and, SL, ENMB, hb1429]
                ·refine Mir.region fun e h => ?_
                 simp only [↓reduceIte, reduceCtorEq, nA, nS, nM, nE, nL, nT, nB, iT, iN, iE, and_self, SR, SV, und_9, ENMB, hb1429]
                 cases h
                 simp only [↓reduceIte, reduceCtorEq, nA, nE, nL, and_self, and_true, true_and, SL, ENMB, hb1429]
               ·intro v1075
                refine Mir.toK (Mir.cond rfl (fun hb1433 => ?_) (fun hb1433 => ?_))
                ·refine Mir.skip (Mir.toK (Mir.block (Mir.region fun e h => ?_)))
                 simp only [↓reduceIte, reduceCtorEq, nA, nS, nM, nE, nL, nT, nB, iT, iN, iE, and_self, SR, SV, ENMB]
                 cases h
                 simp only [↓reduceIte, reduceCtorEq, nA, nE, nL, and_self, and_true, true_and, SL, ENMB, Tryz.results19, ag_36, sz_36]
                ·refine Mir.exit fun e h => ?_
                 cases h
                 simp only [↓reduceIte, reduceCtorEq, nA, nE, nL, and_self, and_true, true_and, SL, ENMB, Tryz.results19, ag_36, sz_36]
              ·intro v1056
               refine Mir.toK (Mir.seqK (Mir.bind fun s1076 q1434 => ?_))
               replace q1434 := cutL_ok q1434
               refine Mir.bind fun y1077 hy1435 => Mir.region fun e h => ?_
               simp only [↓reduceIte, reduceCtorEq, nA, nS, nM, nE, nL, nT, nB, iT, iN, iE, and_self, SR, SV, und_9, q1434, Nat.le_refl, and_true, true_and, dm, tm, ENMB]
               refine SpecS.by (r41_Value_spec hy1435) (by simp only [↓reduceIte, reduceCtorEq, nA, nE, nL, and_self, and_true, true_and, SL, ENMB]) ?_
               simp only [↓reduceIte, reduceCtorEq, nA, nS, nM, nE, nL, nT, nB, iT, iN, iE, and_self, SR, SV, ENMB]
               refine Mir.use (e := e) ?_ h
               refine Mir.seqK (Mir.seqK (Mir.region fun e h => ?_))
               simp only [↓reduceIte, reduceCtorEq, nA, nS, nM, nE, nL, nT, nB, iT, iN, iE, and_self, SR, SV, ENMB]
               refine Mir.use (e := e) ?_ h
               refine Mir.cond rfl (fun hb1437 => ?_) (fun hb1437 => ?_)
               ·refine Mir.seqK (Mir.region fun e h => ?_)
                simp only [↓reduceIte, reduceCtorEq, nA, nS, nM, nE, nL, nT, nB, iT, iN, iE, and_self, SR, SV, zero_36, pl_36, sz_36, ENMB]
                refine Mir.use (e := e) ?_ h
                refine Mir.ret fun e h => ?_
                cases h
                simp only [↓reduceIte, reduceCtorEq, nA, nE, nL, and_self, and_true, true_and, SL, ENMB, Tryz.results19, ag_36, sz_36]
               ·refine Mir.skip (Mir.toK (Mir.seqK (Mir.guard fun q1438 => Mir.regionD [] (by kernel_rfl) fun e h => ?_)))
                simp only [↓reduceIte, reduceCtorEq, nA, nS, nM, nE, nL, nT, nB, iT, iN, iE, and_self, SR, SV, sepL_nil, sepL_cons, sepV_ne, sepV_d, sepV_i, true_and, Bool.and_self, fld_36_1, sz_34, ag_34, und_9, q1378, zero_58, pl_58, und_34, sz_58, (nr rfl : okLen 2 = true), app_34, al_ApiWord, q1438, ENMB]
                refine Mir.use (e := e) ?_ h
                refine Mir.seqK (Mir.seqK (Mir.region fun e h => ?_))
                simp only [↓reduceIte, reduceCtorEq, nA, nS, nM, nE, nL, nT, nB, iT, iN, iE, and_self, SR, SV, und_9, ENMB]
                refine Mir.use (e := e) ?_ h
                refine Mir.cond rfl (fun hb1440 => ?_) (fun hb1440 => ?_)
                ·refine Mir.seqK (Mir.region fun e h => ?_)
                 simp only [↓reduceIte, reduceCtorEq, nA, nS, nM, nE, nL, nT, nB, iT, iN, iE, and_self, SR, SV, ag_36, sz_36, ENMB]
                 refine Mir.use (e := e) ?_ h
                 refine Mir.ret fun e h => ?_
                 cases h
                 simp only [↓reduceIte, reduceCtorEq, nA, nE, nL, and_self, and_true, true_and, SL, ENMB, Tryz.results19, ag_36, sz_36]
                ·refine Mir.skip (Mir.toK (Mir.seqK (Mir.seqK (Mir.bind fun c1078 q1441 => ?_))))
                 replace q1441 := gt_ok q1441
                 refine Mir.region fun e h => ?_
                 simp only [↓reduceIte, reduceCtorEq, nA, nS, nM, nE, nL, nT, nB, iT, iN, iE, and_self, SR, SV, und_9, q1441, ENMB]
                 refine Mir.use (e := e) ?_ h
                 refine Mir.cond rfl (fun hb1443 => ?_) (fun hb1443 => ?_)
                 ·refine Mir.seqK (Mir.region fun e h => ?_)
                  simp only [↓reduceIte, reduceCtorEq, nA, nS, nM, nE, nL, nT, nB, iT, iN, iE, and_self, SR, SV, zero_36, pl_36, sz_36, ENMB]
                  refine Mir.use (e := e) ?_ h
                  refine Mir.ret fun e h => ?_
                  cases h
                  simp only [↓reduceIte, reduceCtorEq, nA, nE, nL, and_self, and_true, true_and, SL, ENMB, Tryz.results19, ag_36, sz_36]
                 ·refine Mir.skip (Mir.toK (Mir.region fun e h => ?_))
                  simp only [↓reduceIte, reduceCtorEq, nA, nS, nM, nE, nL, nT, nB, iT, iN, iE, and_self, SR, SV, ENMB]
                  cases h
                  simp only [↓reduceIte, reduceCtorEq, nA, nE, nL, and_self, and_true, true_and, SL, ENMB, Tryz.results19, ag_36, sz_36]
        ·intro v1033
         refine Mir.toK (Mir.region fun e h => ?_)
         simp only [↓reduceIte, reduceCtorEq, nA, nS, nM, nE, nL, nT, nB, iT, iN, iE, and_self, SR, SV, ENMB]
         cases h
         simp only [↓reduceIte, reduceCtorEq, nA, nE, nL, and_self, and_true, true_and, SL, ENMB, Tryz.results19, ag_36, sz_36]
       ·refine Mir.exit fun e h => ?_
        cases h
        simp only [↓reduceIte, reduceCtorEq, nA, nE, nL, and_self, and_true, true_and, SL, ENMB, Tryz.results19, ag_36, sz_36]
     ·intro v799
      refine Mir.toK (Mir.seqK (Mir.region fun e h => ?_))
      simp only [↓reduceIte, reduceCtorEq, nA, nS, nM, nE, nL, nT, nB, iT, iN, iE, and_self, SR, SV, ag_36, sz_36, ENMB]
      refine Mir.use (e := e) ?_ h
      refine Mir.ret fun e h => ?_
      cases h
      simp only [↓reduceIte, reduceCtorEq, nA, nE, nL, and_self, and_true, true_and, SL, ENMB, Tryz.results19, ag_36, sz_36]

def stringslite_HasSuffix (a0 : (List UInt8)) (a1 : (List UInt8)) : Option Bool :=
  bindO (if (decide ((a0.length : Int) ≥ (a1.length : Int))) = true then
        bindO (cutF a0 (IntKind.i64.wrap ((a0.length : Int) - (a1.length : Int)))) fun (s101 : (List UInt8)) =>
        some (s101 == a1)
      else
        some false) fun (v102 : Bool) =>
  some v102
theorem stringslite_HasSuffix_spec {a0 : (List UInt8)} {a1 : (List UInt8)} {y : Bool} (h : stringslite_HasSuffix a0 a1 = some y) : Spec gP 31 [.d (.str a0), .d (.str a1)] (.d (.bool y)) := by
  refine spec_mir Tryz.func31 rfl (by kernel_rfl) (by kernel_rfl) (fun y : Bool => .d (.bool y)) ?_ h
  unfold stringslite_HasSuffix
  simp only [List.replicate, List.length, nS, nA, Tryz.ntmps31, SV]
  refine Mir.seqK (Mir.region fun e h => ?_)
  simp only [↓reduceIte, reduceCtorEq, nA, nS, nM, nE, nL, nT, nB, iT, iN, iE, and_self, SR, SV]
  refine Mir.use (e := e) ?_ h
  refine Mir.seqK (Mir.joinO (fun v102 : Bool => [U, U, U, U, .d (.bool v102), U, U, U, U, U, U, U, U, U, U, U, U, U, U, U, U]) (fun v102 : Bool => ⟨[], []⟩) (fun _ => rfl) ?_ ?_)
  ·refine Mir.ite (fun hb1 => ?_) (fun hb1 => ?_)
   ·refine Mir.bind fun s101 q2 => ?_
    replace q2 := cutF_ok q2
    refine Mir.region fun e h => ?_
    simp only [↓reduceIte, reduceCtorEq, nA, nS, nM, nE, nL, nT, nB, iT, iN, iE, and_self, SR, SV, und_9, q2, Nat.le_refl, and_true, true_and, dm, tm, hb1]
    cases h
    simp only [↓reduceIte, reduceCtorEq, nA, nE, nL, and_self, and_true, true_and, SL, hb1]
   ·refine Mir.region fun e h => ?_
    simp only [↓reduceIte, reduceCtorEq, nA, nS, nM, nE, nL, nT, nB, iT, iN, iE, and_self, SR, SV, und_9, hb1]
    cases h
    simp only [↓reduceIte, reduceCtorEq, nA, nE, nL, and_self, and_true, true_and, SL, hb1]
  ·intro v102
   refine Mir.toK (Mir.ret fun e h => ?_)
   cases h
   simp only [↓reduceIte, reduceCtorEq, nA, nE, nL, and_self, and_true, true_and, SL, Tryz.results31]

def strings_HasSuffix (a0 : (List UInt8)) (a1 : (List UInt8)) : Option Bool :=
  bindO (stringslite_HasSuffix a0 a1) fun (y101 : Bool) =>
  some y101
theorem strings_HasSuffix_spec {a0 : (List UInt8)} {a1 : (List UInt8)} {y : Bool} (h : strings_HasSuffix a0 a1 = some y) : Spec gP 17 [.d (.str a0), .d (.str a1)] (.d (.bool y)) := by
  refine spec_mir Tryz.func17 rfl (by kernel_rfl) (by kernel_rfl) (fun y : Bool => .d (.bool y)) ?_ h
  unfold strings_HasSuffix
  simp only [List.replicate, List.length, nS, nA, Tryz.ntmps17, SV]
  refine Mir.seqK (Mir.region fun e h => ?_)
  simp only [↓reduceIte, reduceCtorEq, nA, nS, nM, nE, nL, nT, nB, iT, iN, iE, and_self, SR, SV]
  refine Mir.use (e := e) ?_ h
  refine Mir.seqK (Mir.bind fun y101 hy1 => Mir.region fun e h => ?_)
  simp only [↓reduceIte, reduceCtorEq, nA, nS, nM, nE, nL, nT, nB, iT, iN, iE, and_self, SR, SV]
  refine SpecS.by (stringslite_HasSuffix_spec hy1) (by simp only [↓reduceIte, reduceCtorEq, nA, nE, nL, and_self, and_true, true_and, SL]) ?_
  simp only [↓reduceIte, reduceCtorEq, nA, nS, nM, nE, nL, nT, nB, iT, iN, iE, and_self, SR, SV]
  refine Mir.use (e := e) ?_ h
  refine Mir.ret fun e h => ?_
  cases h
  simp only [↓reduceIte, reduceCtorEq, nA, nE, nL, and_self, and_true, true_and, SL, Tryz.results17]

def bk_Program (a0 : (List UInt8)) : Option ((List ApiBlock) × Int × Int) :=
  bindO (if (decide ((a0.length : Int) > 65536)) = true then
        some true
      else
        bindO (strings_Count a0 [10]) fun (y101 : Int) =>
        if (decide (y101 > 20000)) = true then
          some true
        else
          bindO (strings_Count a0 [10]) fun (y102 : Int) =>
          if (y102 == 20000) = true then
            bindO (strings_HasSuffix a0 [10]) fun (y103 : Bool) =>
            some (!y103)
          else
            some false) fun (v104 : Bool) =>
  if v104 = true then
    some ([], 0, 3)
  else
    bindX (loopX (fun (v178 : (List UInt8) × (List ApiBlock) × Int) =>
          if (!(v178.1 == [])) = true then
            bindO (strings_Cut v178.1 [10]) fun (y182 : (List UInt8) × (List UInt8) × Bool) =>
            bindO (bk_Parse y182.1) fun (y183 : ApiBlock × Int × Int) =>
            bindO (if (!y182.2.2) = true then
                  some 2
                else
                  some y183.2.2) fun (v184 : Int) =>
            if (v184 != 0) = true then
              some (.ret (.ret ([], v178.2.2, v184)))
            else
              guardO (okLen (v178.2.1.length + 1)) (
              some (.go (y182.2.1, v178.2.1 ++ [y183.1], IntKind.i64.wrap (v178.2.2 + 1))))
          else
            some (.ret (.go v178.2.1))) fuel (a0, [], 1)) fun (v160 : (List ApiBlock)) =>
    some (v160, 0, 0)
theorem bk_Program_spec {a0 : (List UInt8)} {y : (List ApiBlock) × Int × Int} (h : bk_Program a0 = some y) : Spec gP 6 [.d (.str a0)] (.tuple [.d (.list (List.map encApiBlock y.1)), .d (.int .i64 y.2.1), .d (.int .i64 y.2.2)]) := by
  refine spec_mir Tryz.func6 rfl (by kernel_rfl) (by kernel_rfl) (fun y : (List ApiBlock) × Int × Int => .tuple [.d (.list (List.map encApiBlock y.1)), .d (.int .i64 y.2.1), .d (.int .i64 y.2.2)]) ?_ h
  unfold bk_Program
  simp only [List.replicate, List.length, nS, nA, Tryz.ntmps6, SV]
  refine Mir.seqK (Mir.region fun e h => ?_)
  simp only [↓reduceIte, reduceCtorEq, nA, nS, nM, nE, nL, nT, nB, iT, iN, iE, and_self, SR, SV, ENMB]
  refine Mir.use (e := e) ?_ h
  refine Mir.seqK (Mir.seqK (Mir.joinO (fun v104 : Bool => [.d (.str a0), U, U, U, U, U, U, U, U, U, U, U, U, U, U, U, U, U, U, U, U, U, U, U, U, U, U, U, U, U, .d (.bool v104), U, U, U, U, U, U, U, U, U, U, U, U, U, U, U, U, U, U, U, U, U, U, U, U, U, U, U, U]) (fun v104 : Bool => ⟨[], []⟩) (fun _ => rfl) ?_ ?_))
  ·refine Mir.ite (fun hb1 => ?_) (fun hb1 => ?_)
   ·refine Mir.region fun e h => ?_
    simp only [↓reduceIte, reduceCtorEq, nA, nS, nM, nE, nL, nT, nB, iT, iN, iE, and_self, SR, SV, und_9, hb1]
    cases h
    simp only [↓reduceIte, reduceCtorEq, nA, nE, nL, and_self, and_true, true_and, SL, hb1]
   ·refine Mir.bind fun y101 hy2 => Mir.ite (fun hb3 => ?_) (fun hb3 => ?_)
    ·refine Mir.region fun e h => ?_
     simp only [↓reduceIte, reduceCtorEq, nA, nS, nM, nE, nL, nT, nB, iT, iN, iE, and_self, SR, SV, und_9, hb1, hb3]
     refine SpecS.by (strings_Count_spec hy2) (by simp only [↓reduceIte, reduceCtorEq, nA, nE, nL, and_self, and_true, true_and, SL, hb1, hb3]) ?_
     simp only [↓reduceIte, reduceCtorEq, nA, nS, nM, nE, nL, nT, nB, iT, iN, iE, and_self, SR, SV, hb1, hb3]
     cases h
     simp only [↓reduceIte, reduceCtorEq, nA, nE, nL, and_self, and_true, true_and, SL, hb1, hb3]
    ·refine Mir.bind fun y102 hy4 => Mir.ite (fun hb5 => ?_) (fun hb5 => ?_)
     ·refine Mir.bind fun y103 hy6 => Mir.region fun e h => ?_
      simp only [↓reduceIte, reduceCtorEq, nA, nS, nM, nE, nL, nT, nB, iT, iN, iE, and_self, SR, SV, und_9, hb1, hb3, hb5]
      refine SpecS.by (strings_Count_spec hy2) (by simp only [↓reduceIte, reduceCtorEq, nA, nE, nL, and_self, and_true, true_and, SL, hb1, hb3, hb5]) ?_
      simp only [↓reduceIte, reduceCtorEq, nA, nS, nM, nE, nL, nT, nB, iT, iN, iE, and_self, SR, SV, hb1, hb3, hb5]
      refine SpecS.by (strings_Count_spec hy4) (by simp only [↓reduceIte, reduceCtorEq, nA, nE, nL, and_self, and_true, true_and, SL, hb1, hb3, hb5]) ?_
      simp only [↓reduceIte, reduceCtorEq, nA, nS, nM, nE, nL, nT, nB, iT, iN, iE, and_self, SR, SV, hb1, hb3, hb5]
      refine SpecS.by (strings_HasSuffix_spec hy6) (by simp only [↓reduceIte, reduceCtorEq, nA, nE, nL, and_self, and_true, true_and, SL, hb1, hb3, hb5]) ?_
      simp only [↓reduceIte, reduceCtorEq, nA, nS, nM, nE, nL, nT, nB, iT, iN, iE, and_self, SR, SV, hb1, hb3, hb5]
      cases h
      simp only [↓reduceIte, reduceCtorEq, nA, nE, nL, and_self, and_true, true_and, SL, hb1, hb3, hb5]
     ·refine Mir.region fun e h => ?_
      simp only [↓reduceIte, reduceCtorEq, nA, nS, nM, nE, nL, nT, nB, iT, iN, iE, and_self, SR, SV, und_9, hb1, hb3, hb5]
      refine SpecS.by (strings_Count_spec hy2) (by simp only [↓reduceIte, reduceCtorEq, nA, nE, nL, and_self, and_true, true_and, SL, hb1, hb3, hb5]) ?_
      simp only [↓reduceIte, reduceCtorEq, nA, nS, nM, nE, nL, nT, nB, iT, iN, iE, and_self, SR, SV, hb1, hb3, hb5]
      refine SpecS.by (strings_Count_spec hy4) (by simp only [↓reduceIte, reduceCtorEq, nA, nE, nL, and_self, and_true, true_and, SL, hb1, hb3, hb5]) ?_
      simp only [↓reduceIte, reduceCtorEq, nA, nS, nM, nE, nL, nT, nB, iT, iN, iE, and_self, SR, SV, hb1, hb3, hb5]
      cases h
      simp only [↓reduceIte, reduceCtorEq, nA, nE, nL, and_self, and_true, true_and, SL, hb1, hb3, hb5]
  ·intro v104
   refine Mir.toK (Mir.cond rfl (fun hb8 => ?_) (fun hb8 => ?_))
   ·refine Mir.seqK (Mir.region fun e h => ?_)
    simp only [↓reduceIte, reduceCtorEq, nA, nS, nM, nE, nL, nT, nB, iT, iN, iE, and_self, SR, SV]
    refine Mir.use (e := e) ?_ h
    refine Mir.ret fun e h => ?_
    cases h
    simp only [↓reduceIte, reduceCtorEq, nA, nE, nL, and_self, and_true, true_and, SL, Tryz.results6]
   ·refine Mir.skip (Mir.toK (Mir.seqK (Mir.region fun e h => ?_)))
    simp only [↓reduceIte, reduceCtorEq, nA, nS, nM, nE, nL, nT, nB, iT, iN, iE, and_self, SR, SV, ENMB]
    refine Mir.use (e := e) ?_ h
    refine Mir.seqK (Mir.seqK (Mir.region fun e h => ?_))
    simp only [↓reduceIte, reduceCtorEq, nA, nS, nM, nE, nL, nT, nB, iT, iN, iE, and_self, SR, SV, ENMB]
    refine Mir.use (e := e) ?_ h
    refine Mir.gh [.slot 5 36] rfl (Mir.join (fun v160 : (List ApiBlock) => [U, U, U, U, U, .own 0 (List.map encApiBlock v160), U, U, U, U, U, U, U, U, U, U, U, U, U, U, U, U, U, U, U, U, U, U, U, U, U, U, U, U, U, U, U, U, U, U, U, U, U, U, U, U, U, U, U, U, U, U, U, U, U, U, U, U, U]) (fun v160 : (List ApiBlock) => ⟨[], [(36, v160.length)]⟩) (fun _ => rfl) ?_ ?_)
    ·refine Mir.block (Mir.loop (fun v178 : (List UInt8) × (List ApiBlock) × Int => [.d (.str v178.1), U, U, U, U, .own 0 (List.map encApiBlock v178.2.1), .d (.int .i64 v178.2.2), U, U, U, U, U, U, U, U, U, U, U, U, U, U, U, U, U, U, U, U, U, U, U, U, U, U, U, U, U, U, U, U, U, U, U, U, U, U, U, U, U, U, U, U, U, U, U, U, U, U, U, U]) (fun v178 : (List UInt8) × (List ApiBlock) × Int => ⟨[], [(36, v178.2.1.length)]⟩) (fun _ => rfl) (by simp only [↓reduceIte, reduceCtorEq, nA, nE, nL, and_self, and_true, true_and, SL, ENMB]) (by simp only [↓reduceIte, reduceCtorEq, nA, nE, nL, and_self, and_true, true_and, SL, ENMB]) fun v178 => Mir.seqK (Mir.seqK (Mir.region fun e h => ?_)))
     simp only [↓reduceIte, reduceCtorEq, nA, nS, nM, nE, nL, nT, nB, iT, iN, iE, and_self, SR, SV, ENMB]
     refine Mir.use (e := e) ?_ h
     refine Mir.cond rfl (fun hb146 => ?_) (fun hb146 => ?_)
     ·refine Mir.skip (Mir.toK (Mir.seqK (Mir.block (Mir.seqK (Mir.bind fun y182 hy154 => Mir.region fun e h => ?_)))))
      simp only [↓reduceIte, reduceCtorEq, nA, nS, nM, nE, nL, nT, nB, iT, iN, iE, and_self, SR, SV, ENMB]
      refine SpecS.by (strings_Cut_spec hy154) (by simp only [↓reduceIte, reduceCtorEq, nA, nE, nL, and_self, and_true, true_and, SL, ENMB]) ?_
      simp only [↓reduceIte, reduceCtorEq, nA, nS, nM, nE, nL, nT, nB, iT, iN, iE, and_self, SR, SV, ENMB]
      refine Mir.use (e := e) ?_ h
      refine Mir.seqK (Mir.bind fun y183 hy155 => Mir.region fun e h => ?_)
      simp only [↓reduceIte, reduceCtorEq, nA, nS, nM, nE, nL, nT, nB, iT, iN, iE, and_self, SR, SV, ENMB]
      refine SpecS.by (bk_Parse_spec hy155) (by simp only [↓reduceIte, reduceCtorEq, nA, nE, nL, and_self, and_true, true_and, SL, ENMB]) ?_
      simp only [↓reduceIte, reduceCtorEq, nA, nS, nM, nE, nL, nT, nB, iT, iN, iE, and_self, SR, SV, zero_36, sz_36, ENMB]
      refine Mir.use (e := e) ?_ h
      refine Mir.seqK (Mir.seqK (Mir.region fun e h => ?_))
      simp only [↓reduceIte, reduceCtorEq, nA, nS, nM, nE, nL, nT, nB, iT, iN, iE, and_self, SR, SV, ENMB]
      refine Mir.use (e := e) ?_ h
      refine Mir.joinO (fun v184 : Int => [U, U, U, U, U, .own 0 (List.map encApiBlock v178.2.1), .d (.int .i64 v178.2.2), U, .d (.str y182.2.1), U, .ptr 0 0, U, .d (.int .i64 v184), U, U, U, U, U, U, U, U, U, U, U, U, U, U, U, U, U, U, U, U, U, U, U, U, U, U, U, U, U, U, U, U, U, U, U, U, U, U, U, U, U, U, U, U, U, U]) (fun v184 : Int => ⟨[[.d (.bool y183.1.Skip), .d (.list (List.map encApiWord y183.1.Words)), .d (.str y183.1.Comment)]], [(36, v178.2.1.length)]⟩) (fun _ => rfl) ?_ ?_
      ·refine Mir.cond rfl (fun hb157 => ?_) (fun hb157 => ?_)
       ·refine Mir.region fun e h => ?_
        simp only [↓reduceIte, reduceCtorEq, nA, nS, nM, nE, nL, nT, nB, iT, iN, iE, and_self, SR, SV, ENMB]
        cases h
        simp only [↓reduceIte, reduceCtorEq, nA, nE, nL, and_self, and_true, true_and, SL, ENMB, Tryz.results6]
       ·refine Mir.skip fun e h => ?_
        cases h
        simp only [↓reduceIte, reduceCtorEq, nA, nE, nL, and_self, and_true, true_and, SL, ENMB, Tryz.results6]
      ·intro v184
       refine Mir.toK (Mir.seqK (Mir.seqK (Mir.region fun e h => ?_)))
       simp only [↓reduceIte, reduceCtorEq, nA, nS, nM, nE, nL, nT, nB, iT, iN, iE, and_self, SR, SV, ENMB]
       refine Mir.use (e := e) ?_ h
       refine Mir.cond rfl (fun hb159 => ?_) (fun hb159 => ?_)
       ·refine Mir.seqK (Mir.region fun e h => ?_)
        simp only [↓reduceIte, reduceCtorEq, nA, nS, nM, nE, nL, nT, nB, iT, iN, iE, and_self, SR, SV, ENMB]
        refine Mir.use (e := e) ?_ h
        refine Mir.ret fun e h => ?_
        cases h
        simp only [↓reduceIte, reduceCtorEq, nA, nE, nL, and_self, and_true, true_and, SL, ENMB, Tryz.results6]
       ·refine Mir.skip (Mir.toK (Mir.guard fun q160 => Mir.region fun e h => ?_))
        simp only [↓reduceIte, reduceCtorEq, nA, nS, nM, nE, nL, nT, nB, iT, iN, iE, and_self, SR, SV, ag_36, sz_36, und_23, zero_36, (nr rfl : okLen 3 = true), app_23, al_ApiBlock, q160, ENMB]
        refine Mir.use (e := e) ?_ h
        refine Mir.region fun e h => ?_
        simp only [↓reduceIte, reduceCtorEq, nA, nS, nM, nE, nL, nT, nB, iT, iN, iE, and_self, SR, SV, ENMB]
        cases h
        simp only [↓reduceIte, reduceCtorEq, nA, nE, nL, and_self, and_true, true_and, SL, ENMB, Tryz.results6]
     ·refine Mir.exit fun e h => ?_
      cases h
      simp only [↓reduceIte, reduceCtorEq, nA, nE, nL, and_self, and_true, true_and, SL, ENMB, Tryz.results6]
    ·intro v160
     refine Mir.toK (Mir.seqK (Mir.region fun e h => ?_))
     simp only [↓reduceIte, reduceCtorEq, nA, nS, nM, nE, nL, nT, nB, iT, iN, iE, and_self, SR, SV, ENMB]
     refine Mir.use (e := e) ?_ h
     refine Mir.ret fun e h => ?_
     cases h
     simp only [↓reduceIte, reduceCtorEq, nA, nE, nL, and_self, and_true, true_and, SL, ENMB, Tryz.results6]

def r41_Program (a0 : (List UInt8)) : Option ((List ApiBlock) × Int × Int) :=
  bindO (guardO (okIdx a0) (
      rangeX (fun (i146 : Nat) (c148 : UInt8) (v147 : Int) =>
        bindO (if (((c148.toNat : Int) == 10) && (decide ((IntKind.i64.wrap ((i146 : Int) + 1)) < (a0.length : Int)))) = true then
              some (IntKind.i64.wrap (v147 + 1))
            else
              some v147) fun (v149 : Int) =>
        some (.go v149)) (fun (v147 : Int) => some v147) a0 0 1)) fun (v125 : Int) =>
  if ((decide ((a0.length : Int) > 65536)) || (decide (v125 > 20000))) = true then
    some ([], 0, 3)
  else
    bindX (guardO (okIdx a0) (
        rangeX (fun (i256 : Nat) (c258 : UInt8) (v257 : (List ApiBlock) × Int) =>
          bindX (if ((c258.toNat : Int) == 10) = true then
                bindO (cutL a0 v257.2 (i256 : Int)) fun (s262 : (List UInt8)) =>
                bindO (r41_Parse s262) fun (y263 : ApiBlock × Int × Int) =>
                if (y263.2.2 != 0) = true then
                  some (.ret (.ret (.ret ([], IntKind.i64.wrap ((v257.1.length : Int) + 1), y263.2.2))))
                else
                  guardO (okLen (v257.1.length + 1)) (
                  some (.go (v257.1 ++ [y263.1], IntKind.i64.wrap ((i256 : Int) + 1))))
              else
                some (.go (v257.1, v257.2))) fun (v261 : (List ApiBlock) × Int) =>
          some (.go (v261.1, v261.2))) (fun (v257 : (List ApiBlock) × Int) => some (.go (v257.1, v257.2))) a0 0 ([], 0))) fun (v229 : (List ApiBlock) × Int) =>
    if (decide (v229.2 < (a0.length : Int))) = true then
      some ([], IntKind.i64.wrap ((v229.1.length : Int) + 1), 2)
    else
      some (v229.1, 0, 0)
set_option maxHeartbeats 8000000 in
theorem r41_Program_spec {a0 : (List UInt8)} {y : (List ApiBlock) × Int × Int} (h : r41_Program a0 = some y) : Spec gP 7 [.d (.str a0)] (.tuple [.d (.list (List.map encApiBlock y.1)), .d (.int .i64 y.2.1), .d (.int .i64 y.2.2)]) := by
  refine spec_mir Tryz.func7 rfl (by kernel_rfl) (by kernel_rfl) (fun y : (List ApiBlock) × Int × Int => .tuple [.d (.list (List.map encApiBlock y.1)), .d (.int .i64 y.2.1), .d (.int .i64 y.2.2)]) ?_ h
  unfold r41_Program
  simp only [List.replicate, List.length, nS, nA, Tryz.ntmps7, SV]
  refine Mir.seqK (Mir.region fun e h => ?_)
  simp only [↓reduceIte, reduceCtorEq, nA, nS, nM, nE, nL, nT, nB, iT, iN, iE, and_self, SR, SV, ENMB]
  refine Mir.use (e := e) ?_ h
  refine Mir.seqK (Mir.region fun e h => ?_)
  simp only [↓reduceIte, reduceCtorEq, nA, nS, nM, nE, nL, nT, nB, iT, iN, iE, and_self, SR, SV, ENMB]
  refine Mir.use (e := e) ?_ h
  refine Mir.seqK (Mir.seqK (Mir.region fun e h => ?_))
  simp only [↓reduceIte, reduceCtorEq, nA, nS, nM, nE, nL, nT, nB, iT, iN, iE, and_self, SR, SV, ENMB]
  refine Mir.use (e := e) ?_ h
  refine Mir.joinO (fun v125 : Int => [.d (.str a0), U, U, U, U, .d (.int .i64 v125), U, U, U, U, U, U, U, U, U, U, U, U, U, U, U, U, U, U, U, U, U, U, U, U, U, U, U, U, U, U, U, U, U, U, U, U, U, U, U, U, U, U, U, U, U, U, U, U, U, U, U, U, U, U, U, U, U, U, U, U, U, U, U, U, U, U, U, U, U, U, U, U]) (fun v125 : Int => ⟨[], []⟩) (fun _ => rfl) ?_ ?_
  ·refine Mir.block (Mir.guard fun qg58 => Mir.range (fun (i146 : Nat) (v147 : Int) => [.d (.str a0), U, U, U, U, .d (.int .i64 v147), .d (.int .i64 (i146 : Int)), U, U, U, U, U, U, U, U, U, U, U, U, U, U, U, U, U, U, U, U, U, U, U, U, U, U, U, U, U, U, U, U, U, U, U, U, U, U, U, U, U, U, U, U, U, U, U, U, U, U, U, U, U, U, U, U, U, U, U, U, U, U, U, U, U, U, U, U, U, U, U]) (fun (i146 : Nat) (v147 : Int) => ⟨[], []⟩) qg58 (fun _ _ => rfl) (by simp only [↓reduceIte, reduceCtorEq, nA, nE, nL, and_self, and_true, true_and, SL, (nr rfl : ((0 : Nat) : Int) = 0)]) (by simp only [↓reduceIte, reduceCtorEq, nA, nE, nL, and_self, and_true, true_and, SL, (nr rfl : ((0 : Nat) : Int) = 0)]) ?_ ?_)
   ·intro i146 c148 v147 qr56
    refine Mir.seqK (Mir.seqK (Mir.region fun e h => ?_))
    simp only [↓reduceIte, reduceCtorEq, nA, nS, nM, nE, nL, nT, nB, iT, iN, iE, and_self, SR, SV, und_9, qr56]
    refine Mir.use (e := e) ?_ h
    refine Mir.condT rfl (Mir.skip (Mir.toK (Mir.seqK (Mir.joinO (fun v149 : Int => [.d (.str a0), U, U, U, U, .d (.int .i64 v149), .d (.int .i64 (i146 : Int)), U, U, U, U, U, U, U, U, U, U, U, U, U, U, U, U, U, U, U, U, U, U, U, U, U, U, U, U, U, U, U, U, U, U, U, U, U, U, U, U, U, U, U, U, U, U, U, U, U, U, U, U, U, U, U, U, U, U, U, U, U, U, U, U, U, U, U, U, U, U, U]) (fun v149 : Int => ⟨[], []⟩) (fun _ => rfl) ?_ ?_))))
    ·refine Mir.block (Mir.seqK (Mir.joinV [.d (.str a0), U, U, U, U, .d (.int .i64 v147), .d (.int .i64 (i146 : Int)), U, U, U, U, U, U, U, U, U, U, U, U, U, U, U, U, U, U, U, U, U, U, .d (.bool (((c148.toNat : Int) == 10) && (decide ((IntKind.i64.wrap ((i146 : Int) + 1)) < (a0.length : Int))))), U, U, U, U, U, U, U, U, U, U, U, U, U, U, U, U, U, U, U, U, U, U, U, U, U, U, U, U, U, U, U, U, U, U, U, U, U, U, U, U, U, U, U, U, U, U, U, U] ⟨[], []⟩ rfl ?_ ?_))
     ·refine SWs.region ?_
      rcases Bool.eq_false_or_eq_true ((c148.toNat : Int) == 10) with hb61 | hb61
      ·simp only [↓reduceIte, reduceCtorEq, nA, nS, nM, nE, nL, nT, nB, iT, iN, iE, and_self, SR, SV, SL, PB, und_9, Int.toNat_natCast, qr56, hb61]
      ·simp only [↓reduceIte, reduceCtorEq, nA, nS, nM, nE, nL, nT, nB, iT, iN, iE, and_self, SR, SV, SL, PB, und_9, Int.toNat_natCast, qr56, hb61]
     ·refine Mir.toK (Mir.cond rfl (fun hb62 => ?_) (fun hb62 => ?_))
      ·refine Mir.region fun e h => ?_
       simp only [↓reduceIte, reduceCtorEq, nA, nS, nM, nE, nL, nT, nB, iT, iN, iE, and_self, SR, SV]
       cases h
       simp only [↓reduceIte, reduceCtorEq, nA, nE, nL, and_self, and_true, true_and, SL, Tryz.results7]
      ·refine Mir.skip fun e h => ?_
       cases h
       simp only [↓reduceIte, reduceCtorEq, nA, nE, nL, and_self, and_true, true_and, SL, Tryz.results7]
    ·intro v149
     refine Mir.toK (Mir.region fun e h => ?_)
     simp only [↓reduceIte, reduceCtorEq, nA, nS, nM, nE, nL, nT, nB, iT, iN, iE, and_self, SR, SV]
     cases h
     simp only [↓reduceIte, reduceCtorEq, nA, nE, nL, and_self, and_true, true_and, SL, Tryz.results7, qr56]
   ·intro v147 qd57
    refine Mir.seqK (Mir.seqK (Mir.region fun e h => ?_))
    simp only [↓reduceIte, reduceCtorEq, nA, nS, nM, nE, nL, nT, nB, iT, iN, iE, and_self, SR, SV, und_9, qd57]
    refine Mir.use (e := e) ?_ h
    refine Mir.condF rfl (Mir.exit fun e h => ?_)
    cases h
    simp only [↓reduceIte, reduceCtorEq, nA, nE, nL, and_self, and_true, true_and, SL, Tryz.results7]
  ·intro v125
   refine Mir.toK (Mir.seqK (Mir.seqK (Mir.joinV [.d (.str a0), U, U, U, U, U, U, U, U, U, U, U, U, U, U, U, U, U, U, U, U, U, U, U, U, U, U, U, U, U, U, U, U, U, U, U, U, U, .d (.bool ((decide ((a0.length : Int) > 65536)) || (decide (v125 > 20000)))), U, U, U, U, U, U, U, U, U, U, U, U, U, U, U, U, U, U, U, U, U, U, U, U, U, U, U, U, U, U, U, U, U, U, U, U, U, U, U] ⟨[], []⟩ rfl ?_ ?_)))
   ·refine SWs.region ?_
    rcases Bool.eq_false_or_eq_true (decide ((a0.length : Int) > 65536)) with hb63 | hb63
    ·simp only [↓reduceIte, reduceCtorEq, nA, nS, nM, nE, nL, nT, nB, iT, iN, iE, and_self, SR, SV, SL, PB, und_9, hb63, ENMB]
    ·simp only [↓reduceIte, reduceCtorEq, nA, nS, nM, nE, nL, nT, nB, iT, iN, iE, and_self, SR, SV, SL, PB, und_9, hb63, ENMB]
   ·refine Mir.toK (Mir.cond rfl (fun hb65 => ?_) (fun hb65 => ?_))
    ·refine Mir.seqK (Mir.region fun e h => ?_)
     simp only [↓reduceIte, reduceCtorEq, nA, nS, nM, nE, nL, nT, nB, iT, iN, iE, and_self, SR, SV]
     refine Mir.use (e := e) ?_ h
     refine Mir.ret fun e h => ?_
     cases h
     simp only [↓reduceIte, reduceCtorEq, nA, nE, nL, and_self, and_true, true_and, SL, Tryz.results7]
    ·refine Mir.skip (Mir.toK (Mir.seqK (Mir.region fun e h => ?_)))
     simp only [↓reduceIte, reduceCtorEq, nA, nS, nM, nE, nL, nT, nB, iT, iN, iE, and_self, SR, SV, ENMB]
     refine Mir.use (e := e) ?_ h
     refine Mir.seqK (Mir.region fun e h => ?_)
     simp only [↓reduceIte, reduceCtorEq, nA, nS, nM, nE, nL, nT, nB, iT, iN, iE, and_self, SR, SV, ENMB]
     refine Mir.use (e := e) ?_ h
     refine Mir.seqK (Mir.seqK (Mir.region fun e h => ?_))
     simp only [↓reduceIte, reduceCtorEq, nA, nS, nM, nE, nL, nT, nB, iT, iN, iE, and_self, SR, SV, ENMB]
     refine Mir.use (e := e) ?_ h
     refine Mir.gh [.slot 7 36] rfl (Mir.join (fun v229 : (List ApiBlock) × Int => [.d (.str a0), U, U, U, U, U, U, .own 0 (List.map encApiBlock v229.1), .d (.int .i64 v229.2), U, U, U, U, U, U, U, U, U, U, U, U, U, U, U, U, U, U, U, U, U, U, U, U, U, U, U, U, U, U, U, U, U, U, U, U, U, U, U, U, U, U, U, U, U, U, U, U, U, U, U, U, U, U, U, U, U, U, U, U, U, U, U, U, U, U, U, U, U]) (fun v229 : (List ApiBlock) × Int => ⟨[], [(36, v229.1.length)]⟩) (fun _ => rfl) ?_ ?_)
     ·refine Mir.block (Mir.guard fun qg256 => Mir.range (fun (i256 : Nat) (v257 : (List ApiBlock) × Int) => [.d (.str a0), U, U, U, U, U, U, .own 0 (List.map encApiBlock v257.1), .d (.int .i64 v257.2), .d (.int .i64 (i256 : Int)), U, U, U, U, U, U, U, U, U, U, U, U, U, U, U, U, U, U, U, U, U, U, U, U, U, U, U, U, U, U, U, U, U, U, U, U, U, U, U, U, U, U, U, U, U, U, U, U, U, U, U, U, U, U, U, U, U, U, U, U, U, U, U, U, U, U, U, U]) (fun (i256 : Nat) (v257 : (List ApiBlock) × Int) => ⟨[], [(36, v257.1.length)]⟩) qg256 (fun _ _ => rfl) (by simp only [↓reduceIte, reduceCtorEq, nA, nE, nL, and_self, and_true, true_and, SL, ENMB, (nr rfl : ((0 : Nat) : Int) = 0)]) (by simp only [↓reduceIte, reduceCtorEq, nA, nE, nL, and_self, and_true, true_and, SL, ENMB, (nr rfl : ((0 : Nat) : Int) = 0)]) ?_ ?_)
      ·intro i256 c258 v257 qr254
       refine Mir.seqK (Mir.seqK (Mir.region fun e h => ?_))
       simp only [↓reduceIte, reduceCtorEq, nA, nS, nM, nE, nL, nT, nB, iT, iN, iE, and_self, SR, SV, und_9, qr254, ENMB]
       refine Mir.use (e := e) ?_ h
       refine Mir.condT rfl (Mir.skip (Mir.toK (Mir.seqK (Mir.join (fun v261 : (List ApiBlock) × Int => [.d (.str a0), U, U, U, U, U, U, .own 0 (List.map encApiBlock v261.1), .d (.int .i64 v261.2), .d (.int .i64 (i256 : Int)), U, U, U, U, U, U, U, U, U, U, U, U, U, U, U, U, U, U, U, U, U, U, U, U, U, U, U, U, U, U, U, U, U, U, U, U, U, U, U, U, U, U, U, U, U, U, U, U, U, U, U, U, U, U, U, U, U, U, U, U, U, U, U, U, U, U, U, U]) (fun v261 : (List ApiBlock) × Int => ⟨[], [(36, v261.1.length)]⟩) (fun _ => rfl) ?_ ?_))))
       ·refine Mir.block (Mir.seqK (Mir.region fun e h => ?_))
        simp only [↓reduceIte, reduceCtorEq, nA, nS, nM, nE, nL, nT, nB, iT, iN, iE, and_self, SR, SV, und_9, Int.toNat_natCast, qr254, ENMB]
        refine Mir.use (e := e) ?_ h
        refine Mir.cond rfl (fun hb263 => ?_) (fun hb263 => ?_)
        ·refine Mir.seqK (Mir.bind fun s262 q264 => ?_)
         replace q264 := cutL_ok q264
         simp only [Int.toNat_natCast] at q264
         refine Mir.bind fun y263 hy265 => Mir.region fun e h => ?_
         simp only [↓reduceIte, reduceCtorEq, nA, nS, nM, nE, nL, nT, nB, iT, iN, iE, and_self, SR, SV, und_9, q264, Nat.le_refl, and_true, true_and, dm, tm, Int.toNat_natCast, ENMB]
         refine SpecS.by (r41_Parse_spec hy265) (by simp only [↓reduceIte, reduceCtorEq, nA, nE, nL, and_self, and_true, true_and, SL, ENMB]) ?_
         simp only [↓reduceIte, reduceCtorEq, nA, nS, nM, nE, nL, nT, nB, iT, iN, iE, and_self, SR, SV, zero_36, sz_36, ENMB]
         refine Mir.use (e := e) ?_ h
         refine Mir.seqK (Mir.seqK (Mir.region fun e h => ?_))
         simp only [↓reduceIte, reduceCtorEq, nA, nS, nM, nE, nL, nT, nB, iT, iN, iE, and_self, SR, SV, ENMB]
         refine Mir.use (e := e) ?_ h
         refine Mir.cond rfl (fun hb267 => ?_) (fun hb267 => ?_)
         ·refine Mir.seqK (Mir.region fun e h => ?_)
          simp only [↓reduceIte, reduceCtorEq, nA, nS, nM, nE, nL, nT, nB, iT, iN, iE, and_self, SR, SV, und_23, ENMB]
          refine Mir.use (e := e) ?_ h
          refine Mir.ret fun e h => ?_
          cases h
          simp only [↓reduceIte, reduceCtorEq, nA, nE, nL, and_self, and_true, true_and, SL, ENMB, Tryz.results7]
         ·refine Mir.skip (Mir.toK (Mir.seqK (Mir.guard fun q268 => Mir.region fun e h => ?_)))
          simp only [↓reduceIte, reduceCtorEq, nA, nS, nM, nE, nL, nT, nB, iT, iN, iE, and_self, SR, SV, ag_36, sz_36, und_23, zero_36, (nr rfl : okLen 3 = true), app_23, al_ApiBlock, q268, ENMB]
          refine Mir.use (e := e) ?_ h
          refine Mir.region fun e h => ?_
          simp only [↓reduceIte, reduceCtorEq, nA, nS, nM, nE, nL, nT, nB, iT, iN, iE, and_self, SR, SV, ENMB]
          cases h
          simp only [↓reduceIte, reduceCtorEq, nA, nE, nL, and_self, and_true, true_and, SL, ENMB, Tryz.results7]
        ·refine Mir.skip fun e h => ?_
         cases h
         simp only [↓reduceIte, reduceCtorEq, nA, nE, nL, and_self, and_true, true_and, SL, ENMB, Tryz.results7]
       ·intro v261
        refine Mir.toK (Mir.region fun e h => ?_)
        simp only [↓reduceIte, reduceCtorEq, nA, nS, nM, nE, nL, nT, nB, iT, iN, iE, and_self, SR, SV, ENMB]
        cases h
        simp only [↓reduceIte, reduceCtorEq, nA, nE, nL, and_self, and_true, true_and, SL, ENMB, Tryz.results7, qr254]
      ·intro v257 qd255
       refine Mir.seqK (Mir.seqK (Mir.region fun e h => ?_))
       simp only [↓reduceIte, reduceCtorEq, nA, nS, nM, nE, nL, nT, nB, iT, iN, iE, and_self, SR, SV, und_9, qd255, ENMB]
       refine Mir.use (e := e) ?_ h
       refine Mir.condF rfl (Mir.exit fun e h => ?_)
       cases h
       simp only [↓reduceIte, reduceCtorEq, nA, nE, nL, and_self, and_true, true_and, SL, ENMB, Tryz.results7]
     ·intro v229
      refine Mir.toK (Mir.seqK (Mir.seqK (Mir.region fun e h => ?_)))
      simp only [↓reduceIte, reduceCtorEq, nA, nS, nM, nE, nL, nT, nB, iT, iN, iE, and_self, SR, SV, und_9, ENMB]
      refine Mir.use (e := e) ?_ h
      refine Mir.cond rfl (fun hb270 => ?_) (fun hb270 => ?_)
      ·refine Mir.seqK (Mir.region fun e h => ?_)
       simp only [↓reduceIte, reduceCtorEq, nA, nS, nM, nE, nL, nT, nB, iT, iN, iE, and_self, SR, SV, und_23, ENMB]
       refine Mir.use (e := e) ?_ h
       refine Mir.ret fun e h => ?_
       cases h
       simp only [↓reduceIte, reduceCtorEq, nA, nE, nL, and_self, and_true, true_and, SL, ENMB, Tryz.results7]
      ·refine Mir.skip (Mir.toK (Mir.seqK (Mir.region fun e h => ?_)))
       simp only [↓reduceIte, reduceCtorEq, nA, nS, nM, nE, nL, nT, nB, iT, iN, iE, and_self, SR, SV, ENMB]
       refine Mir.use (e := e) ?_ h
       refine Mir.ret fun e h => ?_
       cases h
       simp only [↓reduceIte, reduceCtorEq, nA, nE, nL, and_self, and_true, true_and, SL, ENMB, Tryz.results7]

def r41_Same (a0 : (List ApiBlock)) (a1 : (List ApiBlock)) : Option Bool :=
  if ((a0.length : Int) != (a1.length : Int)) = true then
    some false
  else
    bindX (guardO (okIdx a0) (
        rangeX (fun (i155 : Nat) (e157 : ApiBlock) (v156 : Unit) =>
          bindO (gt a1 (i155 : Int)) fun (e160 : ApiBlock) =>
          bindO (r41_Equal e157 e160) fun (y161 : Bool) =>
          if (!y161) = true then
            some (.ret (.ret false))
          else
            some (.go ())) (fun (v156 : Unit) => some (.go ())) a0 0 ())) fun (v131 : Unit) =>
    some true
theorem r41_Same_spec {a0 : (List ApiBlock)} {a1 : (List ApiBlock)} {y : Bool} (h : r41_Same a0 a1 = some y) : Spec gP 8 [.d (.list (List.map encApiBlock a0)), .d (.list (List.map encApiBlock a1))] (.d (.bool y)) := by
  refine spec_mir Tryz.func8 rfl (by kernel_rfl) (by kernel_rfl) (fun y : Bool => .d (.bool y)) ?_ h
  unfold r41_Same
  simp only [List.replicate, List.length, nS, nA, Tryz.ntmps8, SV]
  refine Mir.seqK (Mir.region fun e h => ?_)
  simp only [↓reduceIte, reduceCtorEq, nA, nS, nM, nE, nL, nT, nB, iT, iN, iE, and_self, SR, SV, ENMB]
  refine Mir.use (e := e) ?_ h
  refine Mir.seqK (Mir.seqK (Mir.region fun e h => ?_))
  simp only [↓reduceIte, reduceCtorEq, nA, nS, nM, nE, nL, nT, nB, iT, iN, iE, and_self, SR, SV, und_23, ENMB]
  refine Mir.use (e := e) ?_ h
  refine Mir.cond rfl (fun hb2 => ?_) (fun hb2 => ?_)
  ·refine Mir.seqK (Mir.region fun e h => ?_)
   simp only [↓reduceIte, reduceCtorEq, nA, nS, nM, nE, nL, nT, nB, iT, iN, iE, and_self, SR, SV, ENMB]
   refine Mir.use (e := e) ?_ h
   refine Mir.ret fun e h => ?_
   cases h
   simp only [↓reduceIte, reduceCtorEq, nA, nE, nL, and_self, and_true, true_and, SL, ENMB, Tryz.results8]
  ·refine Mir.skip (Mir.toK (Mir.seqK (Mir.seqK (Mir.region fun e h => ?_))))
   simp only [↓reduceIte, reduceCtorEq, nA, nS, nM, nE, nL, nT, nB, iT, iN, iE, and_self, SR, SV, ENMB]
   refine Mir.use (e := e) ?_ h
   refine Mir.join (fun v131 : Unit => [U, U, U, U, U, U, U, U, U, U, U, U, U, U, U, U, U, U, U, U, U, U, U, U, U, U, U]) (fun v131 : Unit => ⟨[], []⟩) (fun _ => rfl) ?_ ?_
   ·refine Mir.block (Mir.guard fun qg81 => Mir.range (fun (i155 : Nat) (v156 : Unit) => [.d (.list (List.map encApiBlock a0)), .d (.list (List.map encApiBlock a1)), U, U, U, .d (.int .i64 (i155 : Int)), U, U, U, U, U, U, U, U, U, U, U, U, U, U, U, U, U, U, U, U, U]) (fun (i155 : Nat) (v156 : Unit) => ⟨[], []⟩) qg81 (fun _ _ => rfl) (by simp only [↓reduceIte, reduceCtorEq, nA, nE, nL, and_self, and_true, true_and, SL, ENMB, (nr rfl : ((0 : Nat) : Int) = 0)]) (by simp only [↓reduceIte, reduceCtorEq, nA, nE, nL, and_self, and_true, true_and, SL, ENMB, (nr rfl : ((0 : Nat) : Int) = 0)]) ?_ ?_)
    ·intro i155 e157 v156 qr79
     refine Mir.seqK (Mir.seqK (Mir.region fun e h => ?_))
     simp only [↓reduceIte, reduceCtorEq, nA, nS, nM, nE, nL, nT, nB, iT, iN, iE, and_self, SR, SV, und_23, qr79, ENMB]
     refine Mir.use (e := e) ?_ h
     refine Mir.condT rfl (Mir.skip (Mir.toK (Mir.seqK (Mir.block (Mir.seqK (Mir.bind fun e160 q85 => ?_))))))
     replace q85 := gt_ok q85
     simp only [Int.toNat_natCast] at q85
     refine Mir.bind fun y161 hy86 => Mir.regionD [] (by kernel_rfl) fun e h => ?_
     simp only [↓reduceIte, reduceCtorEq, nA, nS, nM, nE, nL, nT, nB, iT, iN, iE, and_self, SR, SV, sepL_nil, sepL_cons, sepV_ne, sepV_d, sepV_i, true_and, Bool.and_self, und_23, sz_36, qr79, Int.toNat_natCast, ag_36, q85, ENMB]
     refine Spec.by (r41_Equal_spec hy86) (by simp only [↓reduceIte, reduceCtorEq, nA, nE, nL, and_self, and_true, true_and, SL, ENMB]) ?_
     simp only [↓reduceIte, reduceCtorEq, nA, nS, nM, nE, nL, nT, nB, iT, iN, iE, and_self, SR, SV, sepL_nil, sepL_cons, sepV_ne, sepV_d, sepV_i, true_and, Bool.and_self, ENMB]
     refine Mir.use (e := e) ?_ h
     refine Mir.cond rfl (fun hb88 => ?_) (fun hb88 => ?_)
     ·refine Mir.seqK (Mir.region fun e h => ?_)
      simp only [↓reduceIte, reduceCtorEq, nA, nS, nM, nE, nL, nT, nB, iT, iN, iE, and_self, SR, SV, ENMB]
      refine Mir.use (e := e) ?_ h
      refine Mir.ret fun e h => ?_
      cases h
      simp only [↓reduceIte, reduceCtorEq, nA, nE, nL, and_self, and_true, true_and, SL, ENMB, Tryz.results8]
     ·refine Mir.skip (Mir.toB (Mir.toK (Mir.region fun e h => ?_)))
      simp only [↓reduceIte, reduceCtorEq, nA, nS, nM, nE, nL, nT, nB, iT, iN, iE, and_self, SR, SV, ENMB]
      cases h
      simp only [↓reduceIte, reduceCtorEq, nA, nE, nL, and_self, and_true, true_and, SL, ENMB, Tryz.results8, qr79]
    ·intro v156 qd80
     refine Mir.seqK (Mir.seqK (Mir.region fun e h => ?_))
     simp only [↓reduceIte, reduceCtorEq, nA, nS, nM, nE, nL, nT, nB, iT, iN, iE, and_self, SR, SV, und_23, qd80, ENMB]
     refine Mir.use (e := e) ?_ h
     refine Mir.condF rfl (Mir.exit fun e h => ?_)
     cases h
     simp only [↓reduceIte, reduceCtorEq, nA, nE, nL, and_self, and_true, true_and, SL, ENMB, Tryz.results8]
   ·intro v131
    refine Mir.toK (Mir.seqK (Mir.region fun e h => ?_))
    simp only [↓reduceIte, reduceCtorEq, nA, nS, nM, nE, nL, nT, nB, iT, iN, iE, and_self, SR, SV, ENMB]
    refine Mir.use (e := e) ?_ h
    refine Mir.ret fun e h => ?_
    cases h
    simp only [↓reduceIte, reduceCtorEq, nA, nE, nL, and_self, and_true, true_and, SL, ENMB, Tryz.results8]

def bk_Print (a0 : (List ApiBlock)) : Option ((List UInt8) × Int) :=
  bindX (guardO (okIdx a0) (
      rangeX (fun (i141 : Nat) (e143 : ApiBlock) (v142 : (List UInt8)) =>
        bindO (bk_Format e143) fun (y145 : (List UInt8) × Int) =>
        if (y145.2 != 0) = true then
          some (.ret (.ret ([], y145.2)))
        else
          guardO (okLen (v142.length + y145.1.length)) (
          guardO (okLen ((v142 ++ y145.1).length + 1)) (
          some (.go (v142 ++ y145.1 ++ [10]))))) (fun (v142 : (List UInt8)) => some (.go v142)) a0 0 [])) fun (v123 : (List UInt8)) =>
  some (v123, 0)
theorem bk_Print_spec {a0 : (List ApiBlock)} {y : (List UInt8) × Int} (h : bk_Print a0 = some y) : Spec gP 10 [.d (.list (List.map encApiBlock a0))] (.tuple [.d (.str y.1), .d (.int .i64 y.2)]) := by
  refine spec_mir Tryz.func10 rfl (by kernel_rfl) (by kernel_rfl) (fun y : (List UInt8) × Int => .tuple [.d (.str y.1), .d (.int .i64 y.2)]) ?_ h
  unfold bk_Print
  simp only [List.replicate, List.length, nS, nA, Tryz.ntmps10, SV]
  refine Mir.seqK (Mir.region fun e h => ?_)
  simp only [↓reduceIte, reduceCtorEq, nA, nS, nM, nE, nL, nT, nB, iT, iN, iE, and_self, SR, SV, ENMB]
  refine Mir.use (e := e) ?_ h
  refine Mir.seqK (Mir.regionW fun e h => regW.alt 0 rfl ?_)
  simp only [↓reduceIte, reduceCtorEq, nA, nS, nM, nE, nL, nT, nB, iT, iN, iE, and_self, SR, SV, w_none, w_eq, and_true, true_and, tkS, tk0, tkN, dpS, dp0, ENMB]
  refine alt_allocB (e := 5) (zv := .agg #[.pointer none, .slice none 0 0]) rfl (by kernel_rfl) rfl (regW.of ?_)
  simp only [↓reduceIte, reduceCtorEq, nA, nS, nM, nE, nL, nT, nB, iT, iN, iE, and_self, SR, SV, w_none, w_eq, and_true, true_and, tkS, tk0, tkN, dpS, dp0, ENMB]
  refine Mir.use (e := e) ?_ h
  refine Mir.seqK (Mir.seqK (Mir.region fun e h => ?_))
  simp only [↓reduceIte, reduceCtorEq, nA, nS, nM, nE, nL, nT, nB, iT, iN, iE, and_self, SR, SV, und_23, ENMB]
  refine Mir.use (e := e) ?_ h
  refine Mir.join (fun v123 : (List UInt8) => [U, U, U, U, .ptr 0 0, U, U, U, U, U, U, U, U, U, U, U, U, U, U, U, U, U, U, U, U, U, U, U]) (fun v123 : (List UInt8) => ⟨[[.adr 0, .own 0 (List.map byteE v123)]], [(5, v123.length)]⟩) (fun _ => rfl) ?_ ?_
  ·refine Mir.block (Mir.guard fun qg100 => Mir.range (fun (i141 : Nat) (v142 : (List UInt8)) => [U, U, U, U, .ptr 0 0, U, U, U, U, .d (.list (List.map encApiBlock a0)), .d (.int .i64 (a0.length : Int)), .d (.int .i64 (i141 : Int)), U, U, U, U, U, U, U, U, U, U, U, U, U, U, U, U]) (fun (i141 : Nat) (v142 : (List UInt8)) => ⟨[[.adr 0, .own 0 (List.map byteE v142)]], [(5, v142.length)]⟩) qg100 (fun _ _ => rfl) (by simp only [↓reduceIte, reduceCtorEq, nA, nE, nL, and_self, and_true, true_and, SL, ENMB, (nr rfl : ((0 : Nat) : Int) = 0)]) (by simp only [↓reduceIte, reduceCtorEq, nA, nE, nL, and_self, and_true, true_and, SL, ENMB, (nr rfl : ((0 : Nat) : Int) = 0)]) ?_ ?_)
   ·intro i141 e143 v142 qr98
    refine Mir.seqK (Mir.region fun e h => ?_)
    simp only [↓reduceIte, reduceCtorEq, nA, nS, nM, nE, nL, nT, nB, iT, iN, iE, and_self, SR, SV, qr98, ENMB]
    refine Mir.use (e := e) ?_ h
    refine Mir.seqK (Mir.condT rfl (Mir.skip (Mir.toK (Mir.seqK (Mir.block (Mir.seqK (Mir.region fun e h => ?_)))))))
    simp only [↓reduceIte, reduceCtorEq, nA, nS, nM, nE, nL, nT, nB, iT, iN, iE, and_self, SR, SV, und_23, sz_36, qr98, Int.toNat_natCast, ag_36, zero_36, ENMB]
    refine Mir.use (e := e) ?_ h
    refine Mir.seqK (Mir.bind fun y145 hy106 => Mir.region fun e h => ?_)
    simp only [↓reduceIte, reduceCtorEq, nA, nS, nM, nE, nL, nT, nB, iT, iN, iE, and_self, SR, SV, ag_36, sz_36, ENMB]
    refine SpecS.by (bk_Format_spec hy106) (by simp only [↓reduceIte, reduceCtorEq, nA, nE, nL, and_self, and_true, true_and, SL, ENMB]) ?_
    simp only [↓reduceIte, reduceCtorEq, nA, nS, nM, nE, nL, nT, nB, iT, iN, iE, and_self, SR, SV, ENMB]
    refine Mir.use (e := e) ?_ h
    refine Mir.seqK (Mir.seqK (Mir.region fun e h => ?_))
    simp only [↓reduceIte, reduceCtorEq, nA, nS, nM, nE, nL, nT, nB, iT, iN, iE, and_self, SR, SV, ENMB]
    refine Mir.use (e := e) ?_ h
    refine Mir.cond rfl (fun hb108 => ?_) (fun hb108 => ?_)
    ·refine Mir.seqK (Mir.region fun e h => ?_)
     simp only [↓reduceIte, reduceCtorEq, nA, nS, nM, nE, nL, nT, nB, iT, iN, iE, and_self, SR, SV, ENMB]
     refine Mir.use (e := e) ?_ h
     refine Mir.ret fun e h => ?_
     cases h
     simp only [↓reduceIte, reduceCtorEq, nA, nE, nL, and_self, and_true, true_and, SL, ENMB, Tryz.results10]
    ·refine Mir.skip (Mir.toK (Mir.seqK (Mir.guard fun q109 => Mir.region fun e h => ?_)))
     simp only [↓reduceIte, reduceCtorEq, nA, nS, nM, nE, nL, nT, nB, iT, iN, iE, and_self, SR, SV, ENMB]
     refine specS_wsN (n := (v142 ++ y145.1).length) rfl (lns_at (by simp only [List.length_map, List.length_append, List.length_nil, List.length_cons, List.map_nil, List.map_cons, xOS, xON] <;> omega)) (ok2 q109 (by simp only [List.length_map, List.length_append, List.length_nil, List.length_cons, List.map_nil, List.map_cons, xOS, xON] <;> omega) rfl) (by simp only [List.length_map, List.length_append, List.length_nil, List.length_cons, List.map_nil, List.map_cons, xOS, xON] <;> omega) ?_
     simp only [↓reduceIte, reduceCtorEq, nA, nS, nM, nE, nL, nT, nB, iT, iN, iE, and_self, SR, SV, ENMB]
     refine Mir.use (e := e) ?_ h
     refine Mir.guard fun q110 => Mir.region fun e h => ?_
     simp only [↓reduceIte, reduceCtorEq, nA, nS, nM, nE, nL, nT, nB, iT, iN, iE, and_self, SR, SV, ENMB]
     refine specS_wbN (b := 10) (n := (v142 ++ y145.1 ++ [10]).length) rfl rfl (lns_at (by simp only [List.length_map, List.length_append, List.length_nil, List.length_cons, List.map_nil, List.map_cons, xOS, xON] <;> omega)) (ok2 q110 (by simp only [List.length_map, List.length_append, List.length_nil, List.length_cons, List.map_nil, List.map_cons, xOS, xON] <;> omega) rfl) (by simp only [List.length_map, List.length_append, List.length_nil, List.length_cons, List.map_nil, List.map_cons, xOS, xON] <;> omega) ?_
     simp only [↓reduceIte, reduceCtorEq, nA, nS, nM, nE, nL, nT, nB, iT, iN, iE, and_self, SR, SV, ENMB]
     refine Mir.use (e := e) ?_ h
     refine Mir.region fun e h => ?_
     simp only [↓reduceIte, reduceCtorEq, nA, nS, nM, nE, nL, nT, nB, iT, iN, iE, and_self, SR, SV, ENMB]
     cases h
     simp only [↓reduceIte, reduceCtorEq, nA, nE, nL, and_self, and_true, true_and, SL, ENMB, Tryz.results10, qr98]
   ·intro v142 qd99
    refine Mir.seqK (Mir.region fun e h => ?_)
    simp only [↓reduceIte, reduceCtorEq, nA, nS, nM, nE, nL, nT, nB, iT, iN, iE, and_self, SR, SV, qd99, ENMB]
    refine Mir.use (e := e) ?_ h
    refine Mir.seqK (Mir.condF rfl (Mir.exit fun e h => ?_))
    cases h
    simp only [↓reduceIte, reduceCtorEq, nA, nE, nL, and_self, and_true, true_and, SL, ENMB, Tryz.results10]
  ·intro v123
   refine Mir.toK (Mir.seqK (Mir.region fun e h => ?_))
   simp only [↓reduceIte, reduceCtorEq, nA, nS, nM, nE, nL, nT, nB, iT, iN, iE, and_self, SR, SV, ENMB]
   refine specS_st rfl (lns_at (by simp only [List.length_map, List.length_append, List.length_nil, List.length_cons, List.map_nil, List.map_cons, xOS, xON] <;> omega)) ?_
   simp only [↓reduceIte, reduceCtorEq, nA, nS, nM, nE, nL, nT, nB, iT, iN, iE, and_self, SR, SV, ENMB]
   refine Mir.use (e := e) ?_ h
   refine Mir.ret fun e h => ?_
   cases h
   simp only [↓reduceIte, reduceCtorEq, nA, nE, nL, and_self, and_true, true_and, SL, ENMB, Tryz.results10]

def r41_Print (a0 : (List ApiBlock)) : Option ((List UInt8) × Int) :=
  bindX (guardO (okIdx a0) (
      rangeX (fun (i141 : Nat) (e143 : ApiBlock) (v142 : (List UInt8)) =>
        bindO (r41_Format e143) fun (y145 : (List UInt8) × Int) =>
        if (y145.2 != 0) = true then
          some (.ret (.ret ([], y145.2)))
        else
          guardO (okStr v142 y145.1) (
          guardO (okStr (v142 ++ y145.1) [10]) (
          some (.go ((v142 ++ y145.1) ++ [10]))))) (fun (v142 : (List UInt8)) => some (.go v142)) a0 0 [])) fun (v123 : (List UInt8)) =>
  some (v123, 0)
theorem r41_Print_spec {a0 : (List ApiBlock)} {y : (List UInt8) × Int} (h : r41_Print a0 = some y) : Spec gP 11 [.d (.list (List.map encApiBlock a0))] (.tuple [.d (.str y.1), .d (.int .i64 y.2)]) := by
  refine spec_mir Tryz.func11 rfl (by kernel_rfl) (by kernel_rfl) (fun y : (List UInt8) × Int => .tuple [.d (.str y.1), .d (.int .i64 y.2)]) ?_ h
  unfold r41_Print
  simp only [List.replicate, List.length, nS, nA, Tryz.ntmps11, SV]
  refine Mir.seqK (Mir.region fun e h => ?_)
  simp only [↓reduceIte, reduceCtorEq, nA, nS, nM, nE, nL, nT, nB, iT, iN, iE, and_self, SR, SV, ENMB]
  refine Mir.use (e := e) ?_ h
  refine Mir.seqK (Mir.region fun e h => ?_)
  simp only [↓reduceIte, reduceCtorEq, nA, nS, nM, nE, nL, nT, nB, iT, iN, iE, and_self, SR, SV, ENMB]
  refine Mir.use (e := e) ?_ h
  refine Mir.seqK (Mir.seqK (Mir.region fun e h => ?_))
  simp only [↓reduceIte, reduceCtorEq, nA, nS, nM, nE, nL, nT, nB, iT, iN, iE, and_self, SR, SV, ENMB]
  refine Mir.use (e := e) ?_ h
  refine Mir.join (fun v123 : (List UInt8) => [U, U, U, U, .d (.str v123), U, U, U, U, U, U, U, U, U, U, U, U, U, U, U, U, U, U, U, U, U, U, U, U, U]) (fun v123 : (List UInt8) => ⟨[], []⟩) (fun _ => rfl) ?_ ?_
  ·refine Mir.block (Mir.guard fun qg100 => Mir.range (fun (i141 : Nat) (v142 : (List UInt8)) => [.d (.list (List.map encApiBlock a0)), U, U, U, .d (.str v142), .d (.int .i64 (i141 : Int)), U, U, U, U, U, U, U, U, U, U, U, U, U, U, U, U, U, U, U, U, U, U, U, U]) (fun (i141 : Nat) (v142 : (List UInt8)) => ⟨[], []⟩) qg100 (fun _ _ => rfl) (by simp only [↓reduceIte, reduceCtorEq, nA, nE, nL, and_self, and_true, true_and, SL, ENMB, (nr rfl : ((0 : Nat) : Int) = 0)]) (by simp only [↓reduceIte, reduceCtorEq, nA, nE, nL, and_self, and_true, true_and, SL, ENMB, (nr rfl : ((0 : Nat) : Int) = 0)]) ?_ ?_)
   ·intro i141 e143 v142 qr98
    refine Mir.seqK (Mir.seqK (Mir.region fun e h => ?_))
    simp only [↓reduceIte, reduceCtorEq, nA, nS, nM, nE, nL, nT, nB, iT, iN, iE, and_self, SR, SV, und_23, qr98, ENMB]
    refine Mir.use (e := e) ?_ h
    refine Mir.condT rfl (Mir.skip (Mir.toK (Mir.seqK (Mir.block (Mir.seqK (Mir.bind fun y145 hy106 => Mir.region fun e h => ?_))))))
    simp only [↓reduceIte, reduceCtorEq, nA, nS, nM, nE, nL, nT, nB, iT, iN, iE, and_self, SR, SV, und_23, sz_36, qr98, Int.toNat_natCast, ag_36, ENMB]
    refine SpecS.by (r41_Format_spec hy106) (by simp only [↓reduceIte, reduceCtorEq, nA, nE, nL, and_self, and_true, true_and, SL, ENMB]) ?_
    simp only [↓reduceIte, reduceCtorEq, nA, nS, nM, nE, nL, nT, nB, iT, iN, iE, and_self, SR, SV, ENMB]
    refine Mir.use (e := e) ?_ h
    refine Mir.seqK (Mir.seqK (Mir.region fun e h => ?_))
    simp only [↓reduceIte, reduceCtorEq, nA, nS, nM, nE, nL, nT, nB, iT, iN, iE, and_self, SR, SV, ENMB]
    refine Mir.use (e := e) ?_ h
    refine Mir.cond rfl (fun hb108 => ?_) (fun hb108 => ?_)
    ·refine Mir.seqK (Mir.region fun e h => ?_)
     simp only [↓reduceIte, reduceCtorEq, nA, nS, nM, nE, nL, nT, nB, iT, iN, iE, and_self, SR, SV, ENMB]
     refine Mir.use (e := e) ?_ h
     refine Mir.ret fun e h => ?_
     cases h
     simp only [↓reduceIte, reduceCtorEq, nA, nE, nL, and_self, and_true, true_and, SL, ENMB, Tryz.results11]
    ·refine Mir.skip (Mir.toK (Mir.guard fun q109 => ?_))
     replace q109 := okStr_ok q109
     refine Mir.guard fun q110 => ?_
     replace q110 := okStr_ok q110
     try simp only [lm, xNA, xCA, xAN, xLC, xLN, xAC, xAL, nA, Nat.zero_add] at q110
     refine Mir.region fun e h => ?_
     simp only [↓reduceIte, reduceCtorEq, nA, nS, nM, nE, nL, nT, nB, iT, iN, iE, and_self, SR, SV, q109, q110, ENMB]
     refine Mir.use (e := e) ?_ h
     refine Mir.region fun e h => ?_
     simp only [↓reduceIte, reduceCtorEq, nA, nS, nM, nE, nL, nT, nB, iT, iN, iE, and_self, SR, SV, ENMB]
     cases h
     simp only [↓reduceIte, reduceCtorEq, nA, nE, nL, and_self, and_true, true_and, SL, ENMB, Tryz.results11, qr98]
   ·intro v142 qd99
    refine Mir.seqK (Mir.seqK (Mir.region fun e h => ?_))
    simp only [↓reduceIte, reduceCtorEq, nA, nS, nM, nE, nL, nT, nB, iT, iN, iE, and_self, SR, SV, und_23, qd99, ENMB]
    refine Mir.use (e := e) ?_ h
    refine Mir.condF rfl (Mir.exit fun e h => ?_)
    cases h
    simp only [↓reduceIte, reduceCtorEq, nA, nE, nL, and_self, and_true, true_and, SL, ENMB, Tryz.results11]
  ·intro v123
   refine Mir.toK (Mir.seqK (Mir.region fun e h => ?_))
   simp only [↓reduceIte, reduceCtorEq, nA, nS, nM, nE, nL, nT, nB, iT, iN, iE, and_self, SR, SV, ENMB]
   refine Mir.use (e := e) ?_ h
   refine Mir.ret fun e h => ?_
   cases h
   simp only [↓reduceIte, reduceCtorEq, nA, nE, nL, and_self, and_true, true_and, SL, ENMB, Tryz.results11]

end Go.Proofs.YtijihbegfmkceaaGreatDoor
