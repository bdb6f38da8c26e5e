/-
  Mirrors of functions, written by wip/mir.py.
-/
import Derived.Test.YtijihbegfmkceaaGreatDoorGf
import Derived.Test.YtijihbegfmkceaaGreatDoorTy
import Derived.Test.YtijihbegfmkceaaGreatDoorGo
import Derived.Test.YtijihbegfmkceaaGreatDoorMB
namespace Go.Proofs.YtijihbegfmkceaaGreatDoor
open Go.RowKit
open Nat renaming reduceAdd → nA, reduceSub → nS, reduceMul → nM, reduceEqDiff → nE, reduceLeDiff → nL, reduceLT → nT, reduceBEq → nB
open Int renaming reduceLT → iT, reduceToNat → iN, reduceEq → iE
set_option linter.unusedVariables false
set_option linter.unusedSimpArgs false
set_option maxRecDepth 100000

def l41_BlockPrint (a0 : (List ApiBlock)) : Option Bool :=
  bindO (bindO (l41_awake ) fun (y101 : Bool) =>
      if y101 = true then
        bindO (r41_Few a0 20) fun (y102 : Bool) =>
        some (!y102)
      else
        some true) fun (v103 : Bool) =>
  if v103 = true then
    bindO (l41_awake ) fun (y105 : Bool) =>
    some y105
  else
    bindO (bk_Print a0) fun (y106 : (List UInt8) × Int) =>
    bindO (r41_Print a0) fun (y107 : (List UInt8) × Int) =>
    if (!(y106.1 == y107.1) || (y106.2 != y107.2)) = true then
      some false
    else
      bindO (bk_Program y106.1) fun (y108 : (List ApiBlock) × Int × Int) =>
      bindO (if (y106.2 != 0) = true then
            some true
          else
            if (y108.2.2 == 0) = true then
              if (y108.2.1 == 0) = true then
                bindO (r41_Same y108.1 a0) fun (y109 : Bool) =>
                some y109
              else
                some false
            else
              some false) fun (v110 : Bool) =>
      some v110
theorem l41_BlockPrint_spec {a0 : (List ApiBlock)} {y : Bool} (h : l41_BlockPrint a0 = some y) : Spec gP 4 [.d (.list (List.map encApiBlock a0))] (.d (.bool y)) := by
  refine spec_mir Tryz.func4 rfl (by kernel_rfl) (by kernel_rfl) (fun y : Bool => .d (.bool y)) ?_ h
  unfold l41_BlockPrint
  simp only [List.replicate, List.length, nS, nA, Tryz.ntmps4, SV]
  refine Mir.seqK (Mir.region fun e h => ?_)
  simp only [↓reduceIte, reduceCtorEq, nA, nS, nM, nE, nL, nT, nB, iT, iN, iE, and_self, SR, SV, ENMB]
  refine Mir.use (e := e) ?_ h
  refine Mir.seqK (Mir.seqK (Mir.joinO (fun v103 : Bool => [.d (.list (List.map encApiBlock a0)), U, U, U, U, U, U, U, U, U, U, U, U, U, U, U, .d (.bool v103), U, U, U, U, U, U, U, U, U, U, U, U, U, U, U, U, U, U, U, U, U, U, U, U, U, U, U, U, U, U, U, U, U, U, U, U, U, U, U, U]) (fun v103 : Bool => ⟨[], []⟩) (fun _ => rfl) ?_ ?_))
  ·refine Mir.bind fun y101 hy1 => Mir.ite (fun hb2 => ?_) (fun hb2 => ?_)
   ·refine Mir.bind fun y102 hy3 => Mir.region fun e h => ?_
    simp only [↓reduceIte, reduceCtorEq, nA, nS, nM, nE, nL, nT, nB, iT, iN, iE, and_self, SR, SV, ENMB, hb2]
    refine SpecS.by (l41_awake_spec hy1) (rfl) ?_
    simp only [↓reduceIte, reduceCtorEq, nA, nS, nM, nE, nL, nT, nB, iT, iN, iE, and_self, SR, SV, ENMB, hb2]
    refine SpecS.by (r41_Few_spec hy3) (by simp only [↓reduceIte, reduceCtorEq, nA, nE, nL, and_self, and_true, true_and, SL, ENMB, hb2]) ?_
    simp only [↓reduceIte, reduceCtorEq, nA, nS, nM, nE, nL, nT, nB, iT, iN, iE, and_self, SR, SV, ENMB, hb2]
    cases h
    simp only [↓reduceIte, reduceCtorEq, nA, nE, nL, and_self, and_true, true_and, SL, ENMB, hb2]
   ·refine Mir.region fun e h => ?_
    simp only [↓reduceIte, reduceCtorEq, nA, nS, nM, nE, nL, nT, nB, iT, iN, iE, and_self, SR, SV, ENMB, hb2]
    refine SpecS.by (l41_awake_spec hy1) (rfl) ?_
    simp only [↓reduceIte, reduceCtorEq, nA, nS, nM, nE, nL, nT, nB, iT, iN, iE, and_self, SR, SV, ENMB, hb2]
    cases h
    simp only [↓reduceIte, reduceCtorEq, nA, nE, nL, and_self, and_true, true_and, SL, ENMB, hb2]
  ·intro v103
   refine Mir.toK (Mir.cond rfl (fun hb6 => ?_) (fun hb6 => ?_))
   ·refine Mir.seqK (Mir.bind fun y105 hy7 => Mir.region fun e h => ?_)
    simp only [↓reduceIte, reduceCtorEq, nA, nS, nM, nE, nL, nT, nB, iT, iN, iE, and_self, SR, SV, ENMB]
    refine SpecS.by (l41_awake_spec hy7) (rfl) ?_
    simp only [↓reduceIte, reduceCtorEq, nA, nS, nM, nE, nL, nT, nB, iT, iN, iE, and_self, SR, SV, ENMB]
    refine Mir.use (e := e) ?_ h
    refine Mir.ret fun e h => ?_
    cases h
    simp only [↓reduceIte, reduceCtorEq, nA, nE, nL, and_self, and_true, true_and, SL, ENMB, Tryz.results4]
   ·refine Mir.skip (Mir.toK (Mir.seqK (Mir.bind fun y106 hy8 => Mir.region fun e h => ?_)))
    simp only [↓reduceIte, reduceCtorEq, nA, nS, nM, nE, nL, nT, nB, iT, iN, iE, and_self, SR, SV, ENMB]
    refine SpecS.by (bk_Print_spec hy8) (by simp only [↓reduceIte, reduceCtorEq, nA, nE, nL, and_self, and_true, true_and, SL, ENMB]) ?_
    simp only [↓reduceIte, reduceCtorEq, nA, nS, nM, nE, nL, nT, nB, iT, iN, iE, and_self, SR, SV, ENMB]
    refine Mir.use (e := e) ?_ h
    refine Mir.seqK (Mir.bind fun y107 hy9 => Mir.region fun e h => ?_)
    simp only [↓reduceIte, reduceCtorEq, nA, nS, nM, nE, nL, nT, nB, iT, iN, iE, and_self, SR, SV, ENMB]
    refine SpecS.by (r41_Print_spec hy9) (by simp only [↓reduceIte, reduceCtorEq, nA, nE, nL, and_self, and_true, true_and, SL, ENMB]) ?_
    simp only [↓reduceIte, reduceCtorEq, nA, nS, nM, nE, nL, nT, nB, iT, iN, iE, and_self, SR, SV, ENMB]
    refine Mir.use (e := e) ?_ h
    refine Mir.seqK (Mir.seqK (Mir.joinV [.d (.list (List.map encApiBlock a0)), U, U, .d (.str y106.1), .d (.int .i64 y106.2), U, U, U, U, U, U, U, U, U, U, U, U, U, U, U, U, U, U, U, U, U, U, U, U, U, U, U, U, U, U, .d (.bool (!(y106.1 == y107.1) || (y106.2 != y107.2))), U, U, U, U, U, U, U, U, U, U, U, U, U, U, U, U, U, U, U, U, U] ⟨[], []⟩ rfl ?_ ?_))
    ·refine SWs.region ?_
     rcases Bool.eq_false_or_eq_true (y106.1 == y107.1) with hb10 | hb10
     ·simp only [↓reduceIte, reduceCtorEq, nA, nS, nM, nE, nL, nT, nB, iT, iN, iE, and_self, SR, SV, SL, PB, hb10, ENMB]
     ·simp only [↓reduceIte, reduceCtorEq, nA, nS, nM, nE, nL, nT, nB, iT, iN, iE, and_self, SR, SV, SL, PB, hb10, ENMB]
    ·refine Mir.toK (Mir.cond rfl (fun hb12 => ?_) (fun hb12 => ?_))
     ·refine Mir.seqK (Mir.region fun e h => ?_)
      simp only [↓reduceIte, reduceCtorEq, nA, nS, nM, nE, nL, nT, nB, iT, iN, iE, and_self, SR, SV, ENMB]
      refine Mir.use (e := e) ?_ h
      refine Mir.ret fun e h => ?_
      cases h
      simp only [↓reduceIte, reduceCtorEq, nA, nE, nL, and_self, and_true, true_and, SL, ENMB, Tryz.results4]
     ·refine Mir.skip (Mir.toK (Mir.seqK (Mir.bind fun y108 hy13 => Mir.region fun e h => ?_)))
      simp only [↓reduceIte, reduceCtorEq, nA, nS, nM, nE, nL, nT, nB, iT, iN, iE, and_self, SR, SV, ENMB]
      refine SpecS.by (bk_Program_spec hy13) (by simp only [↓reduceIte, reduceCtorEq, nA, nE, nL, and_self, and_true, true_and, SL, ENMB]) ?_
      simp only [↓reduceIte, reduceCtorEq, nA, nS, nM, nE, nL, nT, nB, iT, iN, iE, and_self, SR, SV, ENMB]
      refine Mir.use (e := e) ?_ h
      refine Mir.seqK (Mir.joinO (fun v110 : Bool => [U, U, .d (.bool v110), U, U, U, U, U, U, U, U, U, U, U, U, U, U, U, U, U, U, U, U, U, U, U, U, U, U, U, U, U, U, U, U, U, U, U, U, U, U, U, U, U, U, U, U, U, U, U, U, U, U, U, U, U, U]) (fun v110 : Bool => ⟨[], []⟩) (fun _ => rfl) ?_ ?_)
      ·refine Mir.ite (fun hb14 => ?_) (fun hb14 => ?_)
       ·refine Mir.region fun e h => ?_
        simp only [↓reduceIte, reduceCtorEq, nA, nS, nM, nE, nL, nT, nB, iT, iN, iE, and_self, SR, SV, ENMB, hb14]
        cases h
        simp only [↓reduceIte, reduceCtorEq, nA, nE, nL, and_self, and_true, true_and, SL, ENMB, hb14]
       ·refine Mir.ite (fun hb15 => ?_) (fun hb15 => ?_)
        ·refine Mir.ite (fun hb16 => ?_) (fun hb16 => ?_)
         ·refine Mir.bind fun y109 hy17 => Mir.region fun e h => ?_
          simp only [↓reduceIte, reduceCtorEq, nA, nS, nM, nE, nL, nT, nB, iT, iN, iE, and_self, SR, SV, ENMB, hb14, hb15, hb16]
          refine SpecS.by (r41_Same_spec hy17) (by simp only [↓reduceIte, reduceCtorEq, nA, nE, nL, and_self, and_true, true_and, SL, ENMB, hb14, hb15, hb16]) ?_
          simp only [↓reduceIte, reduceCtorEq, nA, nS, nM, nE, nL, nT, nB, iT, iN, iE, and_self, SR, SV, ENMB, hb14, hb15, hb16]
          cases h
          simp only [↓reduceIte, reduceCtorEq, nA, nE, nL, and_self, and_true, true_and, SL, ENMB, hb14, hb15, hb16]
         ·refine Mir.region fun e h => ?_
          simp only [↓reduceIte, reduceCtorEq, nA, nS, nM, nE, nL, nT, nB, iT, iN, iE, and_self, SR, SV, ENMB, hb14, hb15, hb16]
          cases h
          simp only [↓reduceIte, reduceCtorEq, nA, nE, nL, and_self, and_true, true_and, SL, ENMB, hb14, hb15, hb16]
        ·refine Mir.region fun e h => ?_
         simp only [↓reduceIte, reduceCtorEq, nA, nS, nM, nE, nL, nT, nB, iT, iN, iE, and_self, SR, SV, ENMB, hb14, hb15]
         cases h
         simp only [↓reduceIte, reduceCtorEq, nA, nE, nL, and_self, and_true, true_and, SL, ENMB, hb14, hb15]
      ·intro v110
       refine Mir.toK (Mir.ret fun e h => ?_)
       cases h
       simp only [↓reduceIte, reduceCtorEq, nA, nE, nL, and_self, and_true, true_and, SL, ENMB, Tryz.results4]

theorem co_4 : Tryz.prog.cellsOf 4 = 1 := by kernel_rfl
theorem opn_4 : Opn Tryz.prog 4 eBool inBool := Opn.bool Tryz.underlying4
theorem co_5 : Tryz.prog.cellsOf 5 = 1 := by kernel_rfl
theorem opn_5 : Opn Tryz.prog 5 (eInt .u8) (inInt .u8) := Opn.int Tryz.underlying5
theorem co_2 : Tryz.prog.cellsOf 2 = 1 := by kernel_rfl
theorem opn_2 : Opn Tryz.prog 2 (eInt .i64) (inInt .i64) := Opn.int Tryz.underlying2
def inApiWord (x : ApiWord) : Prop := (inInt .u8) x.Letter ∧ (inInt .i64) x.Value
theorem co_58 : Tryz.prog.cellsOf 58 = 2 := by kernel_rfl
theorem opn_58 : Opn Tryz.prog 58 encApiWord inApiWord := by
  intro w H enc fuel cs x h
  obtain ⟨xs, n, _, _, hl, hxl, hf⟩ := DataW.trod_struct Tryz.underlying58 h
  have hxl' : xs.length = 2 := hxl
  obtain ⟨s0, r0, o0⟩ := Opn.field hf 0 5 0 1 rfl co_5 (by omega) opn_5
  obtain ⟨s1, r1, o1⟩ := Opn.field hf 1 2 1 1 rfl co_2 (by omega) opn_2
  refine ⟨⟨s0, s1⟩, ?_, o0, o1⟩
  exact (RelC.cut 0 1 r0 rfl (RelC.cut 1 1 r1 rfl (RelC.nil (n := 2) (by rw [hl, co_58]; exact Nat.le_refl _))))
theorem co_34 : Tryz.prog.cellsOf 34 = 1 := by kernel_rfl
theorem opn_34 : Opn Tryz.prog 34 (eList encApiWord) (inList inApiWord) := Opn.slice Tryz.underlying34 opn_58 (fun _ => (rfl : _ = 2).trans co_58.symm) (by rw [co_58]; decide)
theorem co_9 : Tryz.prog.cellsOf 9 = 1 := by kernel_rfl
theorem opn_9 : Opn Tryz.prog 9 eStr inStr := Opn.str Tryz.underlying9
def inApiBlock (x : ApiBlock) : Prop := inBool x.Skip ∧ (inList inApiWord) x.Words ∧ inStr x.Comment
theorem co_36 : Tryz.prog.cellsOf 36 = 3 := by kernel_rfl
theorem opn_36 : Opn Tryz.prog 36 encApiBlock inApiBlock := by
  intro w H enc fuel cs x h
  obtain ⟨xs, n, _, _, hl, hxl, hf⟩ := DataW.trod_struct Tryz.underlying36 h
  have hxl' : xs.length = 3 := hxl
  obtain ⟨s0, r0, o0⟩ := Opn.field hf 0 4 0 1 rfl co_4 (by omega) opn_4
  obtain ⟨s1, r1, o1⟩ := Opn.field hf 1 34 1 1 rfl co_34 (by omega) opn_34
  obtain ⟨s2, r2, o2⟩ := Opn.field hf 2 9 2 1 rfl co_9 (by omega) opn_9
  refine ⟨⟨s0, s1, s2⟩, ?_, o0, o1, o2⟩
  exact (RelC.cut 0 1 r0 rfl (RelC.cut 1 1 r1 rfl (RelC.cut 2 1 r2 rfl (RelC.nil (n := 3) (by rw [hl, co_36]; exact Nat.le_refl _)))))
theorem co_23 : Tryz.prog.cellsOf 23 = 1 := by kernel_rfl
theorem opn_23 : Opn Tryz.prog 23 (eList encApiBlock) (inList inApiBlock) := Opn.slice Tryz.underlying23 opn_36 (fun _ => (rfl : _ = 3).trans co_36.symm) (by rw [co_36]; decide)
end Go.Proofs.YtijihbegfmkceaaGreatDoor
