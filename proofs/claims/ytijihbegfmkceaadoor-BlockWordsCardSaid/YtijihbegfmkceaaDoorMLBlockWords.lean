/-
  Mirrors of functions, written by wip/mir.py.
-/
import Derived.Test.YtijihbegfmkceaaDoorGf
import Derived.Test.YtijihbegfmkceaaDoorTy
import Derived.Test.YtijihbegfmkceaaDoorGo
import Derived.Test.YtijihbegfmkceaaDoorMB
namespace Go.Proofs.YtijihbegfmkceaaDoor
open Go.RowKit
open Nat renaming reduceAdd → nA, reduceSub → nS, reduceMul → nM, reduceEqDiff → nE, reduceLeDiff → nL, reduceLT → nT, reduceBEq → nB
open Int renaming reduceLT → iT, reduceToNat → iN, reduceEq → iE
set_option linter.unusedVariables false
set_option linter.unusedSimpArgs false
set_option maxRecDepth 100000

def l41_BlockWords (a0 : ApiBlock) (a1 : ApiBlock) (a2 : Int) : Option Bool :=
  bindO (bindO (l41_awake ) fun (y101 : Bool) =>
      if y101 = true then
        bindO (r41_Few [a0, a1] 2) fun (y102 : Bool) =>
        some (!y102)
      else
        some true) fun (v103 : Bool) =>
  if v103 = true then
    bindO (l41_awake ) fun (y105 : Bool) =>
    some y105
  else
    bindO (bk_Find a0 a2) fun (y106 : Int × Bool) =>
    bindO (r41_Find a0 a2) fun (y107 : Int × Bool) =>
    bindO (if (y106.1 == y107.1) = true then
          if (y106.2 == y107.2) = true then
            bindO (bk_Codes a0 a2) fun (y108 : (List Int)) =>
            bindO (r41_Codes a0 a2) fun (y109 : (List Int)) =>
            bindO (l41_ints y108 y109) fun (y110 : Bool) =>
            if y110 = true then
              bindO (bk_Equal a0 a1) fun (y111 : Bool) =>
              bindO (r41_Equal a0 a1) fun (y112 : Bool) =>
              if (y111 == y112) = true then
                bindO (bk_Equal a0 a0) fun (y113 : Bool) =>
                some y113
              else
                some false
            else
              some false
          else
            some false
        else
          some false) fun (v114 : Bool) =>
    some v114
theorem l41_BlockWords_spec {a0 : ApiBlock} {a1 : ApiBlock} {a2 : Int} {y : Bool} (h : l41_BlockWords a0 a1 a2 = some y) : Spec gP 8 [.agg [.d (.bool a0.Skip), .d (.list (List.map encApiWord a0.Words)), .d (.str a0.Comment)], .agg [.d (.bool a1.Skip), .d (.list (List.map encApiWord a1.Words)), .d (.str a1.Comment)], .d (.int .u8 a2)] (.d (.bool y)) := by
  refine spec_mir Tryd.func8 rfl (by kernel_rfl) (by kernel_rfl) (fun y : Bool => .d (.bool y)) ?_ h
  unfold l41_BlockWords
  simp only [List.replicate, List.length, nS, nA, Tryd.ntmps8, SV]
  refine Mir.seqK (Mir.region fun e h => ?_)
  simp only [↓reduceIte, reduceCtorEq, nA, nS, nM, nE, nL, nT, nB, iT, iN, iE, and_self, SR, SV, ENMB]
  refine Mir.use (e := e) ?_ h
  refine Mir.seqK (Mir.seqK (Mir.joinO (fun v103 : Bool => [U, U, .d (.int .u8 a2), .ptr 0 0, .ptr 1 0, U, U, U, U, U, U, U, U, U, U, U, U, U, U, .d (.bool v103), U, U, U, U, U, U, U, U, U, U, U, U, U, U, U, U, U, U, U, U, U, U, U, U, U, U, U, U, U, U, U, U, U, U, U, U, U, U, U, U, U, U, U, U]) (fun v103 : Bool => ⟨[[.d (.bool a0.Skip), .d (.list (List.map encApiWord a0.Words)), .d (.str a0.Comment)], [.d (.bool a1.Skip), .d (.list (List.map encApiWord a1.Words)), .d (.str a1.Comment)]], []⟩) (fun _ => rfl) ?_ ?_))
  ·refine Mir.bind fun y101 hy1 => Mir.ite (fun hb2 => ?_) (fun hb2 => ?_)
   ·refine Mir.bind fun y102 hy3 => Mir.region fun e h => ?_
    simp only [↓reduceIte, reduceCtorEq, nA, nS, nM, nE, nL, nT, nB, iT, iN, iE, and_self, SR, SV, ENMB, hb2]
    refine SpecS.by (l41_awake_spec hy1) (rfl) ?_
    simp only [↓reduceIte, reduceCtorEq, nA, nS, nM, nE, nL, nT, nB, iT, iN, iE, and_self, SR, SV, ag_31, sz_31, und_33, zero_31, (nr rfl : okLen 6 = true), ENMB, hb2]
    refine SpecS.by (r41_Few_spec hy3) (by simp only [↓reduceIte, reduceCtorEq, nA, nE, nL, and_self, and_true, true_and, SL, ENMB, hb2]) ?_
    simp only [↓reduceIte, reduceCtorEq, nA, nS, nM, nE, nL, nT, nB, iT, iN, iE, and_self, SR, SV, ENMB, hb2]
    cases h
    simp only [↓reduceIte, reduceCtorEq, nA, nE, nL, and_self, and_true, true_and, SL, ENMB, hb2]
   ·refine Mir.region fun e h => ?_
    simp only [↓reduceIte, reduceCtorEq, nA, nS, nM, nE, nL, nT, nB, iT, iN, iE, and_self, SR, SV, ENMB, hb2]
    refine SpecS.by (l41_awake_spec hy1) (rfl) ?_
    simp only [↓reduceIte, reduceCtorEq, nA, nS, nM, nE, nL, nT, nB, iT, iN, iE, and_self, SR, SV, ENMB, hb2]
    cases h
    simp only [↓reduceIte, reduceCtorEq, nA, nE, nL, and_self, and_true, true_and, SL, ENMB, hb2]
  ·intro v103
   refine Mir.toK (Mir.cond rfl (fun hb6 => ?_) (fun hb6 => ?_))
   ·refine Mir.seqK (Mir.bind fun y105 hy7 => Mir.region fun e h => ?_)
    simp only [↓reduceIte, reduceCtorEq, nA, nS, nM, nE, nL, nT, nB, iT, iN, iE, and_self, SR, SV, ENMB]
    refine SpecS.by (l41_awake_spec hy7) (rfl) ?_
    simp only [↓reduceIte, reduceCtorEq, nA, nS, nM, nE, nL, nT, nB, iT, iN, iE, and_self, SR, SV, ENMB]
    refine Mir.use (e := e) ?_ h
    refine Mir.ret fun e h => ?_
    cases h
    simp only [↓reduceIte, reduceCtorEq, nA, nE, nL, and_self, and_true, true_and, SL, ENMB, Tryd.results8]
   ·refine Mir.skip (Mir.toK (Mir.seqK (Mir.bind fun y106 hy8 => Mir.region fun e h => ?_)))
    simp only [↓reduceIte, reduceCtorEq, nA, nS, nM, nE, nL, nT, nB, iT, iN, iE, and_self, SR, SV, ag_31, sz_31, ENMB]
    refine SpecS.by (bk_Find_spec hy8) (by simp only [↓reduceIte, reduceCtorEq, nA, nE, nL, and_self, and_true, true_and, SL, ENMB]) ?_
    simp only [↓reduceIte, reduceCtorEq, nA, nS, nM, nE, nL, nT, nB, iT, iN, iE, and_self, SR, SV, ENMB]
    refine Mir.use (e := e) ?_ h
    refine Mir.seqK (Mir.bind fun y107 hy9 => Mir.region fun e h => ?_)
    simp only [↓reduceIte, reduceCtorEq, nA, nS, nM, nE, nL, nT, nB, iT, iN, iE, and_self, SR, SV, ag_31, sz_31, ENMB]
    refine SpecS.by (r41_Find_spec hy9) (by simp only [↓reduceIte, reduceCtorEq, nA, nE, nL, and_self, and_true, true_and, SL, ENMB]) ?_
    simp only [↓reduceIte, reduceCtorEq, nA, nS, nM, nE, nL, nT, nB, iT, iN, iE, and_self, SR, SV, ENMB]
    refine Mir.use (e := e) ?_ h
    refine Mir.seqK (Mir.joinO (fun v114 : Bool => [U, U, U, U, U, U, .d (.bool v114), U, U, U, U, U, U, U, U, U, U, U, U, U, U, U, U, U, U, U, U, U, U, U, U, U, U, U, U, U, U, U, U, U, U, U, U, U, U, U, U, U, U, U, U, U, U, U, U, U, U, U, U, U, U, U, U, U]) (fun v114 : Bool => ⟨[[.d (.bool a0.Skip), .d (.list (List.map encApiWord a0.Words)), .d (.str a0.Comment)], [.d (.bool a1.Skip), .d (.list (List.map encApiWord a1.Words)), .d (.str a1.Comment)]], []⟩) (fun _ => rfl) ?_ ?_)
    ·refine Mir.ite (fun hb10 => ?_) (fun hb10 => ?_)
     ·refine Mir.ite (fun hb11 => ?_) (fun hb11 => ?_)
      ·refine Mir.bind fun y108 hy12 => Mir.bind fun y109 hy13 => Mir.bind fun y110 hy14 => Mir.ite (fun hb15 => ?_) (fun hb15 => ?_)
       ·refine Mir.bind fun y111 hy16 => Mir.bind fun y112 hy17 => Mir.ite (fun hb18 => ?_) (fun hb18 => ?_)
        ·refine Mir.bind fun y113 hy19 => Mir.regionD [] (by kernel_rfl) fun e h => ?_
         simp only [↓reduceIte, reduceCtorEq, nA, nS, nM, nE, nL, nT, nB, iT, iN, iE, and_self, SR, SV, sepL_nil, sepL_cons, sepV_ne, sepV_d, sepV_i, true_and, Bool.and_self, und_4, ag_31, sz_31, ENMB, hb10, hb11, hb15, hb18]
         refine Spec.by (bk_Codes_spec hy12) (by simp only [↓reduceIte, reduceCtorEq, nA, nE, nL, and_self, and_true, true_and, SL, ENMB, hb10, hb11, hb15, hb18]) ?_
         simp only [↓reduceIte, reduceCtorEq, nA, nS, nM, nE, nL, nT, nB, iT, iN, iE, and_self, SR, SV, sepL_nil, sepL_cons, sepV_ne, sepV_d, sepV_i, true_and, Bool.and_self, ag_31, sz_31, ENMB, hb10, hb11, hb15, hb18]
         refine Spec.by (r41_Codes_spec hy13) (by simp only [↓reduceIte, reduceCtorEq, nA, nE, nL, and_self, and_true, true_and, SL, ENMB, hb10, hb11, hb15, hb18]) ?_
         simp only [↓reduceIte, reduceCtorEq, nA, nS, nM, nE, nL, nT, nB, iT, iN, iE, and_self, SR, SV, sepL_nil, sepL_cons, sepV_ne, sepV_d, sepV_i, true_and, Bool.and_self, ENMB, hb10, hb11, hb15, hb18]
         refine Spec.by (l41_ints_spec hy14) (by simp only [↓reduceIte, reduceCtorEq, nA, nE, nL, and_self, and_true, true_and, SL, ENMB, hb10, hb11, hb15, hb18]) ?_
         simp only [↓reduceIte, reduceCtorEq, nA, nS, nM, nE, nL, nT, nB, iT, iN, iE, and_self, SR, SV, sepL_nil, sepL_cons, sepV_ne, sepV_d, sepV_i, true_and, Bool.and_self, ag_31, sz_31, ENMB, hb10, hb11, hb15, hb18]
         refine Spec.by (bk_Equal_spec hy16) (by simp only [↓reduceIte, reduceCtorEq, nA, nE, nL, and_self, and_true, true_and, SL, ENMB, hb10, hb11, hb15, hb18]) ?_
         simp only [↓reduceIte, reduceCtorEq, nA, nS, nM, nE, nL, nT, nB, iT, iN, iE, and_self, SR, SV, sepL_nil, sepL_cons, sepV_ne, sepV_d, sepV_i, true_and, Bool.and_self, ag_31, sz_31, ENMB, hb10, hb11, hb15, hb18]
         refine Spec.by (r41_Equal_spec hy17) (by simp only [↓reduceIte, reduceCtorEq, nA, nE, nL, and_self, and_true, true_and, SL, ENMB, hb10, hb11, hb15, hb18]) ?_
         simp only [↓reduceIte, reduceCtorEq, nA, nS, nM, nE, nL, nT, nB, iT, iN, iE, and_self, SR, SV, sepL_nil, sepL_cons, sepV_ne, sepV_d, sepV_i, true_and, Bool.and_self, und_4, ag_31, sz_31, ENMB, hb10, hb11, hb15, hb18]
         refine Spec.by (bk_Equal_spec hy19) (by simp only [↓reduceIte, reduceCtorEq, nA, nE, nL, and_self, and_true, true_and, SL, ENMB, hb10, hb11, hb15, hb18]) ?_
         simp only [↓reduceIte, reduceCtorEq, nA, nS, nM, nE, nL, nT, nB, iT, iN, iE, and_self, SR, SV, sepL_nil, sepL_cons, sepV_ne, sepV_d, sepV_i, true_and, Bool.and_self, ENMB, hb10, hb11, hb15, hb18]
         cases h
         simp only [↓reduceIte, reduceCtorEq, nA, nE, nL, and_self, and_true, true_and, SL, ENMB, hb10, hb11, hb15, hb18]
        ·refine Mir.regionD [] (by kernel_rfl) fun e h => ?_
         simp only [↓reduceIte, reduceCtorEq, nA, nS, nM, nE, nL, nT, nB, iT, iN, iE, and_self, SR, SV, sepL_nil, sepL_cons, sepV_ne, sepV_d, sepV_i, true_and, Bool.and_self, und_4, ag_31, sz_31, ENMB, hb10, hb11, hb15, hb18]
         refine Spec.by (bk_Codes_spec hy12) (by simp only [↓reduceIte, reduceCtorEq, nA, nE, nL, and_self, and_true, true_and, SL, ENMB, hb10, hb11, hb15, hb18]) ?_
         simp only [↓reduceIte, reduceCtorEq, nA, nS, nM, nE, nL, nT, nB, iT, iN, iE, and_self, SR, SV, sepL_nil, sepL_cons, sepV_ne, sepV_d, sepV_i, true_and, Bool.and_self, ag_31, sz_31, ENMB, hb10, hb11, hb15, hb18]
         refine Spec.by (r41_Codes_spec hy13) (by simp only [↓reduceIte, reduceCtorEq, nA, nE, nL, and_self, and_true, true_and, SL, ENMB, hb10, hb11, hb15, hb18]) ?_
         simp only [↓reduceIte, reduceCtorEq, nA, nS, nM, nE, nL, nT, nB, iT, iN, iE, and_self, SR, SV, sepL_nil, sepL_cons, sepV_ne, sepV_d, sepV_i, true_and, Bool.and_self, ENMB, hb10, hb11, hb15, hb18]
         refine Spec.by (l41_ints_spec hy14) (by simp only [↓reduceIte, reduceCtorEq, nA, nE, nL, and_self, and_true, true_and, SL, ENMB, hb10, hb11, hb15, hb18]) ?_
         simp only [↓reduceIte, reduceCtorEq, nA, nS, nM, nE, nL, nT, nB, iT, iN, iE, and_self, SR, SV, sepL_nil, sepL_cons, sepV_ne, sepV_d, sepV_i, true_and, Bool.and_self, ag_31, sz_31, ENMB, hb10, hb11, hb15, hb18]
         refine Spec.by (bk_Equal_spec hy16) (by simp only [↓reduceIte, reduceCtorEq, nA, nE, nL, and_self, and_true, true_and, SL, ENMB, hb10, hb11, hb15, hb18]) ?_
         simp only [↓reduceIte, reduceCtorEq, nA, nS, nM, nE, nL, nT, nB, iT, iN, iE, and_self, SR, SV, sepL_nil, sepL_cons, sepV_ne, sepV_d, sepV_i, true_and, Bool.and_self, ag_31, sz_31, ENMB, hb10, hb11, hb15, hb18]
         refine Spec.by (r41_Equal_spec hy17) (by simp only [↓reduceIte, reduceCtorEq, nA, nE, nL, and_self, and_true, true_and, SL, ENMB, hb10, hb11, hb15, hb18]) ?_
         simp only [↓reduceIte, reduceCtorEq, nA, nS, nM, nE, nL, nT, nB, iT, iN, iE, and_self, SR, SV, sepL_nil, sepL_cons, sepV_ne, sepV_d, sepV_i, true_and, Bool.and_self, und_4, ENMB, hb10, hb11, hb15, hb18]
         cases h
         simp only [↓reduceIte, reduceCtorEq, nA, nE, nL, and_self, and_true, true_and, SL, ENMB, hb10, hb11, hb15, hb18]
       ·refine Mir.regionD [] (by kernel_rfl) fun e h => ?_
        simp only [↓reduceIte, reduceCtorEq, nA, nS, nM, nE, nL, nT, nB, iT, iN, iE, and_self, SR, SV, sepL_nil, sepL_cons, sepV_ne, sepV_d, sepV_i, true_and, Bool.and_self, und_4, ag_31, sz_31, ENMB, hb10, hb11, hb15]
        refine Spec.by (bk_Codes_spec hy12) (by simp only [↓reduceIte, reduceCtorEq, nA, nE, nL, and_self, and_true, true_and, SL, ENMB, hb10, hb11, hb15]) ?_
        simp only [↓reduceIte, reduceCtorEq, nA, nS, nM, nE, nL, nT, nB, iT, iN, iE, and_self, SR, SV, sepL_nil, sepL_cons, sepV_ne, sepV_d, sepV_i, true_and, Bool.and_self, ag_31, sz_31, ENMB, hb10, hb11, hb15]
        refine Spec.by (r41_Codes_spec hy13) (by simp only [↓reduceIte, reduceCtorEq, nA, nE, nL, and_self, and_true, true_and, SL, ENMB, hb10, hb11, hb15]) ?_
        simp only [↓reduceIte, reduceCtorEq, nA, nS, nM, nE, nL, nT, nB, iT, iN, iE, and_self, SR, SV, sepL_nil, sepL_cons, sepV_ne, sepV_d, sepV_i, true_and, Bool.and_self, ENMB, hb10, hb11, hb15]
        refine Spec.by (l41_ints_spec hy14) (by simp only [↓reduceIte, reduceCtorEq, nA, nE, nL, and_self, and_true, true_and, SL, ENMB, hb10, hb11, hb15]) ?_
        simp only [↓reduceIte, reduceCtorEq, nA, nS, nM, nE, nL, nT, nB, iT, iN, iE, and_self, SR, SV, sepL_nil, sepL_cons, sepV_ne, sepV_d, sepV_i, true_and, Bool.and_self, ENMB, hb10, hb11, hb15]
        cases h
        simp only [↓reduceIte, reduceCtorEq, nA, nE, nL, and_self, and_true, true_and, SL, ENMB, hb10, hb11, hb15]
      ·refine Mir.regionD [] (by kernel_rfl) fun e h => ?_
       simp only [↓reduceIte, reduceCtorEq, nA, nS, nM, nE, nL, nT, nB, iT, iN, iE, and_self, SR, SV, sepL_nil, sepL_cons, sepV_ne, sepV_d, sepV_i, true_and, Bool.and_self, und_4, ENMB, hb10, hb11]
       cases h
       simp only [↓reduceIte, reduceCtorEq, nA, nE, nL, and_self, and_true, true_and, SL, ENMB, hb10, hb11]
     ·refine Mir.regionD [] (by kernel_rfl) fun e h => ?_
      simp only [↓reduceIte, reduceCtorEq, nA, nS, nM, nE, nL, nT, nB, iT, iN, iE, and_self, SR, SV, sepL_nil, sepL_cons, sepV_ne, sepV_d, sepV_i, true_and, Bool.and_self, ENMB, hb10]
      cases h
      simp only [↓reduceIte, reduceCtorEq, nA, nE, nL, and_self, and_true, true_and, SL, ENMB, hb10]
    ·intro v114
     refine Mir.toK (Mir.ret fun e h => ?_)
     cases h
     simp only [↓reduceIte, reduceCtorEq, nA, nE, nL, and_self, and_true, true_and, SL, ENMB, Tryd.results8]

theorem co_4 : Tryd.prog.cellsOf 4 = 1 := by kernel_rfl
theorem opn_4 : Opn Tryd.prog 4 eBool inBool := Opn.bool Tryd.underlying4
theorem co_5 : Tryd.prog.cellsOf 5 = 1 := by kernel_rfl
theorem opn_5 : Opn Tryd.prog 5 (eInt .u8) (inInt .u8) := Opn.int Tryd.underlying5
theorem co_2 : Tryd.prog.cellsOf 2 = 1 := by kernel_rfl
theorem opn_2 : Opn Tryd.prog 2 (eInt .i64) (inInt .i64) := Opn.int Tryd.underlying2
def inApiWord (x : ApiWord) : Prop := (inInt .u8) x.Letter ∧ (inInt .i64) x.Value
theorem co_65 : Tryd.prog.cellsOf 65 = 2 := by kernel_rfl
theorem opn_65 : Opn Tryd.prog 65 encApiWord inApiWord := by
  intro w H enc fuel cs x h
  obtain ⟨xs, n, _, _, hl, hxl, hf⟩ := DataW.trod_struct Tryd.underlying65 h
  have hxl' : xs.length = 2 := hxl
  obtain ⟨s0, r0, o0⟩ := Opn.field hf 0 5 0 1 rfl co_5 (by omega) opn_5
  obtain ⟨s1, r1, o1⟩ := Opn.field hf 1 2 1 1 rfl co_2 (by omega) opn_2
  refine ⟨⟨s0, s1⟩, ?_, o0, o1⟩
  exact (RelC.cut 0 1 r0 rfl (RelC.cut 1 1 r1 rfl (RelC.nil (n := 2) (by rw [hl, co_65]; exact Nat.le_refl _))))
theorem co_29 : Tryd.prog.cellsOf 29 = 1 := by kernel_rfl
theorem opn_29 : Opn Tryd.prog 29 (eList encApiWord) (inList inApiWord) := Opn.slice Tryd.underlying29 opn_65 (fun _ => (rfl : _ = 2).trans co_65.symm) (by rw [co_65]; decide)
theorem co_9 : Tryd.prog.cellsOf 9 = 1 := by kernel_rfl
theorem opn_9 : Opn Tryd.prog 9 eStr inStr := Opn.str Tryd.underlying9
def inApiBlock (x : ApiBlock) : Prop := inBool x.Skip ∧ (inList inApiWord) x.Words ∧ inStr x.Comment
theorem co_31 : Tryd.prog.cellsOf 31 = 3 := by kernel_rfl
theorem opn_31 : Opn Tryd.prog 31 encApiBlock inApiBlock := by
  intro w H enc fuel cs x h
  obtain ⟨xs, n, _, _, hl, hxl, hf⟩ := DataW.trod_struct Tryd.underlying31 h
  have hxl' : xs.length = 3 := hxl
  obtain ⟨s0, r0, o0⟩ := Opn.field hf 0 4 0 1 rfl co_4 (by omega) opn_4
  obtain ⟨s1, r1, o1⟩ := Opn.field hf 1 29 1 1 rfl co_29 (by omega) opn_29
  obtain ⟨s2, r2, o2⟩ := Opn.field hf 2 9 2 1 rfl co_9 (by omega) opn_9
  refine ⟨⟨s0, s1, s2⟩, ?_, o0, o1, o2⟩
  exact (RelC.cut 0 1 r0 rfl (RelC.cut 1 1 r1 rfl (RelC.cut 2 1 r2 rfl (RelC.nil (n := 3) (by rw [hl, co_31]; exact Nat.le_refl _)))))
end Go.Proofs.YtijihbegfmkceaaDoor
