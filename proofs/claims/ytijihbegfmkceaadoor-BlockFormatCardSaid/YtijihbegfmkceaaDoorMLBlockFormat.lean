/-
  Mirrors of functions, written by wip/mir.py.
-/
import Derived.Test.YtijihbegfmkceaaDoorGf
import Derived.Test.YtijihbegfmkceaaDoorTy
import Derived.Test.YtijihbegfmkceaaDoorGo
import Derived.Test.YtijihbegfmkceaaDoorMB
namespace Go.Proofs.YtijihbegfmkceaaDoor
open Go.RowKit
open Nat renaming reduceAdd → nA, reduceSub → nS, reduceMul → nM, reduceEqDiff → nE, reduceLeDiff → nL, reduceLT → nT, reduceBEq → nB
open Int renaming reduceLT → iT, reduceToNat → iN, reduceEq → iE
set_option linter.unusedVariables false
set_option linter.unusedSimpArgs false
set_option maxRecDepth 100000

def l41_BlockFormat (a0 : ApiBlock) : Option Bool :=
  bindO (bindO (l41_awake ) fun (y101 : Bool) =>
      if y101 = true then
        bindO (r41_Few [a0] 1) fun (y102 : Bool) =>
        some (!y102)
      else
        some true) fun (v103 : Bool) =>
  if v103 = true then
    bindO (l41_awake ) fun (y105 : Bool) =>
    some y105
  else
    bindO (bk_Format a0) fun (y106 : (List UInt8) × Int) =>
    bindO (r41_Format a0) fun (y107 : (List UInt8) × Int) =>
    bindO (bindO (bk_Valid a0) fun (y108 : Int) =>
        bindO (r41_Valid a0) fun (y109 : Int) =>
        if (y108 != y109) = true then
          some true
        else
          if (y106.1 == y107.1) = true then
            some (y106.2 != y107.2)
          else
            some true) fun (v110 : Bool) =>
    if v110 = true then
      some false
    else
      if (y106.2 != 0) = true then
        some true
      else
        bindO (bk_Parse y106.1) fun (y111 : ApiBlock × Int × Int) =>
        bindO (if (y111.2.2 == 0) = true then
              if (y111.2.1 == 0) = true then
                bindO (r41_Equal y111.1 a0) fun (y112 : Bool) =>
                some y112
              else
                some false
            else
              some false) fun (v113 : Bool) =>
        some v113
theorem l41_BlockFormat_spec {a0 : ApiBlock} {y : Bool} (h : l41_BlockFormat a0 = some y) : Spec gP 5 [.agg [.d (.bool a0.Skip), .d (.list (List.map encApiWord a0.Words)), .d (.str a0.Comment)]] (.d (.bool y)) := by
  refine spec_mir Tryd.func5 rfl (by kernel_rfl) (by kernel_rfl) (fun y : Bool => .d (.bool y)) ?_ h
  unfold l41_BlockFormat
  simp only [List.replicate, List.length, nS, nA, Tryd.ntmps5, SV]
  refine Mir.seqK (Mir.region fun e h => ?_)
  simp only [↓reduceIte, reduceCtorEq, nA, nS, nM, nE, nL, nT, nB, iT, iN, iE, and_self, SR, SV, ENMB]
  refine Mir.use (e := e) ?_ h
  refine Mir.seqK (Mir.seqK (Mir.joinO (fun v103 : Bool => [U, .ptr 0 0, U, U, U, U, U, U, U, U, U, U, U, U, U, U, U, .d (.bool v103), U, U, U, U, U, U, U, U, U, U, U, U, U, U, U, U, U, U, U, U, U, U, U, U, U, U, U, U, U, U, U, U, U, U, U, U, U, U, U, U, U, U, U, U, U]) (fun v103 : Bool => ⟨[[.d (.bool a0.Skip), .d (.list (List.map encApiWord a0.Words)), .d (.str a0.Comment)]], []⟩) (fun _ => rfl) ?_ ?_))
  ·refine Mir.bind fun y101 hy1 => Mir.ite (fun hb2 => ?_) (fun hb2 => ?_)
   ·refine Mir.bind fun y102 hy3 => Mir.region fun e h => ?_
    simp only [↓reduceIte, reduceCtorEq, nA, nS, nM, nE, nL, nT, nB, iT, iN, iE, and_self, SR, SV, ENMB, hb2]
    refine SpecS.by (l41_awake_spec hy1) (rfl) ?_
    simp only [↓reduceIte, reduceCtorEq, nA, nS, nM, nE, nL, nT, nB, iT, iN, iE, and_self, SR, SV, ag_31, sz_31, und_33, zero_31, (nr rfl : okLen 3 = true), ENMB, hb2]
    refine SpecS.by (r41_Few_spec hy3) (by simp only [↓reduceIte, reduceCtorEq, nA, nE, nL, and_self, and_true, true_and, SL, ENMB, hb2]) ?_
    simp only [↓reduceIte, reduceCtorEq, nA, nS, nM, nE, nL, nT, nB, iT, iN, iE, and_self, SR, SV, ENMB, hb2]
    cases h
    simp only [↓reduceIte, reduceCtorEq, nA, nE, nL, and_self, and_true, true_and, SL, ENMB, hb2]
   ·refine Mir.region fun e h => ?_
    simp only [↓reduceIte, reduceCtorEq, nA, nS, nM, nE, nL, nT, nB, iT, iN, iE, and_self, SR, SV, ENMB, hb2]
    refine SpecS.by (l41_awake_spec hy1) (rfl) ?_
    simp only [↓reduceIte, reduceCtorEq, nA, nS, nM, nE, nL, nT, nB, iT, iN, iE, and_self, SR, SV, ENMB, hb2]
    cases h
    simp only [↓reduceIte, reduceCtorEq, nA, nE, nL, and_self, and_true, true_and, SL, ENMB, hb2]
  ·intro v103
   refine Mir.toK (Mir.cond rfl (fun hb6 => ?_) (fun hb6 => ?_))
   ·refine Mir.seqK (Mir.bind fun y105 hy7 => Mir.region fun e h => ?_)
    simp only [↓reduceIte, reduceCtorEq, nA, nS, nM, nE, nL, nT, nB, iT, iN, iE, and_self, SR, SV, ENMB]
    refine SpecS.by (l41_awake_spec hy7) (rfl) ?_
    simp only [↓reduceIte, reduceCtorEq, nA, nS, nM, nE, nL, nT, nB, iT, iN, iE, and_self, SR, SV, ENMB]
    refine Mir.use (e := e) ?_ h
    refine Mir.ret fun e h => ?_
    cases h
    simp only [↓reduceIte, reduceCtorEq, nA, nE, nL, and_self, and_true, true_and, SL, ENMB, Tryd.results5]
   ·refine Mir.skip (Mir.toK (Mir.seqK (Mir.bind fun y106 hy8 => Mir.region fun e h => ?_)))
    simp only [↓reduceIte, reduceCtorEq, nA, nS, nM, nE, nL, nT, nB, iT, iN, iE, and_self, SR, SV, ag_31, sz_31, ENMB]
    refine SpecS.by (bk_Format_spec hy8) (by simp only [↓reduceIte, reduceCtorEq, nA, nE, nL, and_self, and_true, true_and, SL, ENMB]) ?_
    simp only [↓reduceIte, reduceCtorEq, nA, nS, nM, nE, nL, nT, nB, iT, iN, iE, and_self, SR, SV, ENMB]
    refine Mir.use (e := e) ?_ h
    refine Mir.seqK (Mir.bind fun y107 hy9 => Mir.region fun e h => ?_)
    simp only [↓reduceIte, reduceCtorEq, nA, nS, nM, nE, nL, nT, nB, iT, iN, iE, and_self, SR, SV, ag_31, sz_31, ENMB]
    refine SpecS.by (r41_Format_spec hy9) (by simp only [↓reduceIte, reduceCtorEq, nA, nE, nL, and_self, and_true, true_and, SL, ENMB]) ?_
    simp only [↓reduceIte, reduceCtorEq, nA, nS, nM, nE, nL, nT, nB, iT, iN, iE, and_self, SR, SV, ENMB]
    refine Mir.use (e := e) ?_ h
    refine Mir.seqK (Mir.seqK (Mir.joinO (fun v110 : Bool => [U, .ptr 0 0, U, .d (.str y106.1), .d (.int .i64 y106.2), U, U, U, U, U, U, U, U, U, U, U, U, U, U, U, U, U, U, U, U, U, U, U, U, U, U, U, U, U, U, U, U, U, U, U, U, U, U, .d (.bool v110), U, U, U, U, U, U, U, U, U, U, U, U, U, U, U, U, U, U, U]) (fun v110 : Bool => ⟨[[.d (.bool a0.Skip), .d (.list (List.map encApiWord a0.Words)), .d (.str a0.Comment)]], []⟩) (fun _ => rfl) ?_ ?_))
    ·refine Mir.bind fun y108 hy10 => Mir.bind fun y109 hy11 => Mir.ite (fun hb12 => ?_) (fun hb12 => ?_)
     ·refine Mir.regionD [] (by kernel_rfl) fun e h => ?_
      simp only [↓reduceIte, reduceCtorEq, nA, nS, nM, nE, nL, nT, nB, iT, iN, iE, and_self, SR, SV, sepL_nil, sepL_cons, sepV_ne, sepV_d, sepV_i, true_and, Bool.and_self, ag_31, sz_31, ENMB, hb12]
      refine Spec.by (bk_Valid_spec hy10) (by simp only [↓reduceIte, reduceCtorEq, nA, nE, nL, and_self, and_true, true_and, SL, ENMB, hb12]) ?_
      simp only [↓reduceIte, reduceCtorEq, nA, nS, nM, nE, nL, nT, nB, iT, iN, iE, and_self, SR, SV, sepL_nil, sepL_cons, sepV_ne, sepV_d, sepV_i, true_and, Bool.and_self, ag_31, sz_31, ENMB, hb12]
      refine Spec.by (r41_Valid_spec hy11) (by simp only [↓reduceIte, reduceCtorEq, nA, nE, nL, and_self, and_true, true_and, SL, ENMB, hb12]) ?_
      simp only [↓reduceIte, reduceCtorEq, nA, nS, nM, nE, nL, nT, nB, iT, iN, iE, and_self, SR, SV, sepL_nil, sepL_cons, sepV_ne, sepV_d, sepV_i, true_and, Bool.and_self, ENMB, hb12]
      cases h
      simp only [↓reduceIte, reduceCtorEq, nA, nE, nL, and_self, and_true, true_and, SL, ENMB, hb12]
     ·refine Mir.ite (fun hb13 => ?_) (fun hb13 => ?_)
      ·refine Mir.regionD [] (by kernel_rfl) fun e h => ?_
       simp only [↓reduceIte, reduceCtorEq, nA, nS, nM, nE, nL, nT, nB, iT, iN, iE, and_self, SR, SV, sepL_nil, sepL_cons, sepV_ne, sepV_d, sepV_i, true_and, Bool.and_self, ag_31, sz_31, ENMB, hb12, hb13]
       refine Spec.by (bk_Valid_spec hy10) (by simp only [↓reduceIte, reduceCtorEq, nA, nE, nL, and_self, and_true, true_and, SL, ENMB, hb12, hb13]) ?_
       simp only [↓reduceIte, reduceCtorEq, nA, nS, nM, nE, nL, nT, nB, iT, iN, iE, and_self, SR, SV, sepL_nil, sepL_cons, sepV_ne, sepV_d, sepV_i, true_and, Bool.and_self, ag_31, sz_31, ENMB, hb12, hb13]
       refine Spec.by (r41_Valid_spec hy11) (by simp only [↓reduceIte, reduceCtorEq, nA, nE, nL, and_self, and_true, true_and, SL, ENMB, hb12, hb13]) ?_
       simp only [↓reduceIte, reduceCtorEq, nA, nS, nM, nE, nL, nT, nB, iT, iN, iE, and_self, SR, SV, sepL_nil, sepL_cons, sepV_ne, sepV_d, sepV_i, true_and, Bool.and_self, ENMB, hb12, hb13]
       cases h
       simp only [↓reduceIte, reduceCtorEq, nA, nE, nL, and_self, and_true, true_and, SL, ENMB, hb12, hb13]
      ·refine Mir.regionD [] (by kernel_rfl) fun e h => ?_
       simp only [↓reduceIte, reduceCtorEq, nA, nS, nM, nE, nL, nT, nB, iT, iN, iE, and_self, SR, SV, sepL_nil, sepL_cons, sepV_ne, sepV_d, sepV_i, true_and, Bool.and_self, ag_31, sz_31, ENMB, hb12, hb13]
       refine Spec.by (bk_Valid_spec hy10) (by simp only [↓reduceIte, reduceCtorEq, nA, nE, nL, and_self, and_true, true_and, SL, ENMB, hb12, hb13]) ?_
       simp only [↓reduceIte, reduceCtorEq, nA, nS, nM, nE, nL, nT, nB, iT, iN, iE, and_self, SR, SV, sepL_nil, sepL_cons, sepV_ne, sepV_d, sepV_i, true_and, Bool.and_self, ag_31, sz_31, ENMB, hb12, hb13]
       refine Spec.by (r41_Valid_spec hy11) (by simp only [↓reduceIte, reduceCtorEq, nA, nE, nL, and_self, and_true, true_and, SL, ENMB, hb12, hb13]) ?_
       simp only [↓reduceIte, reduceCtorEq, nA, nS, nM, nE, nL, nT, nB, iT, iN, iE, and_self, SR, SV, sepL_nil, sepL_cons, sepV_ne, sepV_d, sepV_i, true_and, Bool.and_self, ENMB, hb12, hb13]
       cases h
       simp only [↓reduceIte, reduceCtorEq, nA, nE, nL, and_self, and_true, true_and, SL, ENMB, hb12, hb13]
    ·intro v110
     refine Mir.toK (Mir.cond rfl (fun hb15 => ?_) (fun hb15 => ?_))
     ·refine Mir.seqK (Mir.region fun e h => ?_)
      simp only [↓reduceIte, reduceCtorEq, nA, nS, nM, nE, nL, nT, nB, iT, iN, iE, and_self, SR, SV, ENMB]
      refine Mir.use (e := e) ?_ h
      refine Mir.ret fun e h => ?_
      cases h
      simp only [↓reduceIte, reduceCtorEq, nA, nE, nL, and_self, and_true, true_and, SL, ENMB, Tryd.results5]
     ·refine Mir.skip (Mir.toK (Mir.seqK (Mir.seqK (Mir.region fun e h => ?_))))
      simp only [↓reduceIte, reduceCtorEq, nA, nS, nM, nE, nL, nT, nB, iT, iN, iE, and_self, SR, SV, ENMB]
      refine Mir.use (e := e) ?_ h
      refine Mir.cond rfl (fun hb17 => ?_) (fun hb17 => ?_)
      ·refine Mir.seqK (Mir.region fun e h => ?_)
       simp only [↓reduceIte, reduceCtorEq, nA, nS, nM, nE, nL, nT, nB, iT, iN, iE, and_self, SR, SV, ENMB]
       refine Mir.use (e := e) ?_ h
       refine Mir.ret fun e h => ?_
       cases h
       simp only [↓reduceIte, reduceCtorEq, nA, nE, nL, and_self, and_true, true_and, SL, ENMB, Tryd.results5]
      ·refine Mir.skip (Mir.toK (Mir.seqK (Mir.bind fun y111 hy18 => Mir.region fun e h => ?_)))
       simp only [↓reduceIte, reduceCtorEq, nA, nS, nM, nE, nL, nT, nB, iT, iN, iE, and_self, SR, SV, ENMB]
       refine SpecS.by (bk_Parse_spec hy18) (by simp only [↓reduceIte, reduceCtorEq, nA, nE, nL, and_self, and_true, true_and, SL, ENMB]) ?_
       simp only [↓reduceIte, reduceCtorEq, nA, nS, nM, nE, nL, nT, nB, iT, iN, iE, and_self, SR, SV, zero_31, sz_31, ENMB]
       refine Mir.use (e := e) ?_ h
       refine Mir.seqK (Mir.joinO (fun v113 : Bool => [U, U, .d (.bool v113), U, U, U, U, U, U, U, U, U, U, U, U, U, U, U, U, U, U, U, U, U, U, U, U, U, U, U, U, U, U, U, U, U, U, U, U, U, U, U, U, U, U, U, U, U, U, U, U, U, U, U, U, U, U, U, U, U, U, U, U]) (fun v113 : Bool => ⟨[[.d (.bool a0.Skip), .d (.list (List.map encApiWord a0.Words)), .d (.str a0.Comment)], [.d (.bool y111.1.Skip), .d (.list (List.map encApiWord y111.1.Words)), .d (.str y111.1.Comment)]], []⟩) (fun _ => rfl) ?_ ?_)
       ·refine Mir.ite (fun hb19 => ?_) (fun hb19 => ?_)
        ·refine Mir.ite (fun hb20 => ?_) (fun hb20 => ?_)
         ·refine Mir.bind fun y112 hy21 => Mir.region fun e h => ?_
          simp only [↓reduceIte, reduceCtorEq, nA, nS, nM, nE, nL, nT, nB, iT, iN, iE, and_self, SR, SV, ag_31, sz_31, ENMB, hb19, hb20]
          refine SpecS.by (r41_Equal_spec hy21) (by simp only [↓reduceIte, reduceCtorEq, nA, nE, nL, and_self, and_true, true_and, SL, ENMB, hb19, hb20]) ?_
          simp only [↓reduceIte, reduceCtorEq, nA, nS, nM, nE, nL, nT, nB, iT, iN, iE, and_self, SR, SV, ENMB, hb19, hb20]
          cases h
          simp only [↓reduceIte, reduceCtorEq, nA, nE, nL, and_self, and_true, true_and, SL, ENMB, hb19, hb20]
         ·refine Mir.region fun e h => ?_
          simp only [↓reduceIte, reduceCtorEq, nA, nS, nM, nE, nL, nT, nB, iT, iN, iE, and_self, SR, SV, ENMB, hb19, hb20]
          cases h
          simp only [↓reduceIte, reduceCtorEq, nA, nE, nL, and_self, and_true, true_and, SL, ENMB, hb19, hb20]
        ·refine Mir.region fun e h => ?_
         simp only [↓reduceIte, reduceCtorEq, nA, nS, nM, nE, nL, nT, nB, iT, iN, iE, and_self, SR, SV, ENMB, hb19]
         cases h
         simp only [↓reduceIte, reduceCtorEq, nA, nE, nL, and_self, and_true, true_and, SL, ENMB, hb19]
       ·intro v113
        refine Mir.toK (Mir.ret fun e h => ?_)
        cases h
        simp only [↓reduceIte, reduceCtorEq, nA, nE, nL, and_self, and_true, true_and, SL, ENMB, Tryd.results5]

theorem co_4 : Tryd.prog.cellsOf 4 = 1 := by kernel_rfl
theorem opn_4 : Opn Tryd.prog 4 eBool inBool := Opn.bool Tryd.underlying4
theorem co_5 : Tryd.prog.cellsOf 5 = 1 := by kernel_rfl
theorem opn_5 : Opn Tryd.prog 5 (eInt .u8) (inInt .u8) := Opn.int Tryd.underlying5
theorem co_2 : Tryd.prog.cellsOf 2 = 1 := by kernel_rfl
theorem opn_2 : Opn Tryd.prog 2 (eInt .i64) (inInt .i64) := Opn.int Tryd.underlying2
def inApiWord (x : ApiWord) : Prop := (inInt .u8) x.Letter ∧ (inInt .i64) x.Value
theorem co_65 : Tryd.prog.cellsOf 65 = 2 := by kernel_rfl
theorem opn_65 : Opn Tryd.prog 65 encApiWord inApiWord := by
  intro w H enc fuel cs x h
  obtain ⟨xs, n, _, _, hl, hxl, hf⟩ := DataW.trod_struct Tryd.underlying65 h
  have hxl' : xs.length = 2 := hxl
  obtain ⟨s0, r0, o0⟩ := Opn.field hf 0 5 0 1 rfl co_5 (by omega) opn_5
  obtain ⟨s1, r1, o1⟩ := Opn.field hf 1 2 1 1 rfl co_2 (by omega) opn_2
  refine ⟨⟨s0, s1⟩, ?_, o0, o1⟩
  exact (RelC.cut 0 1 r0 rfl (RelC.cut 1 1 r1 rfl (RelC.nil (n := 2) (by rw [hl, co_65]; exact Nat.le_refl _))))
theorem co_29 : Tryd.prog.cellsOf 29 = 1 := by kernel_rfl
theorem opn_29 : Opn Tryd.prog 29 (eList encApiWord) (inList inApiWord) := Opn.slice Tryd.underlying29 opn_65 (fun _ => (rfl : _ = 2).trans co_65.symm) (by rw [co_65]; decide)
theorem co_9 : Tryd.prog.cellsOf 9 = 1 := by kernel_rfl
theorem opn_9 : Opn Tryd.prog 9 eStr inStr := Opn.str Tryd.underlying9
def inApiBlock (x : ApiBlock) : Prop := inBool x.Skip ∧ (inList inApiWord) x.Words ∧ inStr x.Comment
theorem co_31 : Tryd.prog.cellsOf 31 = 3 := by kernel_rfl
theorem opn_31 : Opn Tryd.prog 31 encApiBlock inApiBlock := by
  intro w H enc fuel cs x h
  obtain ⟨xs, n, _, _, hl, hxl, hf⟩ := DataW.trod_struct Tryd.underlying31 h
  have hxl' : xs.length = 3 := hxl
  obtain ⟨s0, r0, o0⟩ := Opn.field hf 0 4 0 1 rfl co_4 (by omega) opn_4
  obtain ⟨s1, r1, o1⟩ := Opn.field hf 1 29 1 1 rfl co_29 (by omega) opn_29
  obtain ⟨s2, r2, o2⟩ := Opn.field hf 2 9 2 1 rfl co_9 (by omega) opn_9
  refine ⟨⟨s0, s1, s2⟩, ?_, o0, o1, o2⟩
  exact (RelC.cut 0 1 r0 rfl (RelC.cut 1 1 r1 rfl (RelC.cut 2 1 r2 rfl (RelC.nil (n := 3) (by rw [hl, co_31]; exact Nat.le_refl _)))))
end Go.Proofs.YtijihbegfmkceaaDoor
