/-
  Mirrors of functions, written by wip/mir.py.
-/
import Derived.Test.YtiiglghanajfcaaDoorGf
import Derived.Test.YtiiglghanajfcaaDoorTy
import Derived.Test.YtiiglghanajfcaaDoorGo
import Derived.Test.YtiiglghanajfcaaDoorMB
namespace Go.Proofs.YtiiglghanajfcaaDoor
open Go.RowKit
open Nat renaming reduceAdd → nA, reduceSub → nS, reduceMul → nM, reduceEqDiff → nE, reduceLeDiff → nL, reduceLT → nT, reduceBEq → nB
open Int renaming reduceLT → iT, reduceToNat → iN, reduceEq → iE
set_option linter.unusedVariables false
set_option linter.unusedSimpArgs false
set_option maxRecDepth 100000

def l45_TableValid (a0 : R45Table) : Option Bool :=
  bindO (bindO (l45_awake ) fun (y101 : Bool) =>
      if y101 = true then
        some (decide ((a0.Lengths.length : Int) > 40))
      else
        some true) fun (v102 : Bool) =>
  if v102 = true then
    bindO (l45_awake ) fun (y104 : Bool) =>
    some y104
  else
    bindO (l45_theirs a0) fun (y105 : TableTable) =>
    bindO (tb_Valid y105) fun (y106 : Int) =>
    bindO (r45_Valid a0) fun (y107 : Int) =>
    some (y106 == y107)
theorem l45_TableValid_spec {a0 : R45Table} {y : Bool} (h : l45_TableValid a0 = some y) : Spec gP 3 [.agg [.d (.int .i64 a0.Work.e0.X), .d (.int .i64 a0.Work.e0.Y), .d (.int .i64 a0.Work.e0.Z), .d (.int .i64 a0.Work.e1.X), .d (.int .i64 a0.Work.e1.Y), .d (.int .i64 a0.Work.e1.Z), .d (.int .i64 a0.Work.e2.X), .d (.int .i64 a0.Work.e2.Y), .d (.int .i64 a0.Work.e2.Z), .d (.int .i64 a0.Work.e3.X), .d (.int .i64 a0.Work.e3.Y), .d (.int .i64 a0.Work.e3.Z), .d (.int .i64 a0.Work.e4.X), .d (.int .i64 a0.Work.e4.Y), .d (.int .i64 a0.Work.e4.Z), .d (.int .i64 a0.Work.e5.X), .d (.int .i64 a0.Work.e5.Y), .d (.int .i64 a0.Work.e5.Z), .d (.list (List.map encR45Length a0.Lengths))]] (.d (.bool y)) := by
  refine spec_mir Tryd.func3 rfl (by kernel_rfl) (by kernel_rfl) (fun y : Bool => .d (.bool y)) ?_ h
  unfold l45_TableValid
  simp only [List.replicate, List.length, nS, nA, Tryd.ntmps3, SV]
  refine Mir.seqK (Mir.region fun e h => ?_)
  simp only [↓reduceIte, reduceCtorEq, nA, nS, nM, nE, nL, nT, nB, iT, iN, iE, and_self, SR, SV, ENMB]
  refine Mir.use (e := e) ?_ h
  refine Mir.seqK (Mir.seqK (Mir.joinO (fun v102 : Bool => [U, .ptr 0 0, U, U, U, U, U, U, U, U, .d (.bool v102), U, U, U, U, U, U, U]) (fun v102 : Bool => ⟨[[.d (.int .i64 a0.Work.e0.X), .d (.int .i64 a0.Work.e0.Y), .d (.int .i64 a0.Work.e0.Z), .d (.int .i64 a0.Work.e1.X), .d (.int .i64 a0.Work.e1.Y), .d (.int .i64 a0.Work.e1.Z), .d (.int .i64 a0.Work.e2.X), .d (.int .i64 a0.Work.e2.Y), .d (.int .i64 a0.Work.e2.Z), .d (.int .i64 a0.Work.e3.X), .d (.int .i64 a0.Work.e3.Y), .d (.int .i64 a0.Work.e3.Z), .d (.int .i64 a0.Work.e4.X), .d (.int .i64 a0.Work.e4.Y), .d (.int .i64 a0.Work.e4.Z), .d (.int .i64 a0.Work.e5.X), .d (.int .i64 a0.Work.e5.Y), .d (.int .i64 a0.Work.e5.Z), .d (.list (List.map encR45Length a0.Lengths))]], []⟩) (fun _ => rfl) ?_ ?_))
  ·refine Mir.bind fun y101 hy1 => Mir.ite (fun hb2 => ?_) (fun hb2 => ?_)
   ·refine Mir.region fun e h => ?_
    simp only [↓reduceIte, reduceCtorEq, nA, nS, nM, nE, nL, nT, nB, iT, iN, iE, and_self, SR, SV, ENMB, hb2]
    refine SpecS.by (l45_awake_spec hy1) (rfl) ?_
    simp only [↓reduceIte, reduceCtorEq, nA, nS, nM, nE, nL, nT, nB, iT, iN, iE, and_self, SR, SV, fld_27_1, sz_25, ag_25, und_25, ENMB, hb2]
    cases h
    simp only [↓reduceIte, reduceCtorEq, nA, nE, nL, and_self, and_true, true_and, SL, ENMB, hb2]
   ·refine Mir.region fun e h => ?_
    simp only [↓reduceIte, reduceCtorEq, nA, nS, nM, nE, nL, nT, nB, iT, iN, iE, and_self, SR, SV, ENMB, hb2]
    refine SpecS.by (l45_awake_spec hy1) (rfl) ?_
    simp only [↓reduceIte, reduceCtorEq, nA, nS, nM, nE, nL, nT, nB, iT, iN, iE, and_self, SR, SV, ENMB, hb2]
    cases h
    simp only [↓reduceIte, reduceCtorEq, nA, nE, nL, and_self, and_true, true_and, SL, ENMB, hb2]
  ·intro v102
   refine Mir.toK (Mir.cond rfl (fun hb5 => ?_) (fun hb5 => ?_))
   ·refine Mir.seqK (Mir.bind fun y104 hy6 => Mir.region fun e h => ?_)
    simp only [↓reduceIte, reduceCtorEq, nA, nS, nM, nE, nL, nT, nB, iT, iN, iE, and_self, SR, SV, ENMB]
    refine SpecS.by (l45_awake_spec hy6) (rfl) ?_
    simp only [↓reduceIte, reduceCtorEq, nA, nS, nM, nE, nL, nT, nB, iT, iN, iE, and_self, SR, SV, ENMB]
    refine Mir.use (e := e) ?_ h
    refine Mir.ret fun e h => ?_
    cases h
    simp only [↓reduceIte, reduceCtorEq, nA, nE, nL, and_self, and_true, true_and, SL, ENMB, Tryd.results3]
   ·refine Mir.skip (Mir.toK (Mir.seqK (Mir.bind fun y105 hy7 => Mir.bind fun y106 hy8 => Mir.bind fun y107 hy9 => Mir.regionD [] (by kernel_rfl) fun e h => ?_)))
    simp only [↓reduceIte, reduceCtorEq, nA, nS, nM, nE, nL, nT, nB, iT, iN, iE, and_self, SR, SV, sepL_nil, sepL_cons, sepV_ne, sepV_d, sepV_i, true_and, Bool.and_self, ag_27, sz_27, ENMB]
    refine Spec.by (l45_theirs_spec hy7) (by simp only [↓reduceIte, reduceCtorEq, nA, nE, nL, and_self, and_true, true_and, SL, ENMB]) ?_
    simp only [↓reduceIte, reduceCtorEq, nA, nS, nM, nE, nL, nT, nB, iT, iN, iE, and_self, SR, SV, sepL_nil, sepL_cons, sepV_ne, sepV_d, sepV_i, true_and, Bool.and_self, ENMB]
    refine Spec.by (tb_Valid_spec hy8) (by simp only [↓reduceIte, reduceCtorEq, nA, nE, nL, and_self, and_true, true_and, SL, ENMB]) ?_
    simp only [↓reduceIte, reduceCtorEq, nA, nS, nM, nE, nL, nT, nB, iT, iN, iE, and_self, SR, SV, sepL_nil, sepL_cons, sepV_ne, sepV_d, sepV_i, true_and, Bool.and_self, ag_27, sz_27, ENMB]
    refine Spec.by (r45_Valid_spec hy9) (by simp only [↓reduceIte, reduceCtorEq, nA, nE, nL, and_self, and_true, true_and, SL, ENMB]) ?_
    simp only [↓reduceIte, reduceCtorEq, nA, nS, nM, nE, nL, nT, nB, iT, iN, iE, and_self, SR, SV, sepL_nil, sepL_cons, sepV_ne, sepV_d, sepV_i, true_and, Bool.and_self, ENMB]
    refine Mir.use (e := e) ?_ h
    refine Mir.ret fun e h => ?_
    cases h
    simp only [↓reduceIte, reduceCtorEq, nA, nE, nL, and_self, and_true, true_and, SL, ENMB, Tryd.results3]

theorem co_2 : Tryd.prog.cellsOf 2 = 1 := by kernel_rfl
theorem opn_2 : Opn Tryd.prog 2 (eInt .i64) (inInt .i64) := Opn.int Tryd.underlying2
def inApiPos (x : ApiPos) : Prop := (inInt .i64) x.X ∧ (inInt .i64) x.Y ∧ (inInt .i64) x.Z
theorem co_23 : Tryd.prog.cellsOf 23 = 3 := by kernel_rfl
theorem opn_23 : Opn Tryd.prog 23 encApiPos inApiPos := by
  intro w H enc fuel cs x h
  obtain ⟨xs, n, _, _, hl, hxl, hf⟩ := DataW.trod_struct Tryd.underlying23 h
  have hxl' : xs.length = 3 := hxl
  obtain ⟨s0, r0, o0⟩ := Opn.field hf 0 2 0 1 rfl co_2 (by omega) opn_2
  obtain ⟨s1, r1, o1⟩ := Opn.field hf 1 2 1 1 rfl co_2 (by omega) opn_2
  obtain ⟨s2, r2, o2⟩ := Opn.field hf 2 2 2 1 rfl co_2 (by omega) opn_2
  refine ⟨⟨s0, s1, s2⟩, ?_, o0, o1, o2⟩
  exact (RelC.cut 0 1 r0 rfl (RelC.cut 1 1 r1 rfl (RelC.cut 2 1 r2 rfl (RelC.nil (n := 3) (by rw [hl, co_23]; exact Nat.le_refl _)))))
def inArr6ApiPos (x : Arr6ApiPos) : Prop := inApiPos x.e0 ∧ inApiPos x.e1 ∧ inApiPos x.e2 ∧ inApiPos x.e3 ∧ inApiPos x.e4 ∧ inApiPos x.e5
theorem co_24 : Tryd.prog.cellsOf 24 = 18 := by kernel_rfl
theorem opn_24 : Opn Tryd.prog 24 encArr6ApiPos inArr6ApiPos := by
  intro w H enc fuel cs x h
  obtain ⟨xs, n, _, _, hl, hxl, hf⟩ := DataW.trod_array Tryd.underlying24 h
  obtain ⟨s0, r0, o0⟩ := Opn.elem hf 0 3 co_23 (by omega) hxl opn_23
  obtain ⟨s1, r1, o1⟩ := Opn.elem hf 1 3 co_23 (by omega) hxl opn_23
  obtain ⟨s2, r2, o2⟩ := Opn.elem hf 2 3 co_23 (by omega) hxl opn_23
  obtain ⟨s3, r3, o3⟩ := Opn.elem hf 3 3 co_23 (by omega) hxl opn_23
  obtain ⟨s4, r4, o4⟩ := Opn.elem hf 4 3 co_23 (by omega) hxl opn_23
  obtain ⟨s5, r5, o5⟩ := Opn.elem hf 5 3 co_23 (by omega) hxl opn_23
  refine ⟨⟨s0, s1, s2, s3, s4, s5⟩, ?_, o0, o1, o2, o3, o4, o5⟩
  exact (RelC.cut 0 3 r0 rfl (RelC.cut 3 3 r1 rfl (RelC.cut 6 3 r2 rfl (RelC.cut 9 3 r3 rfl (RelC.cut 12 3 r4 rfl (RelC.cut 15 3 r5 rfl (RelC.nil (n := 18) (by rw [hl, co_24]; exact Nat.le_refl _))))))))
def inR45Length (x : R45Length) : Prop := (inInt .i64) x.Number ∧ (inInt .i64) x.Length
theorem co_61 : Tryd.prog.cellsOf 61 = 2 := by kernel_rfl
theorem opn_61 : Opn Tryd.prog 61 encR45Length inR45Length := by
  intro w H enc fuel cs x h
  obtain ⟨xs, n, _, _, hl, hxl, hf⟩ := DataW.trod_struct Tryd.underlying61 h
  have hxl' : xs.length = 2 := hxl
  obtain ⟨s0, r0, o0⟩ := Opn.field hf 0 2 0 1 rfl co_2 (by omega) opn_2
  obtain ⟨s1, r1, o1⟩ := Opn.field hf 1 2 1 1 rfl co_2 (by omega) opn_2
  refine ⟨⟨s0, s1⟩, ?_, o0, o1⟩
  exact (RelC.cut 0 1 r0 rfl (RelC.cut 1 1 r1 rfl (RelC.nil (n := 2) (by rw [hl, co_61]; exact Nat.le_refl _))))
theorem co_25 : Tryd.prog.cellsOf 25 = 1 := by kernel_rfl
theorem opn_25 : Opn Tryd.prog 25 (eList encR45Length) (inList inR45Length) := Opn.slice Tryd.underlying25 opn_61 (fun _ => (rfl : _ = 2).trans co_61.symm) (by rw [co_61]; decide)
def inR45Table (x : R45Table) : Prop := inArr6ApiPos x.Work ∧ (inList inR45Length) x.Lengths
theorem co_27 : Tryd.prog.cellsOf 27 = 19 := by kernel_rfl
theorem opn_27 : Opn Tryd.prog 27 encR45Table inR45Table := by
  intro w H enc fuel cs x h
  obtain ⟨xs, n, _, _, hl, hxl, hf⟩ := DataW.trod_struct Tryd.underlying27 h
  have hxl' : xs.length = 2 := hxl
  obtain ⟨s0, r0, o0⟩ := Opn.field hf 0 24 0 18 rfl co_24 (by omega) opn_24
  obtain ⟨s1, r1, o1⟩ := Opn.field hf 1 25 18 1 rfl co_25 (by omega) opn_25
  refine ⟨⟨s0, s1⟩, ?_, o0, o1⟩
  exact (RelC.cut 0 18 r0 rfl (RelC.cut 18 1 r1 rfl (RelC.nil (n := 19) (by rw [hl, co_27]; exact Nat.le_refl _))))
end Go.Proofs.YtiiglghanajfcaaDoor
