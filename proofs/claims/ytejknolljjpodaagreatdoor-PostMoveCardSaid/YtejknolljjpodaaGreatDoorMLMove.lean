/-
  Mirrors of functions, written by wip/mir.py.
-/
import Derived.Test.YtejknolljjpodaaGreatDoorGx
import Derived.Test.YtejknolljjpodaaGreatDoorTy
import Derived.Test.YtejknolljjpodaaGreatDoorGo
import Derived.Test.YtejknolljjpodaaGreatDoorMB
import Derived.Test.YtejknolljjpodaaGreatDoorMV
namespace Go.Proofs.YtejknolljjpodaaGreatDoor
open Go.RowKit
open Nat renaming reduceAdd → nA, reduceSub → nS, reduceMul → nM, reduceEqDiff → nE, reduceLeDiff → nL, reduceLT → nT, reduceBEq → nB
open Int renaming reduceLT → iT, reduceToNat → iN, reduceEq → iE
set_option linter.unusedVariables false
set_option linter.unusedSimpArgs false
set_option maxRecDepth 100000

def l46_PostMove (a0 : ApiPos) (a1 : ApiMove) : Option Bool :=
  bindO (l46_awake ) fun (y101 : Bool) =>
  if (!y101) = true then
    some false
  else
    bindO (po_Move a0 a1) fun (y102 : ApiBlock × Int) =>
    bindO (r46_Move a0 a1) fun (y103 : ApiBlock × Int) =>
    bindO (if (y102.2 == y103.2) = true then
          bindO (r41_Equal y102.1 y103.1) fun (y104 : Bool) =>
          some y104
        else
          some false) fun (v105 : Bool) =>
    some v105
theorem l46_PostMove_spec {a0 : ApiPos} {a1 : ApiMove} {y : Bool} (h : l46_PostMove a0 a1 = some y) : Spec gP 3 [.agg [.d (.int .i64 a0.X), .d (.int .i64 a0.Y), .d (.int .i64 a0.Z)], .agg [.d (.int .i64 a1.Kind), .d (.int .i64 a1.To.X), .d (.int .i64 a1.To.Y), .d (.int .i64 a1.To.Z), .d (.int .i64 a1.Center.X), .d (.int .i64 a1.Center.Y), .d (.int .i64 a1.Rate)]] (.d (.bool y)) := by
  refine spec_mir Tryz.func3 rfl (by kernel_rfl) (by kernel_rfl) (fun y : Bool => .d (.bool y)) ?_ h
  unfold l46_PostMove
  simp only [List.replicate, List.length, nS, nA, Tryz.ntmps3, SV]
  refine .seqK (.region fun e h => ?_)
  simp only [seval, SE]
  refine mU e ?_ h
  refine .seqK (.seqK (.bind fun y101 hy1 => .region fun e h => ?_))
  simp only [seval, SE]
  refine SpecS.by (l46_awake_spec hy1) (rfl) ?_
  simp only [seval, SE]
  refine mU e ?_ h
  refine .cond rfl (fun hb3 => ?_) (fun hb3 => ?_)
  refine .seqK (.region fun e h => ?_)
  simp only [seval, SE]
  refine mU e ?_ h
  refine .ret fun e h => ?_
  cases h
  simp only [seval, SF, Tryz.results3]
  refine .skip (Mir.toK (.seqK (.bind fun y102 hy4 => .region fun e h => ?_)))
  simp only [seval, SE, ag_23, sz_23, ag_27, sz_27]
  refine SpecS.by (po_Move_spec hy4) (by simp only [seval, SF]) ?_
  simp only [seval, SE, zero_31, sz_31]
  refine mU e ?_ h
  refine .seqK (.bind fun y103 hy5 => .region fun e h => ?_)
  simp only [seval, SE, ag_23, sz_23, ag_27, sz_27]
  refine SpecS.by (r46_Move_spec hy5) (by simp only [seval, SF]) ?_
  simp only [seval, SE, zero_31, sz_31]
  refine mU e ?_ h
  refine .seqK (Mir.joinO (fun v105 : Bool => (U :: U :: U :: U :: .d (.bool v105) :: us 26)) (fun v105 => ⟨[[.d (.int .i64 a0.X), .d (.int .i64 a0.Y), .d (.int .i64 a0.Z)], [.d (.int .i64 a1.Kind), .d (.int .i64 a1.To.X), .d (.int .i64 a1.To.Y), .d (.int .i64 a1.To.Z), .d (.int .i64 a1.Center.X), .d (.int .i64 a1.Center.Y), .d (.int .i64 a1.Rate)], [.d (.bool y102.1.Skip), .d (.list (List.map encApiWord y102.1.Words)), .d (.str y102.1.Comment)], [.d (.bool y103.1.Skip), .d (.list (List.map encApiWord y103.1.Words)), .d (.str y103.1.Comment)]], []⟩) (fun _ => rfl) ?_ ?_)
  refine .ite (fun hb6 => ?_) (fun hb6 => ?_)
  refine .bind fun y104 hy7 => .region fun e h => ?_
  simp only [seval, SE, ag_31, sz_31, hb6]
  refine SpecS.by (r41_Equal_spec hy7) (by simp only [seval, SF, hb6]) ?_
  simp only [seval, SE, hb6]
  cases h
  simp only [seval, SF, hb6]
  refine .region fun e h => ?_
  simp only [seval, SE, hb6]
  cases h
  simp only [seval, SF, hb6]
  intro v105
  refine Mir.toK (.ret fun e h => ?_)
  cases h
  simp only [seval, SF, Tryz.results3]

theorem co_2 : Tryz.prog.cellsOf 2 = 1 := by kernel_rfl
theorem opn_2 : Opn Tryz.prog 2 (eInt .i64) (inInt .i64) := Opn.int Tryz.underlying2
def inApiPos (x : ApiPos) : Prop := (inInt .i64) x.X ∧ (inInt .i64) x.Y ∧ (inInt .i64) x.Z
theorem co_23 : Tryz.prog.cellsOf 23 = 3 := by kernel_rfl
theorem opn_23 : Opn Tryz.prog 23 encApiPos inApiPos := by
  intro w H enc fuel cs x h
  obtain ⟨xs, n, _, _, hl, hxl, hf⟩ := DataW.trod_struct Tryz.underlying23 h
  have hxl' : xs.length = 3 := hxl
  obtain ⟨s0, r0, o0⟩ := Opn.field hf 0 2 0 1 rfl co_2 (by omega) opn_2
  obtain ⟨s1, r1, o1⟩ := Opn.field hf 1 2 1 1 rfl co_2 (by omega) opn_2
  obtain ⟨s2, r2, o2⟩ := Opn.field hf 2 2 2 1 rfl co_2 (by omega) opn_2
  refine ⟨⟨s0, s1, s2⟩, ?_, o0, o1, o2⟩
  exact (RelC.cut 0 1 r0 rfl (RelC.cut 1 1 r1 rfl (RelC.cut 2 1 r2 rfl (RelC.nil (n := 3) (by rw [hl, co_23]; exact Nat.le_refl _)))))
theorem co_3 : Tryz.prog.cellsOf 3 = 1 := by kernel_rfl
theorem opn_3 : Opn Tryz.prog 3 (eInt .i64) (inInt .i64) := Opn.int Tryz.underlying3
def inApiGrid2 (x : ApiGrid2) : Prop := (inInt .i64) x.X ∧ (inInt .i64) x.Y
theorem co_25 : Tryz.prog.cellsOf 25 = 2 := by kernel_rfl
theorem opn_25 : Opn Tryz.prog 25 encApiGrid2 inApiGrid2 := by
  intro w H enc fuel cs x h
  obtain ⟨xs, n, _, _, hl, hxl, hf⟩ := DataW.trod_struct Tryz.underlying25 h
  have hxl' : xs.length = 2 := hxl
  obtain ⟨s0, r0, o0⟩ := Opn.field hf 0 2 0 1 rfl co_2 (by omega) opn_2
  obtain ⟨s1, r1, o1⟩ := Opn.field hf 1 2 1 1 rfl co_2 (by omega) opn_2
  refine ⟨⟨s0, s1⟩, ?_, o0, o1⟩
  exact (RelC.cut 0 1 r0 rfl (RelC.cut 1 1 r1 rfl (RelC.nil (n := 2) (by rw [hl, co_25]; exact Nat.le_refl _))))
def inApiMove (x : ApiMove) : Prop := (inInt .i64) x.Kind ∧ inApiPos x.To ∧ inApiGrid2 x.Center ∧ (inInt .i64) x.Rate
theorem co_27 : Tryz.prog.cellsOf 27 = 7 := by kernel_rfl
theorem opn_27 : Opn Tryz.prog 27 encApiMove inApiMove := by
  intro w H enc fuel cs x h
  obtain ⟨xs, n, _, _, hl, hxl, hf⟩ := DataW.trod_struct Tryz.underlying27 h
  have hxl' : xs.length = 4 := hxl
  obtain ⟨s0, r0, o0⟩ := Opn.field hf 0 3 0 1 rfl co_3 (by omega) opn_3
  obtain ⟨s1, r1, o1⟩ := Opn.field hf 1 23 1 3 rfl co_23 (by omega) opn_23
  obtain ⟨s2, r2, o2⟩ := Opn.field hf 2 25 4 2 rfl co_25 (by omega) opn_25
  obtain ⟨s3, r3, o3⟩ := Opn.field hf 3 2 6 1 rfl co_2 (by omega) opn_2
  refine ⟨⟨s0, s1, s2, s3⟩, ?_, o0, o1, o2, o3⟩
  exact (RelC.cut 0 1 r0 rfl (RelC.cut 1 3 r1 rfl (RelC.cut 4 2 r2 rfl (RelC.cut 6 1 r3 rfl (RelC.nil (n := 7) (by rw [hl, co_27]; exact Nat.le_refl _))))))
end Go.Proofs.YtejknolljjpodaaGreatDoor
