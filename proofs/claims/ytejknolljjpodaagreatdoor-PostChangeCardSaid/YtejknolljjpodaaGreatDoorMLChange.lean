/-
  Mirrors of functions, written by wip/mir.py.
-/
import Derived.Test.YtejknolljjpodaaGreatDoorGx
import Derived.Test.YtejknolljjpodaaGreatDoorTy
import Derived.Test.YtejknolljjpodaaGreatDoorGo
import Derived.Test.YtejknolljjpodaaGreatDoorMB
import Derived.Test.YtejknolljjpodaaGreatDoorMV
namespace Go.Proofs.YtejknolljjpodaaGreatDoor
open Go.RowKit
open Nat renaming reduceAdd → nA, reduceSub → nS, reduceMul → nM, reduceEqDiff → nE, reduceLeDiff → nL, reduceLT → nT, reduceBEq → nB
open Int renaming reduceLT → iT, reduceToNat → iN, reduceEq → iE
set_option linter.unusedVariables false
set_option linter.unusedSimpArgs false
set_option maxRecDepth 100000

def l46_PostChange (a0 : Int) (a1 : R46Options) : Option Bool :=
  bindO (l46_awake ) fun (y101 : Bool) =>
  if (!y101) = true then
    some false
  else
    bindO (po_Change a0) fun (y102 : (List ApiBlock) × Int) =>
    bindO (r46_Change a0) fun (y103 : (List ApiBlock) × Int) =>
    bindO (if (y102.2 == y103.2) = true then
          bindO (r41_Same y102.1 y103.1) fun (y104 : Bool) =>
          if y104 = true then
            bindO (po_Valid (PostOptions.mk a1.Work a1.Compress a1.Numbers a1.Fold)) fun (y105 : Int) =>
            bindO (r46_Valid a1) fun (y106 : Int) =>
            some (y105 == y106)
          else
            some false
        else
          some false) fun (v107 : Bool) =>
    some v107
theorem l46_PostChange_spec {a0 : Int} {a1 : R46Options} {y : Bool} (h : l46_PostChange a0 a1 = some y) : Spec gP 4 [.d (.int .i64 a0), .agg [.d (.int .i64 a1.Work), .d (.bool a1.Compress), .d (.int .i64 a1.Numbers), .d (.int .i64 a1.Fold)]] (.d (.bool y)) := by
  refine spec_mir Tryz.func4 rfl (by kernel_rfl) (by kernel_rfl) (fun y : Bool => .d (.bool y)) ?_ h
  unfold l46_PostChange
  simp only [List.replicate, List.length, nS, nA, Tryz.ntmps4, SV]
  refine .seqK (.region fun e h => ?_)
  simp only [seval, SE]
  refine mU e ?_ h
  refine .seqK (.seqK (.bind fun y101 hy1 => .region fun e h => ?_))
  simp only [seval, SE]
  refine SpecS.by (l46_awake_spec hy1) (rfl) ?_
  simp only [seval, SE]
  refine mU e ?_ h
  refine .cond rfl (fun hb3 => ?_) (fun hb3 => ?_)
  refine .seqK (.region fun e h => ?_)
  simp only [seval, SE]
  refine mU e ?_ h
  refine .ret fun e h => ?_
  cases h
  simp only [seval, SF, Tryz.results4]
  refine .skip (Mir.toK (.seqK (.bind fun y102 hy4 => .region fun e h => ?_)))
  simp only [seval, SE]
  refine SpecS.by (po_Change_spec hy4) (by simp only [seval, SF]) ?_
  simp only [seval, SE]
  refine mU e ?_ h
  refine .seqK (.bind fun y103 hy5 => .region fun e h => ?_)
  simp only [seval, SE]
  refine SpecS.by (r46_Change_spec hy5) (by simp only [seval, SF]) ?_
  simp only [seval, SE]
  refine mU e ?_ h
  refine .seqK (Mir.joinO (fun v107 : Bool => (U :: U :: U :: U :: .d (.bool v107) :: us 31)) (fun v107 => ⟨[[.d (.int .i64 a1.Work), .d (.bool a1.Compress), .d (.int .i64 a1.Numbers), .d (.int .i64 a1.Fold)]], []⟩) (fun _ => rfl) ?_ ?_)
  refine .ite (fun hb6 => ?_) (fun hb6 => ?_)
  refine .bind fun y104 hy7 => .ite (fun hb8 => ?_) (fun hb8 => ?_)
  refine .bind fun y105 hy9 => .bind fun y106 hy10 => .regionD [] (by kernel_rfl) fun e h => ?_
  simp only [seval, SE, SB, hb6, hb8]
  refine Spec.by (r41_Same_spec hy7) (by simp only [seval, SF, hb6, hb8]) ?_
  simp only [seval, SE, SB, ag_38, sz_38, hb6, hb8]
  refine Spec.by (po_Valid_spec hy9) (by simp only [seval, SF, hb6, hb8]) ?_
  simp only [seval, SE, SB, ag_38, sz_38, hb6, hb8]
  refine Spec.by (r46_Valid_spec hy10) (by simp only [seval, SF, hb6, hb8]) ?_
  simp only [seval, SE, SB, hb6, hb8]
  cases h
  simp only [seval, SF, hb6, hb8]
  refine .regionD [] (by kernel_rfl) fun e h => ?_
  simp only [seval, SE, SB, hb6, hb8]
  refine Spec.by (r41_Same_spec hy7) (by simp only [seval, SF, hb6, hb8]) ?_
  simp only [seval, SE, SB, hb6, hb8]
  cases h
  simp only [seval, SF, hb6, hb8]
  refine .regionD [] (by kernel_rfl) fun e h => ?_
  simp only [seval, SE, SB, hb6]
  cases h
  simp only [seval, SF, hb6]
  intro v107
  refine Mir.toK (.ret fun e h => ?_)
  cases h
  simp only [seval, SF, Tryz.results4]

theorem co_3 : Tryz.prog.cellsOf 3 = 1 := by kernel_rfl
theorem opn_3 : Opn Tryz.prog 3 (eInt .i64) (inInt .i64) := Opn.int Tryz.underlying3
theorem co_2 : Tryz.prog.cellsOf 2 = 1 := by kernel_rfl
theorem opn_2 : Opn Tryz.prog 2 (eInt .i64) (inInt .i64) := Opn.int Tryz.underlying2
theorem co_4 : Tryz.prog.cellsOf 4 = 1 := by kernel_rfl
theorem opn_4 : Opn Tryz.prog 4 eBool inBool := Opn.bool Tryz.underlying4
def inR46Options (x : R46Options) : Prop := (inInt .i64) x.Work ∧ inBool x.Compress ∧ (inInt .i64) x.Numbers ∧ (inInt .i64) x.Fold
theorem co_38 : Tryz.prog.cellsOf 38 = 4 := by kernel_rfl
theorem opn_38 : Opn Tryz.prog 38 encR46Options inR46Options := by
  intro w H enc fuel cs x h
  obtain ⟨xs, n, _, _, hl, hxl, hf⟩ := DataW.trod_struct Tryz.underlying38 h
  have hxl' : xs.length = 4 := hxl
  obtain ⟨s0, r0, o0⟩ := Opn.field hf 0 2 0 1 rfl co_2 (by omega) opn_2
  obtain ⟨s1, r1, o1⟩ := Opn.field hf 1 4 1 1 rfl co_4 (by omega) opn_4
  obtain ⟨s2, r2, o2⟩ := Opn.field hf 2 2 2 1 rfl co_2 (by omega) opn_2
  obtain ⟨s3, r3, o3⟩ := Opn.field hf 3 3 3 1 rfl co_3 (by omega) opn_3
  refine ⟨⟨s0, s1, s2, s3⟩, ?_, o0, o1, o2, o3⟩
  exact (RelC.cut 0 1 r0 rfl (RelC.cut 1 1 r1 rfl (RelC.cut 2 1 r2 rfl (RelC.cut 3 1 r3 rfl (RelC.nil (n := 4) (by rw [hl, co_38]; exact Nat.le_refl _))))))
end Go.Proofs.YtejknolljjpodaaGreatDoor
