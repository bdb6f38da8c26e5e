/-
  Mirrors of functions, written by wip/mir.py.
-/
import Derived.Test.YtejknolljjpodaaGreatDoorGx
import Derived.Test.YtejknolljjpodaaGreatDoorTy
import Derived.Test.YtejknolljjpodaaGreatDoorGo
import Derived.Test.YtejknolljjpodaaGreatDoorMB
import Derived.Test.YtejknolljjpodaaGreatDoorMV
import Derived.Test.YtejknolljjpodaaGreatDoorMW
namespace Go.Proofs.YtejknolljjpodaaGreatDoor
open Go.RowKit
open Nat renaming reduceAdd → nA, reduceSub → nS, reduceMul → nM, reduceEqDiff → nE, reduceLeDiff → nL, reduceLT → nT, reduceBEq → nB
open Int renaming reduceLT → iT, reduceToNat → iN, reduceEq → iE
set_option linter.unusedVariables false
set_option linter.unusedSimpArgs false
set_option maxRecDepth 100000

structure L46Work where
  Stages : (List ApiStage)
  Start : ApiPos
  deriving DecidableEq
def encL46Work (x : L46Work) : List D := [.list (List.map encApiStage x.Stages), .int .i64 x.Start.X, .int .i64 x.Start.Y, .int .i64 x.Start.Z]
def md_All (a0 : ModalState) (a1 : (List ApiBlock)) : Option (ModalState × Int × Int) :=
  bindX (guardO (okIdx a1) (
      rangeX (fun (i141 : Nat) (e143 : ApiBlock) (v142 : ModalState) =>
        bindO (md_Apply v142 e143) fun (y145 : ModalState × Int) =>
        if (y145.2 != 0) = true then
          some (.ret (.ret (ModalState.mk 0 0 0 0 0 0 0 0, (i141 : Int), y145.2)))
        else
          some (.go y145.1)) (fun (v142 : ModalState) => some (.go v142)) a1 0 a0)) fun (v123 : ModalState) =>
  some (v123, 0, 0)
theorem md_All_spec {a0 : ModalState} {a1 : (List ApiBlock)} {y : ModalState × Int × Int} (h : md_All a0 a1 = some y) : Spec gP 22 [.agg [.d (.int .i64 a0.Motion), .d (.int .i64 a0.Distance), .d (.int .i64 a0.Work), .d (.int .i64 a0.Length), .d (.int .i64 a0.Return), .d (.int .i64 a0.Feed), .d (.int .i64 a0.Tool), .d (.int .i64 a0.Offset)], .d (.list (List.map encApiBlock a1))] (.tuple [.agg [.d (.int .i64 y.1.Motion), .d (.int .i64 y.1.Distance), .d (.int .i64 y.1.Work), .d (.int .i64 y.1.Length), .d (.int .i64 y.1.Return), .d (.int .i64 y.1.Feed), .d (.int .i64 y.1.Tool), .d (.int .i64 y.1.Offset)], .d (.int .i64 y.2.1), .d (.int .i64 y.2.2)]) := by
  refine spec_mir Tryz.func22 rfl (by kernel_rfl) (by kernel_rfl) (fun y : ModalState × Int × Int => .tuple [.agg [.d (.int .i64 y.1.Motion), .d (.int .i64 y.1.Distance), .d (.int .i64 y.1.Work), .d (.int .i64 y.1.Length), .d (.int .i64 y.1.Return), .d (.int .i64 y.1.Feed), .d (.int .i64 y.1.Tool), .d (.int .i64 y.1.Offset)], .d (.int .i64 y.2.1), .d (.int .i64 y.2.2)]) ?_ h
  unfold md_All
  simp only [List.replicate, List.length, nS, nA, Tryz.ntmps22, SV]
  refine .seqK (.region fun e h => ?_)
  simp only [seval, SE, zero_57, ENMB]
  refine mU e ?_ h
  refine .seqK (.seqK (.region fun e h => ?_))
  simp only [seval, SE, und_39, ENMB]
  refine mU e ?_ h
  refine Mir.join (fun v123 : ModalState => (U :: U :: .ptr 0 0 :: U :: .ptr 1 0 :: us 27)) (fun v123 => ⟨[[.d (.int .i64 v123.Motion), .d (.int .i64 v123.Distance), .d (.int .i64 v123.Work), .d (.int .i64 v123.Length), .d (.int .i64 v123.Return), .d (.int .i64 v123.Feed), .d (.int .i64 v123.Tool), .d (.int .i64 v123.Offset)], [.d (.int .i64 0), .d (.int .i64 0), .d (.int .i64 0), .d (.int .i64 0), .d (.int .i64 0), .d (.int .i64 0), .d (.int .i64 0), .d (.int .i64 0)]], []⟩) (fun _ => rfl) ?_ ?_
  refine .block (.guard fun qg72 => Mir.range (fun (i141 : Nat) (v142 : ModalState) => (U :: U :: .ptr 0 0 :: U :: .ptr 1 0 :: U :: U :: U :: U :: U :: U :: .d (.list (List.map encApiBlock a1)) :: .d (.int .i64 (a1.length : Int)) :: .d (.int .i64 (i141 : Int)) :: us 18)) (fun i141 v142 => ⟨[[.d (.int .i64 v142.Motion), .d (.int .i64 v142.Distance), .d (.int .i64 v142.Work), .d (.int .i64 v142.Length), .d (.int .i64 v142.Return), .d (.int .i64 v142.Feed), .d (.int .i64 v142.Tool), .d (.int .i64 v142.Offset)], [.d (.int .i64 0), .d (.int .i64 0), .d (.int .i64 0), .d (.int .i64 0), .d (.int .i64 0), .d (.int .i64 0), .d (.int .i64 0), .d (.int .i64 0)]], []⟩) qg72 (fun _ _ => rfl) (by simp only [seval, SF, ENMB, (nr rfl : ((0 : Nat) : Int) = 0)]) (by simp only [seval, SF, ENMB, (nr rfl : ((0 : Nat) : Int) = 0)]) ?_ ?_)
  intro i141 e143 v142 qr70
  refine .seqK (.region fun e h => ?_)
  simp only [seval, SE, qr70, ENMB]
  refine mU e ?_ h
  refine .seqK (.condT rfl (.skip (Mir.toK (.seqK (.block (.seqK (.region fun e h => ?_)))))))
  simp only [seval, SE, und_39, sz_31, qr70, Int.toNat_natCast, ag_31, zero_31, ENMB]
  refine mU e ?_ h
  refine .seqK (.bind fun y145 hy76 => .region fun e h => ?_)
  simp only [seval, SE, ag_57, sz_57, ag_31, sz_31, ENMB]
  refine SpecS.by (md_Apply_spec hy76) (by simp only [seval, SF, ENMB]) ?_
  simp only [seval, SE, zero_57, sz_57, ENMB]
  refine mU e ?_ h
  refine .seqK (.seqK (.region fun e h => ?_))
  simp only [seval, SE, ENMB]
  refine mU e ?_ h
  refine .cond rfl (fun hb78 => ?_) (fun hb78 => ?_)
  refine .seqK (.region fun e h => ?_)
  simp only [seval, SE, zero_57, pl_57, sz_57, ENMB]
  refine mU e ?_ h
  refine .ret fun e h => ?_
  cases h
  simp only [seval, SF, ENMB, Tryz.results22, ag_57, sz_57]
  refine .skip (Mir.toK (.region fun e h => ?_))
  simp only [seval, SE, ag_57, sz_57, ENMB]
  refine mU e ?_ h
  refine .region fun e h => ?_
  simp only [seval, SE, ENMB]
  cases h
  simp only [seval, SF, ENMB, Tryz.results22, ag_57, sz_57, qr70]
  intro v142 qd71
  refine .seqK (.region fun e h => ?_)
  simp only [seval, SE, qd71, ENMB]
  refine mU e ?_ h
  refine .seqK (.condF rfl (.exit fun e h => ?_))
  cases h
  simp only [seval, SF, ENMB, Tryz.results22, ag_57, sz_57]
  intro v123
  refine Mir.toK (.seqK (.region fun e h => ?_))
  simp only [seval, SE, ag_57, sz_57, ENMB]
  refine mU e ?_ h
  refine .ret fun e h => ?_
  cases h
  simp only [seval, SF, ENMB, Tryz.results22, ag_57, sz_57]

def l46_PostState (a0 : L46Work) (a1 : R46Options) : Option Bool :=
  bindO (bindO (l46_awake ) fun (y101 : Bool) =>
      if y101 = true then
        bindO (r46_Few a0.Stages 30) fun (y102 : Bool) =>
        some (!y102)
      else
        some true) fun (v103 : Bool) =>
  if v103 = true then
    bindO (l46_awake ) fun (y105 : Bool) =>
    some y105
  else
    bindO (po_Blocks a0.Stages a0.Start (PostOptions.mk a1.Work false 0 0)) fun (y106 : (List ApiBlock) × Int) =>
    bindO (po_Blocks a0.Stages a0.Start (PostOptions.mk a1.Work true 0 0)) fun (y107 : (List ApiBlock) × Int) =>
    if ((y106.2 != 0) || (y107.2 != 0)) = true then
      some (y106.2 == y107.2)
    else
      bindO (md_New ) fun (y108 : ModalState) =>
      bindO (md_All y108 y106.1) fun (y109 : ModalState × Int × Int) =>
      bindO (md_New ) fun (y110 : ModalState) =>
      bindO (md_All y110 y107.1) fun (y111 : ModalState × Int × Int) =>
      some ((y109.2.2 == 0) && ((y111.2.2 == 0) && (((y109.1.Motion == y111.1.Motion) && ((y109.1.Distance == y111.1.Distance) && ((y109.1.Work == y111.1.Work) && ((y109.1.Length == y111.1.Length) && ((y109.1.Return == y111.1.Return) && ((y109.1.Feed == y111.1.Feed) && ((y109.1.Tool == y111.1.Tool) && (y109.1.Offset == y111.1.Offset)))))))) && (decide ((y107.1.length : Int) ≤ (y106.1.length : Int))))))
theorem l46_PostState_spec {a0 : L46Work} {a1 : R46Options} {y : Bool} (h : l46_PostState a0 a1 = some y) : Spec gP 6 [.agg [.d (.list (List.map encApiStage a0.Stages)), .d (.int .i64 a0.Start.X), .d (.int .i64 a0.Start.Y), .d (.int .i64 a0.Start.Z)], .agg [.d (.int .i64 a1.Work), .d (.bool a1.Compress), .d (.int .i64 a1.Numbers), .d (.int .i64 a1.Fold)]] (.d (.bool y)) := by
  refine spec_mir Tryz.func6 rfl (by kernel_rfl) (by kernel_rfl) (fun y : Bool => .d (.bool y)) ?_ h
  unfold l46_PostState
  simp only [List.replicate, List.length, nS, nA, Tryz.ntmps6, SV]
  refine .seqK (.region fun e h => ?_)
  simp only [seval, SE, ENMB]
  refine mU e ?_ h
  refine .seqK (.seqK (Mir.joinO (fun v103 : Bool => (U :: U :: .ptr 0 0 :: .ptr 1 0 :: U :: U :: U :: U :: U :: U :: U :: U :: U :: U :: U :: U :: U :: U :: U :: U :: U :: U :: .d (.bool v103) :: us 64)) (fun v103 => ⟨[[.d (.list (List.map encApiStage a0.Stages)), .d (.int .i64 a0.Start.X), .d (.int .i64 a0.Start.Y), .d (.int .i64 a0.Start.Z)], [.d (.int .i64 a1.Work), .d (.bool a1.Compress), .d (.int .i64 a1.Numbers), .d (.int .i64 a1.Fold)]], []⟩) (fun _ => rfl) ?_ ?_))
  refine .bind fun y101 hy1 => .ite (fun hb2 => ?_) (fun hb2 => ?_)
  refine .bind fun y102 hy3 => .region fun e h => ?_
  simp only [seval, SE, ENMB, hb2]
  refine SpecS.by (l46_awake_spec hy1) (rfl) ?_
  simp only [seval, SE, fld_49_0, sz_47, ag_47, ENMB, hb2]
  refine SpecS.by (r46_Few_spec hy3) (by simp only [seval, SF, ENMB, hb2]) ?_
  simp only [seval, SE, ENMB, hb2]
  cases h
  simp only [seval, SF, ENMB, hb2]
  refine .region fun e h => ?_
  simp only [seval, SE, ENMB, hb2]
  refine SpecS.by (l46_awake_spec hy1) (rfl) ?_
  simp only [seval, SE, ENMB, hb2]
  cases h
  simp only [seval, SF, ENMB, hb2]
  intro v103
  refine Mir.toK (.cond rfl (fun hb6 => ?_) (fun hb6 => ?_))
  refine .seqK (.bind fun y105 hy7 => .region fun e h => ?_)
  simp only [seval, SE, ENMB]
  refine SpecS.by (l46_awake_spec hy7) (rfl) ?_
  simp only [seval, SE, ENMB]
  refine mU e ?_ h
  refine .ret fun e h => ?_
  cases h
  simp only [seval, SF, ENMB, Tryz.results6]
  refine .skip (Mir.toK (.seqK (.bind fun y106 hy8 => .region fun e h => ?_)))
  simp only [seval, SE, fld_49_0, sz_47, ag_47, fld_49_1, sz_23, ag_23, fld_38_0, sz_2, ag_2, zero_44, pl_44, ENMB]
  refine SpecS.by (po_Blocks_spec hy8) (by simp only [seval, SF, ENMB]) ?_
  simp only [seval, SE, ENMB]
  refine mU e ?_ h
  refine .seqK (.bind fun y107 hy9 => .region fun e h => ?_)
  simp only [seval, SE, fld_49_0, sz_47, ag_47, fld_49_1, sz_23, ag_23, fld_38_0, sz_2, ag_2, zero_44, pl_44, ENMB]
  refine SpecS.by (po_Blocks_spec hy9) (by simp only [seval, SF, ENMB]) ?_
  simp only [seval, SE, ENMB]
  refine mU e ?_ h
  refine .seqK (.seqK (.joinV (U :: U :: U :: U :: U :: .d (.list (List.map encApiBlock y106.1)) :: .d (.int .i64 y106.2) :: .d (.list (List.map encApiBlock y107.1)) :: .d (.int .i64 y107.2) :: U :: U :: U :: U :: U :: U :: U :: U :: U :: U :: U :: U :: U :: U :: U :: U :: U :: U :: U :: U :: U :: U :: U :: U :: U :: U :: U :: U :: U :: U :: U :: U :: U :: U :: U :: U :: U :: U :: U :: U :: U :: U :: .d (.bool ((y106.2 != 0) || (y107.2 != 0))) :: us 35) ⟨[[.d (.list (List.map encApiStage a0.Stages)), .d (.int .i64 a0.Start.X), .d (.int .i64 a0.Start.Y), .d (.int .i64 a0.Start.Z)], [.d (.int .i64 a1.Work), .d (.bool a1.Compress), .d (.int .i64 a1.Numbers), .d (.int .i64 a1.Fold)]], []⟩ rfl ?_ ?_))
  refine SWs.region ?_
  rcases Bool.eq_false_or_eq_true (y106.2 != 0) with hb10 | hb10
  simp only [seval, SE, SL, PB, hb10, ENMB]
  simp only [seval, SE, SL, PB, hb10, ENMB]
  refine Mir.toK (.cond rfl (fun hb12 => ?_) (fun hb12 => ?_))
  refine .seqK (.region fun e h => ?_)
  simp only [seval, SE, ENMB]
  refine mU e ?_ h
  refine .ret fun e h => ?_
  cases h
  simp only [seval, SF, ENMB, Tryz.results6]
  refine .skip (Mir.toK (.seqK (.bind fun y108 hy13 => .bind fun y109 hy14 => .region fun e h => ?_)))
  simp only [seval, SE, ENMB]
  refine SpecS.by (md_New_spec hy13) (rfl) ?_
  simp only [seval, SE, ENMB]
  refine SpecS.by (md_All_spec hy14) (by simp only [seval, SF, ENMB]) ?_
  simp only [seval, SE, zero_57, sz_57, ENMB]
  refine mU e ?_ h
  refine .seqK (.bind fun y110 hy15 => .bind fun y111 hy16 => .region fun e h => ?_)
  simp only [seval, SE, ENMB]
  refine SpecS.by (md_New_spec hy15) (rfl) ?_
  simp only [seval, SE, ENMB]
  refine SpecS.by (md_All_spec hy16) (by simp only [seval, SF, ENMB]) ?_
  simp only [seval, SE, zero_57, sz_57, ENMB]
  refine mU e ?_ h
  refine .seqK (.joinV (U :: U :: U :: U :: .d (.bool ((y109.2.2 == 0) && ((y111.2.2 == 0) && (((y109.1.Motion == y111.1.Motion) && ((y109.1.Distance == y111.1.Distance) && ((y109.1.Work == y111.1.Work) && ((y109.1.Length == y111.1.Length) && ((y109.1.Return == y111.1.Return) && ((y109.1.Feed == y111.1.Feed) && ((y109.1.Tool == y111.1.Tool) && (y109.1.Offset == y111.1.Offset)))))))) && (decide ((y107.1.length : Int) ≤ (y106.1.length : Int))))))) :: us 82) ⟨[[.d (.list (List.map encApiStage a0.Stages)), .d (.int .i64 a0.Start.X), .d (.int .i64 a0.Start.Y), .d (.int .i64 a0.Start.Z)], [.d (.int .i64 a1.Work), .d (.bool a1.Compress), .d (.int .i64 a1.Numbers), .d (.int .i64 a1.Fold)], [.d (.int .i64 y109.1.Motion), .d (.int .i64 y109.1.Distance), .d (.int .i64 y109.1.Work), .d (.int .i64 y109.1.Length), .d (.int .i64 y109.1.Return), .d (.int .i64 y109.1.Feed), .d (.int .i64 y109.1.Tool), .d (.int .i64 y109.1.Offset)], [.d (.int .i64 y111.1.Motion), .d (.int .i64 y111.1.Distance), .d (.int .i64 y111.1.Work), .d (.int .i64 y111.1.Length), .d (.int .i64 y111.1.Return), .d (.int .i64 y111.1.Feed), .d (.int .i64 y111.1.Tool), .d (.int .i64 y111.1.Offset)]], []⟩ rfl ?_ ?_)
  refine SWs.region ?_
  rcases Bool.eq_false_or_eq_true (y109.2.2 == 0) with hb17 | hb17
  rcases Bool.eq_false_or_eq_true (y111.2.2 == 0) with hb18 | hb18
  rcases Bool.eq_false_or_eq_true ((y109.1.Motion == y111.1.Motion) && ((y109.1.Distance == y111.1.Distance) && ((y109.1.Work == y111.1.Work) && ((y109.1.Length == y111.1.Length) && ((y109.1.Return == y111.1.Return) && ((y109.1.Feed == y111.1.Feed) && ((y109.1.Tool == y111.1.Tool) && (y109.1.Offset == y111.1.Offset)))))))) with hb19 | hb19
  simp only [seval, SE, SL, PB, ag_57, sz_57, gE_57, und_39, hb17, hb18, hb19, ENMB]
  simp only [seval, SE, SL, PB, ag_57, sz_57, gE_57, hb17, hb18, hb19, ENMB]
  simp only [seval, SE, SL, PB, hb17, hb18, ENMB]
  simp only [seval, SE, SL, PB, hb17, ENMB]
  refine Mir.toK (.ret fun e h => ?_)
  cases h
  simp only [seval, SF, ENMB, Tryz.results6]

theorem co_3 : Tryz.prog.cellsOf 3 = 1 := by kernel_rfl
theorem opn_3 : Opn Tryz.prog 3 (eInt .i64) (inInt .i64) := Opn.int Tryz.underlying3
theorem co_2 : Tryz.prog.cellsOf 2 = 1 := by kernel_rfl
theorem opn_2 : Opn Tryz.prog 2 (eInt .i64) (inInt .i64) := Opn.int Tryz.underlying2
def inApiPos (x : ApiPos) : Prop := (inInt .i64) x.X ∧ (inInt .i64) x.Y ∧ (inInt .i64) x.Z
theorem co_23 : Tryz.prog.cellsOf 23 = 3 := by kernel_rfl
theorem opn_23 : Opn Tryz.prog 23 encApiPos inApiPos := by
  intro w H enc fuel cs x h
  obtain ⟨xs, n, _, _, hl, hxl, hf⟩ := DataW.trod_struct Tryz.underlying23 h
  have hxl' : xs.length = 3 := hxl
  obtain ⟨s0, r0, o0⟩ := Opn.field hf 0 2 0 1 rfl co_2 (by omega) opn_2
  obtain ⟨s1, r1, o1⟩ := Opn.field hf 1 2 1 1 rfl co_2 (by omega) opn_2
  obtain ⟨s2, r2, o2⟩ := Opn.field hf 2 2 2 1 rfl co_2 (by omega) opn_2
  refine ⟨⟨s0, s1, s2⟩, ?_, o0, o1, o2⟩
  exact (RelC.cut 0 1 r0 rfl (RelC.cut 1 1 r1 rfl (RelC.cut 2 1 r2 rfl (RelC.nil (n := 3) (by rw [hl, co_23]; exact Nat.le_refl _)))))
def inApiGrid2 (x : ApiGrid2) : Prop := (inInt .i64) x.X ∧ (inInt .i64) x.Y
theorem co_25 : Tryz.prog.cellsOf 25 = 2 := by kernel_rfl
theorem opn_25 : Opn Tryz.prog 25 encApiGrid2 inApiGrid2 := by
  intro w H enc fuel cs x h
  obtain ⟨xs, n, _, _, hl, hxl, hf⟩ := DataW.trod_struct Tryz.underlying25 h
  have hxl' : xs.length = 2 := hxl
  obtain ⟨s0, r0, o0⟩ := Opn.field hf 0 2 0 1 rfl co_2 (by omega) opn_2
  obtain ⟨s1, r1, o1⟩ := Opn.field hf 1 2 1 1 rfl co_2 (by omega) opn_2
  refine ⟨⟨s0, s1⟩, ?_, o0, o1⟩
  exact (RelC.cut 0 1 r0 rfl (RelC.cut 1 1 r1 rfl (RelC.nil (n := 2) (by rw [hl, co_25]; exact Nat.le_refl _))))
def inApiMove (x : ApiMove) : Prop := (inInt .i64) x.Kind ∧ inApiPos x.To ∧ inApiGrid2 x.Center ∧ (inInt .i64) x.Rate
theorem co_27 : Tryz.prog.cellsOf 27 = 7 := by kernel_rfl
theorem opn_27 : Opn Tryz.prog 27 encApiMove inApiMove := by
  intro w H enc fuel cs x h
  obtain ⟨xs, n, _, _, hl, hxl, hf⟩ := DataW.trod_struct Tryz.underlying27 h
  have hxl' : xs.length = 4 := hxl
  obtain ⟨s0, r0, o0⟩ := Opn.field hf 0 3 0 1 rfl co_3 (by omega) opn_3
  obtain ⟨s1, r1, o1⟩ := Opn.field hf 1 23 1 3 rfl co_23 (by omega) opn_23
  obtain ⟨s2, r2, o2⟩ := Opn.field hf 2 25 4 2 rfl co_25 (by omega) opn_25
  obtain ⟨s3, r3, o3⟩ := Opn.field hf 3 2 6 1 rfl co_2 (by omega) opn_2
  refine ⟨⟨s0, s1, s2, s3⟩, ?_, o0, o1, o2, o3⟩
  exact (RelC.cut 0 1 r0 rfl (RelC.cut 1 3 r1 rfl (RelC.cut 4 2 r2 rfl (RelC.cut 6 1 r3 rfl (RelC.nil (n := 7) (by rw [hl, co_27]; exact Nat.le_refl _))))))
theorem co_81 : Tryz.prog.cellsOf 81 = 1 := by kernel_rfl
theorem opn_81 : Opn Tryz.prog 81 (eList encApiMove) (inList inApiMove) := Opn.slice Tryz.underlying81 opn_27 (fun _ => (rfl : _ = 7).trans co_27.symm) (by rw [co_27]; decide)
def inApiStage (x : ApiStage) : Prop := (inInt .i64) x.Tool ∧ (inList inApiMove) x.Moves
theorem co_83 : Tryz.prog.cellsOf 83 = 2 := by kernel_rfl
theorem opn_83 : Opn Tryz.prog 83 encApiStage inApiStage := by
  intro w H enc fuel cs x h
  obtain ⟨xs, n, _, _, hl, hxl, hf⟩ := DataW.trod_struct Tryz.underlying83 h
  have hxl' : xs.length = 2 := hxl
  obtain ⟨s0, r0, o0⟩ := Opn.field hf 0 3 0 1 rfl co_3 (by omega) opn_3
  obtain ⟨s1, r1, o1⟩ := Opn.field hf 1 81 1 1 rfl co_81 (by omega) opn_81
  refine ⟨⟨s0, s1⟩, ?_, o0, o1⟩
  exact (RelC.cut 0 1 r0 rfl (RelC.cut 1 1 r1 rfl (RelC.nil (n := 2) (by rw [hl, co_83]; exact Nat.le_refl _))))
theorem co_47 : Tryz.prog.cellsOf 47 = 1 := by kernel_rfl
theorem opn_47 : Opn Tryz.prog 47 (eList encApiStage) (inList inApiStage) := Opn.slice Tryz.underlying47 opn_83 (fun _ => (rfl : _ = 2).trans co_83.symm) (by rw [co_83]; decide)
def inL46Work (x : L46Work) : Prop := (inList inApiStage) x.Stages ∧ inApiPos x.Start
theorem co_49 : Tryz.prog.cellsOf 49 = 4 := by kernel_rfl
theorem opn_49 : Opn Tryz.prog 49 encL46Work inL46Work := by
  intro w H enc fuel cs x h
  obtain ⟨xs, n, _, _, hl, hxl, hf⟩ := DataW.trod_struct Tryz.underlying49 h
  have hxl' : xs.length = 2 := hxl
  obtain ⟨s0, r0, o0⟩ := Opn.field hf 0 47 0 1 rfl co_47 (by omega) opn_47
  obtain ⟨s1, r1, o1⟩ := Opn.field hf 1 23 1 3 rfl co_23 (by omega) opn_23
  refine ⟨⟨s0, s1⟩, ?_, o0, o1⟩
  exact (RelC.cut 0 1 r0 rfl (RelC.cut 1 3 r1 rfl (RelC.nil (n := 4) (by rw [hl, co_49]; exact Nat.le_refl _))))
theorem co_4 : Tryz.prog.cellsOf 4 = 1 := by kernel_rfl
theorem opn_4 : Opn Tryz.prog 4 eBool inBool := Opn.bool Tryz.underlying4
def inR46Options (x : R46Options) : Prop := (inInt .i64) x.Work ∧ inBool x.Compress ∧ (inInt .i64) x.Numbers ∧ (inInt .i64) x.Fold
theorem co_38 : Tryz.prog.cellsOf 38 = 4 := by kernel_rfl
theorem opn_38 : Opn Tryz.prog 38 encR46Options inR46Options := by
  intro w H enc fuel cs x h
  obtain ⟨xs, n, _, _, hl, hxl, hf⟩ := DataW.trod_struct Tryz.underlying38 h
  have hxl' : xs.length = 4 := hxl
  obtain ⟨s0, r0, o0⟩ := Opn.field hf 0 2 0 1 rfl co_2 (by omega) opn_2
  obtain ⟨s1, r1, o1⟩ := Opn.field hf 1 4 1 1 rfl co_4 (by omega) opn_4
  obtain ⟨s2, r2, o2⟩ := Opn.field hf 2 2 2 1 rfl co_2 (by omega) opn_2
  obtain ⟨s3, r3, o3⟩ := Opn.field hf 3 3 3 1 rfl co_3 (by omega) opn_3
  refine ⟨⟨s0, s1, s2, s3⟩, ?_, o0, o1, o2, o3⟩
  exact (RelC.cut 0 1 r0 rfl (RelC.cut 1 1 r1 rfl (RelC.cut 2 1 r2 rfl (RelC.cut 3 1 r3 rfl (RelC.nil (n := 4) (by rw [hl, co_38]; exact Nat.le_refl _))))))
end Go.Proofs.YtejknolljjpodaaGreatDoor
