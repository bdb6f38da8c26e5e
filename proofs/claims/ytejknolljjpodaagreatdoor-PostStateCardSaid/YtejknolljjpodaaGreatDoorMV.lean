/-
  Mirrors of functions, written by wip/mir.py.
-/
import Derived.Test.YtejknolljjpodaaGreatDoorGx
import Derived.Test.YtejknolljjpodaaGreatDoorTy
import Derived.Test.YtejknolljjpodaaGreatDoorMB
namespace Go.Proofs.YtejknolljjpodaaGreatDoor
open Go.RowKit
open Nat renaming reduceAdd → nA, reduceSub → nS, reduceMul → nM, reduceEqDiff → nE, reduceLeDiff → nL, reduceLT → nT, reduceBEq → nB
open Int renaming reduceLT → iT, reduceToNat → iN, reduceEq → iE
set_option linter.unusedVariables false
set_option linter.unusedSimpArgs false
set_option maxRecDepth 100000

structure R46Options where
  Work : Int
  Compress : Bool
  Numbers : Int
  Fold : Int
  deriving DecidableEq
def encR46Options (x : R46Options) : List D := [.int .i64 x.Work, .bool x.Compress, .int .i64 x.Numbers, .int .i64 x.Fold]
def r33_arc (a0 : ApiMove) : Option Bool :=
  some ((a0.Kind == 3) || (a0.Kind == 4))
theorem r33_arc_spec {a0 : ApiMove} {y : Bool} (h : r33_arc a0 = some y) : Spec gP 76 [.agg [.d (.int .i64 a0.Kind), .d (.int .i64 a0.To.X), .d (.int .i64 a0.To.Y), .d (.int .i64 a0.To.Z), .d (.int .i64 a0.Center.X), .d (.int .i64 a0.Center.Y), .d (.int .i64 a0.Rate)]] (.d (.bool y)) := by
  refine spec_mir Tryz.func76 rfl (by kernel_rfl) (by kernel_rfl) (fun y : Bool => .d (.bool y)) ?_ h
  unfold r33_arc
  simp only [List.replicate, List.length, nS, nA, Tryz.ntmps76, SV]
  refine .seqK (.region fun e h => ?_)
  simp only [seval, SE]
  refine mU e ?_ h
  refine .seqK (.joinV (U :: U :: .d (.bool ((a0.Kind == 3) || (a0.Kind == 4))) :: us 8) ⟨[[.d (.int .i64 a0.Kind), .d (.int .i64 a0.To.X), .d (.int .i64 a0.To.Y), .d (.int .i64 a0.To.Z), .d (.int .i64 a0.Center.X), .d (.int .i64 a0.Center.Y), .d (.int .i64 a0.Rate)]], []⟩ rfl ?_ ?_)
  refine SWs.region ?_
  rcases Bool.eq_false_or_eq_true (a0.Kind == 3) with hb1 | hb1
  simp only [seval, SE, SL, PB, fld_27_0, sz_3, ag_3, hb1]
  simp only [seval, SE, SL, PB, fld_27_0, sz_3, ag_3, hb1]
  refine Mir.toK (.ret fun e h => ?_)
  cases h
  simp only [seval, SF, Tryz.results76]

def r33_far (a0 : Int) : Option Bool :=
  some ((decide (a0 > 10000000)) || (decide (a0 < (-10000000))))
theorem r33_far_spec {a0 : Int} {y : Bool} (h : r33_far a0 = some y) : Spec gP 77 [.d (.int .i64 a0)] (.d (.bool y)) := by
  refine spec_mir Tryz.func77 rfl (by kernel_rfl) (by kernel_rfl) (fun y : Bool => .d (.bool y)) ?_ h
  unfold r33_far
  simp only [List.replicate, List.length, nS, nA, Tryz.ntmps77, SV]
  refine .seqK (.region fun e h => ?_)
  simp only [seval, SE]
  refine mU e ?_ h
  refine .seqK (.joinV (U :: U :: .d (.bool ((decide (a0 > 10000000)) || (decide (a0 < (-10000000))))) :: us 6) ⟨[], []⟩ rfl ?_ ?_)
  refine SWs.region ?_
  rcases Bool.eq_false_or_eq_true (decide (a0 > 10000000)) with hb1 | hb1
  simp only [seval, SE, SL, PB, hb1]
  simp only [seval, SE, SL, PB, hb1]
  refine Mir.toK (.ret fun e h => ?_)
  cases h
  simp only [seval, SF, Tryz.results77]

def r33_apart (a0 : Int) (a1 : Int) : Option Int :=
  bindO (if (decide (a0 < a1)) = true then
        some (a1, a0)
      else
        some (a0, a1)) fun (v101 : Int × Int) =>
  some (IntKind.u64.wrap ((IntKind.u64.wrap v101.1) - (IntKind.u64.wrap v101.2)))
theorem r33_apart_spec {a0 : Int} {a1 : Int} {y : Int} (h : r33_apart a0 a1 = some y) : Spec gP 121 [.d (.int .i64 a0), .d (.int .i64 a1)] (.d (.int .u64 y)) := by
  refine spec_mir Tryz.func121 rfl (by kernel_rfl) (by kernel_rfl) (fun y : Int => .d (.int .u64 y)) ?_ h
  unfold r33_apart
  simp only [List.replicate, List.length, nS, nA, Tryz.ntmps121, SV]
  refine .seqK (.region fun e h => ?_)
  simp only [seval, SE]
  refine mU e ?_ h
  refine .seqK (.seqK (.region fun e h => ?_))
  simp only [seval, SE]
  refine mU e ?_ h
  refine Mir.joinO (fun v101 : Int × Int => (.d (.int .i64 v101.1) :: .d (.int .i64 v101.2) :: us 13)) (fun v101 => ⟨[], []⟩) (fun _ => rfl) ?_ ?_
  refine .cond rfl (fun hb2 => ?_) (fun hb2 => ?_)
  refine .region fun e h => ?_
  simp only [seval, SE]
  cases h
  simp only [seval, SF, Tryz.results121]
  refine .skip fun e h => ?_
  cases h
  simp only [seval, SF, Tryz.results121]
  intro v101
  refine Mir.toK (.seqK (.region fun e h => ?_))
  simp only [seval, SE, und_2, und_123]
  refine mU e ?_ h
  refine .ret fun e h => ?_
  cases h
  simp only [seval, SF, Tryz.results121]

def r33_right (a0 : ApiPos) (a1 : ApiMove) : Option Bool :=
  bindO (r33_apart a0.X a1.Center.X) fun (y101 : Int) =>
  bindO (r33_apart a0.Y a1.Center.Y) fun (y102 : Int) =>
  bindO (r33_apart a1.To.X a1.Center.X) fun (y103 : Int) =>
  bindO (r33_apart a1.To.Y a1.Center.Y) fun (y104 : Int) =>
  some (!((y101 == 0) == (y102 == 0)) && (!((y103 == 0) == (y104 == 0)) && ((IntKind.u64.wrap (y101 + y102)) == (IntKind.u64.wrap (y103 + y104)))))
theorem r33_right_spec {a0 : ApiPos} {a1 : ApiMove} {y : Bool} (h : r33_right a0 a1 = some y) : Spec gP 78 [.agg [.d (.int .i64 a0.X), .d (.int .i64 a0.Y), .d (.int .i64 a0.Z)], .agg [.d (.int .i64 a1.Kind), .d (.int .i64 a1.To.X), .d (.int .i64 a1.To.Y), .d (.int .i64 a1.To.Z), .d (.int .i64 a1.Center.X), .d (.int .i64 a1.Center.Y), .d (.int .i64 a1.Rate)]] (.d (.bool y)) := by
  refine spec_mir Tryz.func78 rfl (by kernel_rfl) (by kernel_rfl) (fun y : Bool => .d (.bool y)) ?_ h
  unfold r33_right
  simp only [List.replicate, List.length, nS, nA, Tryz.ntmps78, SV]
  refine .seqK (.region fun e h => ?_)
  simp only [seval, SE]
  refine mU e ?_ h
  refine .seqK (.bind fun y101 hy1 => .bind fun y102 hy2 => .regionD [] (by kernel_rfl) fun e h => ?_)
  simp only [seval, SE, SB, fld_23_0, sz_2, ag_2, fld_27_2, sz_25, fld_25_0]
  refine Spec.by (r33_apart_spec hy1) (by simp only [seval, SF]) ?_
  simp only [seval, SE, SB, fld_23_1, sz_2, ag_2, fld_27_2, sz_25, fld_25_1]
  refine Spec.by (r33_apart_spec hy2) (by simp only [seval, SF]) ?_
  simp only [seval, SE, SB]
  refine mU e ?_ h
  refine .seqK (.bind fun y103 hy3 => .bind fun y104 hy4 => .regionD [] (by kernel_rfl) fun e h => ?_)
  simp only [seval, SE, SB, fld_27_1, sz_23, fld_23_0, sz_2, ag_2, fld_27_2, sz_25, fld_25_0]
  refine Spec.by (r33_apart_spec hy3) (by simp only [seval, SF]) ?_
  simp only [seval, SE, SB, fld_27_1, sz_23, fld_23_1, sz_2, ag_2, fld_27_2, sz_25, fld_25_1]
  refine Spec.by (r33_apart_spec hy4) (by simp only [seval, SF]) ?_
  simp only [seval, SE, SB]
  refine mU e ?_ h
  refine .seqK (.joinV (U :: U :: U :: U :: .d (.bool (!((y101 == 0) == (y102 == 0)) && (!((y103 == 0) == (y104 == 0)) && ((IntKind.u64.wrap (y101 + y102)) == (IntKind.u64.wrap (y103 + y104)))))) :: us 51) ⟨[[.d (.int .i64 a0.X), .d (.int .i64 a0.Y), .d (.int .i64 a0.Z)], [.d (.int .i64 a1.Kind), .d (.int .i64 a1.To.X), .d (.int .i64 a1.To.Y), .d (.int .i64 a1.To.Z), .d (.int .i64 a1.Center.X), .d (.int .i64 a1.Center.Y), .d (.int .i64 a1.Rate)]], []⟩ rfl ?_ ?_)
  refine SWs.region ?_
  rcases Bool.eq_false_or_eq_true ((y101 == 0) == (y102 == 0)) with hb5 | hb5
  simp only [seval, SE, SL, PB, und_4, hb5]
  rcases Bool.eq_false_or_eq_true ((y103 == 0) == (y104 == 0)) with hb6 | hb6
  simp only [seval, SE, SL, PB, und_4, hb5, hb6]
  simp only [seval, SE, SL, PB, und_4, hb5, hb6]
  refine Mir.toK (.ret fun e h => ?_)
  cases h
  simp only [seval, SF, Tryz.results78]

def r33_quadrant (a0 : Int) (a1 : Int) : Option (Int × Int) :=
  if ((decide (a0 > 0)) && (a1 == 0)) = true then
    some (0, a0)
  else
    if ((a0 == 0) && (decide (a1 > 0))) = true then
      some (1, a1)
    else
      if ((decide (a0 < 0)) && (a1 == 0)) = true then
        some (2, IntKind.i64.wrap (0 - a0))
      else
        if ((a0 == 0) && (decide (a1 < 0))) = true then
          some (3, IntKind.i64.wrap (0 - a1))
        else
          some (-1, 0)
theorem r33_quadrant_spec {a0 : Int} {a1 : Int} {y : Int × Int} (h : r33_quadrant a0 a1 = some y) : Spec gP 79 [.d (.int .i64 a0), .d (.int .i64 a1)] (.tuple [.d (.int .i64 y.1), .d (.int .i64 y.2)]) := by
  refine spec_mir Tryz.func79 rfl (by kernel_rfl) (by kernel_rfl) (fun y : Int × Int => .tuple [.d (.int .i64 y.1), .d (.int .i64 y.2)]) ?_ h
  unfold r33_quadrant
  simp only [List.replicate, List.length, nS, nA, Tryz.ntmps79, SV]
  refine .seqK (.region fun e h => ?_)
  simp only [seval, SE]
  refine mU e ?_ h
  refine .seqK (.block (.seqK (.joinV (.d (.int .i64 a0) :: .d (.int .i64 a1) :: U :: U :: U :: U :: .d (.bool ((decide (a0 > 0)) && (a1 == 0))) :: us 33) ⟨[], []⟩ rfl ?_ ?_)))
  refine SWs.region ?_
  rcases Bool.eq_false_or_eq_true (decide (a0 > 0)) with hb9 | hb9
  simp only [seval, SE, SL, PB, hb9]
  simp only [seval, SE, SL, PB, hb9]
  refine Mir.toK (.cond rfl (fun hb17 => ?_) (fun hb17 => ?_))
  refine .seqK (.region fun e h => ?_)
  simp only [seval, SE]
  refine mU e ?_ h
  refine .ret fun e h => ?_
  cases h
  simp only [seval, SF, Tryz.results79]
  refine .seqK (.joinV (.d (.int .i64 a0) :: .d (.int .i64 a1) :: U :: U :: U :: U :: U :: U :: U :: U :: U :: U :: U :: U :: .d (.bool ((a0 == 0) && (decide (a1 > 0)))) :: us 25) ⟨[], []⟩ rfl ?_ ?_)
  refine SWs.region ?_
  rcases Bool.eq_false_or_eq_true (a0 == 0) with hb18 | hb18
  simp only [seval, SE, SL, PB, hb18]
  simp only [seval, SE, SL, PB, hb18]
  refine Mir.toK (.cond rfl (fun hb24 => ?_) (fun hb24 => ?_))
  refine .seqK (.region fun e h => ?_)
  simp only [seval, SE]
  refine mU e ?_ h
  refine .ret fun e h => ?_
  cases h
  simp only [seval, SF, Tryz.results79]
  refine .seqK (.joinV (.d (.int .i64 a0) :: .d (.int .i64 a1) :: U :: U :: U :: U :: U :: U :: U :: U :: U :: U :: U :: U :: U :: U :: U :: U :: U :: U :: U :: U :: .d (.bool ((decide (a0 < 0)) && (a1 == 0))) :: us 17) ⟨[], []⟩ rfl ?_ ?_)
  refine SWs.region ?_
  rcases Bool.eq_false_or_eq_true (decide (a0 < 0)) with hb25 | hb25
  simp only [seval, SE, SL, PB, hb25]
  simp only [seval, SE, SL, PB, hb25]
  refine Mir.toK (.cond rfl (fun hb29 => ?_) (fun hb29 => ?_))
  refine .seqK (.region fun e h => ?_)
  simp only [seval, SE]
  refine mU e ?_ h
  refine .ret fun e h => ?_
  cases h
  simp only [seval, SF, Tryz.results79]
  refine .seqK (.joinV (U :: .d (.int .i64 a1) :: U :: U :: U :: U :: U :: U :: U :: U :: U :: U :: U :: U :: U :: U :: U :: U :: U :: U :: U :: U :: U :: U :: U :: U :: U :: U :: U :: U :: U :: .d (.bool ((a0 == 0) && (decide (a1 < 0)))) :: us 8) ⟨[], []⟩ rfl ?_ ?_)
  refine SWs.region ?_
  rcases Bool.eq_false_or_eq_true (a0 == 0) with hb30 | hb30
  simp only [seval, SE, SL, PB, hb30]
  simp only [seval, SE, SL, PB, hb30]
  refine Mir.toK (.cond rfl (fun hb32 => ?_) (fun hb32 => ?_))
  refine .seqK (.region fun e h => ?_)
  simp only [seval, SE]
  refine mU e ?_ h
  refine .ret fun e h => ?_
  cases h
  simp only [seval, SF, Tryz.results79]
  refine .skip (Mir.toB (Mir.toK (.seqK (.region fun e h => ?_))))
  simp only [seval, SE]
  refine mU e ?_ h
  refine .ret fun e h => ?_
  cases h
  simp only [seval, SF, Tryz.results79]

def r33_Valid (a0 : ApiPos) (a1 : ApiMove) : Option Int :=
  bindO (if (if (a1.Kind == 1) = true then (a1.Rate == 0) || ((a1.Kind == 2) && (decide (a1.Rate > 0))) else (a1.Kind == 2) && (decide (a1.Rate > 0))) = true then
        some false
      else
        bindO (r33_arc a1) fun (y101 : Bool) =>
        if y101 = true then
          some (decide (a1.Rate ≤ 0))
        else
          some true) fun (v102 : Bool) =>
  if v102 = true then
    some 1
  else
    bindO (bindO (r33_far a0.X) fun (y103 : Bool) =>
        if y103 = true then
          some true
        else
          bindO (r33_far a0.Y) fun (y104 : Bool) =>
          if y104 = true then
            some true
          else
            bindO (r33_far a0.Z) fun (y105 : Bool) =>
            if y105 = true then
              some true
            else
              bindO (r33_far a1.To.X) fun (y106 : Bool) =>
              if y106 = true then
                some true
              else
                bindO (r33_far a1.To.Y) fun (y107 : Bool) =>
                if y107 = true then
                  some true
                else
                  bindO (r33_far a1.To.Z) fun (y108 : Bool) =>
                  some y108) fun (v109 : Bool) =>
    if (if (a1.Kind == 1) = true then (a1.Rate == 0) || ((a1.Kind == 2) && (decide (a1.Rate > 0))) else (a1.Kind == 2) && (decide (a1.Rate > 0))) = true then
      if v109 = true then
        some 11
      else
        some 0
    else
      bindO (if v109 = true then
            some true
          else
            bindO (r33_far a1.Center.X) fun (y110 : Bool) =>
            if y110 = true then
              some true
            else
              bindO (r33_far a1.Center.Y) fun (y111 : Bool) =>
              some y111) fun (v112 : Bool) =>
      if v112 = true then
        bindO (r33_right a0 a1) fun (y114 : Bool) =>
        if (!y114) = true then
          some 1
        else
          some 11
      else
        bindO (r33_quadrant (IntKind.i64.wrap (a0.X - a1.Center.X)) (IntKind.i64.wrap (a0.Y - a1.Center.Y))) fun (y115 : Int × Int) =>
        bindO (r33_quadrant (IntKind.i64.wrap (a1.To.X - a1.Center.X)) (IntKind.i64.wrap (a1.To.Y - a1.Center.Y))) fun (y116 : Int × Int) =>
        if ((decide (y115.1 < 0)) || ((decide (y116.1 < 0)) || (y115.2 != y116.2))) = true then
          some 1
        else
          bindO (bindO (r33_far (IntKind.i64.wrap (a1.Center.X + y115.2))) fun (y117 : Bool) =>
              if y117 = true then
                some true
              else
                bindO (r33_far (IntKind.i64.wrap (a1.Center.X - y115.2))) fun (y118 : Bool) =>
                if y118 = true then
                  some true
                else
                  bindO (r33_far (IntKind.i64.wrap (a1.Center.Y + y115.2))) fun (y119 : Bool) =>
                  if y119 = true then
                    some true
                  else
                    bindO (r33_far (IntKind.i64.wrap (a1.Center.Y - y115.2))) fun (y120 : Bool) =>
                    some y120) fun (v121 : Bool) =>
          if v121 = true then
            some 11
          else
            some 0
set_option maxHeartbeats 8000000 in
theorem r33_Valid_spec {a0 : ApiPos} {a1 : ApiMove} {y : Int} (h : r33_Valid a0 a1 = some y) : Spec gP 35 [.agg [.d (.int .i64 a0.X), .d (.int .i64 a0.Y), .d (.int .i64 a0.Z)], .agg [.d (.int .i64 a1.Kind), .d (.int .i64 a1.To.X), .d (.int .i64 a1.To.Y), .d (.int .i64 a1.To.Z), .d (.int .i64 a1.Center.X), .d (.int .i64 a1.Center.Y), .d (.int .i64 a1.Rate)]] (.d (.int .i64 y)) := by
  refine spec_mir Tryz.func35 rfl (by kernel_rfl) (by kernel_rfl) (fun y : Int => .d (.int .i64 y)) ?_ h
  unfold r33_Valid
  simp only [List.replicate, List.length, nS, nA, Tryz.ntmps35, SV]
  refine .seqK (.region fun e h => ?_)
  simp only [seval, SE]
  refine mU e ?_ h
  refine .seqK (.joinV (U :: U :: .ptr 0 0 :: .ptr 1 0 :: U :: .d (.bool (if (a1.Kind == 1) = true then (a1.Rate == 0) || ((a1.Kind == 2) && (decide (a1.Rate > 0))) else (a1.Kind == 2) && (decide (a1.Rate > 0)))) :: us 160) ⟨[[.d (.int .i64 a0.X), .d (.int .i64 a0.Y), .d (.int .i64 a0.Z)], [.d (.int .i64 a1.Kind), .d (.int .i64 a1.To.X), .d (.int .i64 a1.To.Y), .d (.int .i64 a1.To.Z), .d (.int .i64 a1.Center.X), .d (.int .i64 a1.Center.Y), .d (.int .i64 a1.Rate)]], []⟩ rfl ?_ ?_)
  refine SWs.region ?_
  rcases Bool.eq_false_or_eq_true (a1.Kind == 1) with hb1 | hb1
  rcases Bool.eq_false_or_eq_true (a1.Rate == 0) with hb2 | hb2
  simp only [seval, SE, SL, PB, fld_27_0, sz_3, ag_3, fld_27_3, sz_2, ag_2, hb1, hb2]
  rcases Bool.eq_false_or_eq_true (a1.Kind == 2) with hb3 | hb3
  simp only [seval, SE, SL, PB, fld_27_0, sz_3, ag_3, fld_27_3, sz_2, ag_2, hb1, hb2, hb3]
  simp only [seval, SE, SL, PB, fld_27_0, sz_3, ag_3, fld_27_3, sz_2, ag_2, hb1, hb2, hb3]
  rcases Bool.eq_false_or_eq_true (a1.Kind == 2) with hb4 | hb4
  simp only [seval, SE, SL, PB, fld_27_0, sz_3, ag_3, fld_27_3, sz_2, ag_2, hb1, hb4]
  simp only [seval, SE, SL, PB, fld_27_0, sz_3, ag_3, hb1, hb4]
  refine Mir.toK (.seqK (.seqK (Mir.joinO (fun v102 : Bool => (U :: U :: .ptr 0 0 :: .ptr 1 0 :: U :: .d (.bool (if (a1.Kind == 1) = true then (a1.Rate == 0) || ((a1.Kind == 2) && (decide (a1.Rate > 0))) else (a1.Kind == 2) && (decide (a1.Rate > 0)))) :: U :: U :: U :: U :: U :: U :: U :: U :: U :: U :: U :: U :: U :: U :: U :: U :: U :: U :: U :: U :: U :: U :: U :: U :: U :: U :: U :: U :: U :: U :: U :: U :: U :: U :: .d (.bool v102) :: us 125)) (fun v102 => ⟨[[.d (.int .i64 a0.X), .d (.int .i64 a0.Y), .d (.int .i64 a0.Z)], [.d (.int .i64 a1.Kind), .d (.int .i64 a1.To.X), .d (.int .i64 a1.To.Y), .d (.int .i64 a1.To.Z), .d (.int .i64 a1.Center.X), .d (.int .i64 a1.Center.Y), .d (.int .i64 a1.Rate)]], []⟩) (fun _ => rfl) ?_ ?_)))
  refine .ite (fun hb5 => ?_) (fun hb5 => ?_)
  refine .region fun e h => ?_
  simp only [seval, SE, hb5]
  cases h
  simp only [seval, SF, hb5]
  refine .bind fun y101 hy6 => .ite (fun hb7 => ?_) (fun hb7 => ?_)
  refine .region fun e h => ?_
  simp only [seval, SE, ag_27, sz_27, hb5, hb7]
  refine SpecS.by (r33_arc_spec hy6) (by simp only [seval, SF, hb5, hb7]) ?_
  simp only [seval, SE, fld_27_3, sz_2, ag_2, hb5, hb7]
  cases h
  simp only [seval, SF, hb5, hb7]
  refine .region fun e h => ?_
  simp only [seval, SE, ag_27, sz_27, hb5, hb7]
  refine SpecS.by (r33_arc_spec hy6) (by simp only [seval, SF, hb5, hb7]) ?_
  simp only [seval, SE, hb5, hb7]
  cases h
  simp only [seval, SF, hb5, hb7]
  intro v102
  refine Mir.toK (.cond rfl (fun hb9 => ?_) (fun hb9 => ?_))
  refine .seqK (.region fun e h => ?_)
  simp only [seval, SE]
  refine mU e ?_ h
  refine .ret fun e h => ?_
  cases h
  simp only [seval, SF, Tryz.results35]
  refine .skip (Mir.toK (.seqK (Mir.joinO (fun v109 : Bool => (U :: U :: .ptr 0 0 :: .ptr 1 0 :: U :: .d (.bool (if (a1.Kind == 1) = true then (a1.Rate == 0) || ((a1.Kind == 2) && (decide (a1.Rate > 0))) else (a1.Kind == 2) && (decide (a1.Rate > 0)))) :: .d (.bool v109) :: us 159)) (fun v109 => ⟨[[.d (.int .i64 a0.X), .d (.int .i64 a0.Y), .d (.int .i64 a0.Z)], [.d (.int .i64 a1.Kind), .d (.int .i64 a1.To.X), .d (.int .i64 a1.To.Y), .d (.int .i64 a1.To.Z), .d (.int .i64 a1.Center.X), .d (.int .i64 a1.Center.Y), .d (.int .i64 a1.Rate)]], []⟩) (fun _ => rfl) ?_ ?_)))
  refine .bind fun y103 hy10 => .ite (fun hb11 => ?_) (fun hb11 => ?_)
  refine .region fun e h => ?_
  simp only [seval, SE, fld_23_0, sz_2, ag_2, hb11]
  refine SpecS.by (r33_far_spec hy10) (by simp only [seval, SF, hb11]) ?_
  simp only [seval, SE, hb11]
  cases h
  simp only [seval, SF, hb11]
  refine .bind fun y104 hy12 => .ite (fun hb13 => ?_) (fun hb13 => ?_)
  refine .region fun e h => ?_
  simp only [seval, SE, fld_23_0, sz_2, ag_2, hb11, hb13]
  refine SpecS.by (r33_far_spec hy10) (by simp only [seval, SF, hb11, hb13]) ?_
  simp only [seval, SE, fld_23_1, sz_2, ag_2, hb11, hb13]
  refine SpecS.by (r33_far_spec hy12) (by simp only [seval, SF, hb11, hb13]) ?_
  simp only [seval, SE, hb11, hb13]
  cases h
  simp only [seval, SF, hb11, hb13]
  refine .bind fun y105 hy14 => .ite (fun hb15 => ?_) (fun hb15 => ?_)
  refine .region fun e h => ?_
  simp only [seval, SE, fld_23_0, sz_2, ag_2, hb11, hb13, hb15]
  refine SpecS.by (r33_far_spec hy10) (by simp only [seval, SF, hb11, hb13, hb15]) ?_
  simp only [seval, SE, fld_23_1, sz_2, ag_2, hb11, hb13, hb15]
  refine SpecS.by (r33_far_spec hy12) (by simp only [seval, SF, hb11, hb13, hb15]) ?_
  simp only [seval, SE, fld_23_2, sz_2, ag_2, hb11, hb13, hb15]
  refine SpecS.by (r33_far_spec hy14) (by simp only [seval, SF, hb11, hb13, hb15]) ?_
  simp only [seval, SE, hb11, hb13, hb15]
  cases h
  simp only [seval, SF, hb11, hb13, hb15]
  refine .bind fun y106 hy16 => .ite (fun hb17 => ?_) (fun hb17 => ?_)
  refine .region fun e h => ?_
  simp only [seval, SE, fld_23_0, sz_2, ag_2, hb11, hb13, hb15, hb17]
  refine SpecS.by (r33_far_spec hy10) (by simp only [seval, SF, hb11, hb13, hb15, hb17]) ?_
  simp only [seval, SE, fld_23_1, sz_2, ag_2, hb11, hb13, hb15, hb17]
  refine SpecS.by (r33_far_spec hy12) (by simp only [seval, SF, hb11, hb13, hb15, hb17]) ?_
  simp only [seval, SE, fld_23_2, sz_2, ag_2, hb11, hb13, hb15, hb17]
  refine SpecS.by (r33_far_spec hy14) (by simp only [seval, SF, hb11, hb13, hb15, hb17]) ?_
  simp only [seval, SE, fld_27_1, sz_23, fld_23_0, sz_2, ag_2, hb11, hb13, hb15, hb17]
  refine SpecS.by (r33_far_spec hy16) (by simp only [seval, SF, hb11, hb13, hb15, hb17]) ?_
  simp only [seval, SE, hb11, hb13, hb15, hb17]
  cases h
  simp only [seval, SF, hb11, hb13, hb15, hb17]
  refine .bind fun y107 hy18 => .ite (fun hb19 => ?_) (fun hb19 => ?_)
  refine .region fun e h => ?_
  simp only [seval, SE, fld_23_0, sz_2, ag_2, hb11, hb13, hb15, hb17, hb19]
  refine SpecS.by (r33_far_spec hy10) (by simp only [seval, SF, hb11, hb13, hb15, hb17, hb19]) ?_
  simp only [seval, SE, fld_23_1, sz_2, ag_2, hb11, hb13, hb15, hb17, hb19]
  refine SpecS.by (r33_far_spec hy12) (by simp only [seval, SF, hb11, hb13, hb15, hb17, hb19]) ?_
  simp only [seval, SE, fld_23_2, sz_2, ag_2, hb11, hb13, hb15, hb17, hb19]
  refine SpecS.by (r33_far_spec hy14) (by simp only [seval, SF, hb11, hb13, hb15, hb17, hb19]) ?_
  simp only [seval, SE, fld_27_1, sz_23, fld_23_0, sz_2, ag_2, hb11, hb13, hb15, hb17, hb19]
  refine SpecS.by (r33_far_spec hy16) (by simp only [seval, SF, hb11, hb13, hb15, hb17, hb19]) ?_
  simp only [seval, SE, fld_27_1, sz_23, fld_23_1, sz_2, ag_2, hb11, hb13, hb15, hb17, hb19]
  refine SpecS.by (r33_far_spec hy18) (by simp only [seval, SF, hb11, hb13, hb15, hb17, hb19]) ?_
  simp only [seval, SE, hb11, hb13, hb15, hb17, hb19]
  cases h
  simp only [seval, SF, hb11, hb13, hb15, hb17, hb19]
  refine .bind fun y108 hy20 => .region fun e h => ?_
  simp only [seval, SE, fld_23_0, sz_2, ag_2, hb11, hb13, hb15, hb17, hb19]
  refine SpecS.by (r33_far_spec hy10) (by simp only [seval, SF, hb11, hb13, hb15, hb17, hb19]) ?_
  simp only [seval, SE, fld_23_1, sz_2, ag_2, hb11, hb13, hb15, hb17, hb19]
  refine SpecS.by (r33_far_spec hy12) (by simp only [seval, SF, hb11, hb13, hb15, hb17, hb19]) ?_
  simp only [seval, SE, fld_23_2, sz_2, ag_2, hb11, hb13, hb15, hb17, hb19]
  refine SpecS.by (r33_far_spec hy14) (by simp only [seval, SF, hb11, hb13, hb15, hb17, hb19]) ?_
  simp only [seval, SE, fld_27_1, sz_23, fld_23_0, sz_2, ag_2, hb11, hb13, hb15, hb17, hb19]
  refine SpecS.by (r33_far_spec hy16) (by simp only [seval, SF, hb11, hb13, hb15, hb17, hb19]) ?_
  simp only [seval, SE, fld_27_1, sz_23, fld_23_1, sz_2, ag_2, hb11, hb13, hb15, hb17, hb19]
  refine SpecS.by (r33_far_spec hy18) (by simp only [seval, SF, hb11, hb13, hb15, hb17, hb19]) ?_
  simp only [seval, SE, fld_27_1, sz_23, fld_23_2, sz_2, ag_2, hb11, hb13, hb15, hb17, hb19]
  refine SpecS.by (r33_far_spec hy20) (by simp only [seval, SF, hb11, hb13, hb15, hb17, hb19]) ?_
  simp only [seval, SE, hb11, hb13, hb15, hb17, hb19]
  cases h
  simp only [seval, SF, hb11, hb13, hb15, hb17, hb19]
  intro v109
  refine Mir.toK (.seqK (.seqK (.region fun e h => ?_)))
  simp only [seval, SE]
  refine mU e ?_ h
  refine .cond rfl (fun hb24 => ?_) (fun hb24 => ?_)
  refine .seqK (.seqK (.region fun e h => ?_))
  simp only [seval, SE]
  refine mU e ?_ h
  refine .cond rfl (fun hb26 => ?_) (fun hb26 => ?_)
  refine .seqK (.region fun e h => ?_)
  simp only [seval, SE]
  refine mU e ?_ h
  refine .ret fun e h => ?_
  cases h
  simp only [seval, SF, Tryz.results35]
  refine .skip (Mir.toK (.seqK (.region fun e h => ?_)))
  simp only [seval, SE]
  refine mU e ?_ h
  refine .ret fun e h => ?_
  cases h
  simp only [seval, SF, Tryz.results35]
  refine .skip (Mir.toK (.seqK (.seqK (Mir.joinO (fun v112 : Bool => (U :: U :: .ptr 0 0 :: .ptr 1 0 :: U :: U :: U :: U :: U :: U :: U :: U :: U :: U :: U :: U :: U :: U :: U :: U :: U :: U :: U :: U :: U :: U :: U :: U :: U :: U :: U :: U :: U :: U :: U :: U :: U :: U :: U :: U :: U :: U :: U :: U :: U :: U :: U :: U :: U :: U :: U :: U :: U :: U :: U :: U :: U :: U :: U :: U :: U :: U :: U :: U :: U :: U :: U :: U :: U :: U :: U :: U :: U :: U :: U :: U :: U :: U :: U :: U :: U :: U :: U :: U :: U :: U :: .d (.bool v112) :: us 79)) (fun v112 => ⟨[[.d (.int .i64 a0.X), .d (.int .i64 a0.Y), .d (.int .i64 a0.Z)], [.d (.int .i64 a1.Kind), .d (.int .i64 a1.To.X), .d (.int .i64 a1.To.Y), .d (.int .i64 a1.To.Z), .d (.int .i64 a1.Center.X), .d (.int .i64 a1.Center.Y), .d (.int .i64 a1.Rate)]], []⟩) (fun _ => rfl) ?_ ?_))))
  refine .ite (fun hb27 => ?_) (fun hb27 => ?_)
  refine .region fun e h => ?_
  simp only [seval, SE, hb27]
  cases h
  simp only [seval, SF, hb27]
  refine .bind fun y110 hy28 => .ite (fun hb29 => ?_) (fun hb29 => ?_)
  refine .region fun e h => ?_
  simp only [seval, SE, fld_27_2, sz_25, fld_25_0, sz_2, ag_2, hb27, hb29]
  refine SpecS.by (r33_far_spec hy28) (by simp only [seval, SF, hb27, hb29]) ?_
  simp only [seval, SE, hb27, hb29]
  cases h
  simp only [seval, SF, hb27, hb29]
  refine .bind fun y111 hy30 => .region fun e h => ?_
  simp only [seval, SE, fld_27_2, sz_25, fld_25_0, sz_2, ag_2, hb27, hb29]
  refine SpecS.by (r33_far_spec hy28) (by simp only [seval, SF, hb27, hb29]) ?_
  simp only [seval, SE, fld_27_2, sz_25, fld_25_1, sz_2, ag_2, hb27, hb29]
  refine SpecS.by (r33_far_spec hy30) (by simp only [seval, SF, hb27, hb29]) ?_
  simp only [seval, SE, hb27, hb29]
  cases h
  simp only [seval, SF, hb27, hb29]
  intro v112
  refine Mir.toK (.cond rfl (fun hb35 => ?_) (fun hb35 => ?_))
  refine .seqK (.seqK (.bind fun y114 hy36 => .region fun e h => ?_))
  simp only [seval, SE, ag_23, sz_23, ag_27, sz_27]
  refine SpecS.by (r33_right_spec hy36) (by simp only [seval, SF]) ?_
  simp only [seval, SE]
  refine mU e ?_ h
  refine .cond rfl (fun hb38 => ?_) (fun hb38 => ?_)
  refine .seqK (.region fun e h => ?_)
  simp only [seval, SE]
  refine mU e ?_ h
  refine .ret fun e h => ?_
  cases h
  simp only [seval, SF, Tryz.results35]
  refine .skip (Mir.toK (.seqK (.region fun e h => ?_)))
  simp only [seval, SE]
  refine mU e ?_ h
  refine .ret fun e h => ?_
  cases h
  simp only [seval, SF, Tryz.results35]
  refine .skip (Mir.toK (.seqK (.bind fun y115 hy39 => .region fun e h => ?_)))
  simp only [seval, SE, fld_23_0, sz_2, ag_2, fld_27_2, sz_25, fld_25_0, fld_23_1, fld_25_1]
  refine SpecS.by (r33_quadrant_spec hy39) (by simp only [seval, SF]) ?_
  simp only [seval, SE]
  refine mU e ?_ h
  refine .seqK (.bind fun y116 hy40 => .region fun e h => ?_)
  simp only [seval, SE, fld_27_1, sz_23, fld_23_0, sz_2, ag_2, fld_27_2, sz_25, fld_25_0, fld_23_1, fld_25_1]
  refine SpecS.by (r33_quadrant_spec hy40) (by simp only [seval, SF]) ?_
  simp only [seval, SE]
  refine mU e ?_ h
  refine .seqK (.seqK (.joinV (U :: U :: U :: .ptr 1 0 :: U :: U :: U :: U :: .d (.int .i64 y115.2) :: U :: U :: U :: U :: U :: U :: U :: U :: U :: U :: U :: U :: U :: U :: U :: U :: U :: U :: U :: U :: U :: U :: U :: U :: U :: U :: U :: U :: U :: U :: U :: U :: U :: U :: U :: U :: U :: U :: U :: U :: U :: U :: U :: U :: U :: U :: U :: U :: U :: U :: U :: U :: U :: U :: U :: U :: U :: U :: U :: U :: U :: U :: U :: U :: U :: U :: U :: U :: U :: U :: U :: U :: U :: U :: U :: U :: U :: U :: U :: U :: U :: U :: U :: U :: U :: U :: U :: U :: U :: U :: U :: U :: U :: U :: U :: U :: U :: U :: U :: U :: U :: U :: U :: U :: U :: U :: U :: U :: U :: U :: U :: U :: U :: U :: U :: U :: U :: U :: U :: U :: U :: U :: U :: U :: U :: U :: .d (.bool ((decide (y115.1 < 0)) || ((decide (y116.1 < 0)) || (y115.2 != y116.2)))) :: us 30) ⟨[[.d (.int .i64 a0.X), .d (.int .i64 a0.Y), .d (.int .i64 a0.Z)], [.d (.int .i64 a1.Kind), .d (.int .i64 a1.To.X), .d (.int .i64 a1.To.Y), .d (.int .i64 a1.To.Z), .d (.int .i64 a1.Center.X), .d (.int .i64 a1.Center.Y), .d (.int .i64 a1.Rate)]], []⟩ rfl ?_ ?_))
  refine SWs.region ?_
  rcases Bool.eq_false_or_eq_true (decide (y115.1 < 0)) with hb41 | hb41
  simp only [seval, SE, SL, PB, hb41]
  rcases Bool.eq_false_or_eq_true (decide (y116.1 < 0)) with hb42 | hb42
  simp only [seval, SE, SL, PB, hb41, hb42]
  simp only [seval, SE, SL, PB, hb41, hb42]
  refine Mir.toK (.cond rfl (fun hb44 => ?_) (fun hb44 => ?_))
  refine .seqK (.region fun e h => ?_)
  simp only [seval, SE]
  refine mU e ?_ h
  refine .ret fun e h => ?_
  cases h
  simp only [seval, SF, Tryz.results35]
  refine .skip (Mir.toK (.seqK (.seqK (Mir.joinO (fun v121 : Bool => [U, U, U, U, U, U, U, U, U, U, U, U, U, U, U, U, U, U, U, U, U, U, U, U, U, U, U, U, U, U, U, U, U, U, U, U, U, U, U, U, U, U, U, U, U, U, U, U, U, U, U, U, U, U, U, U, U, U, U, U, U, U, U, U, U, U, U, U, U, U, U, U, U, U, U, U, U, U, U, U, U, U, U, U, U, U, U, U, U, U, U, U, U, U, U, U, U, U, U, U, U, U, U, U, U, U, U, U, U, U, U, U, U, U, U, U, U, U, U, U, U, U, U, U, U, U, U, U, U, U, U, U, U, U, U, U, U, U, U, U, U, U, U, U, U, U, U, U, U, U, U, U, U, U, U, U, U, U, U, U, U, U, U, U, U, .d (.bool v121)]) (fun v121 => ⟨[[.d (.int .i64 a0.X), .d (.int .i64 a0.Y), .d (.int .i64 a0.Z)], [.d (.int .i64 a1.Kind), .d (.int .i64 a1.To.X), .d (.int .i64 a1.To.Y), .d (.int .i64 a1.To.Z), .d (.int .i64 a1.Center.X), .d (.int .i64 a1.Center.Y), .d (.int .i64 a1.Rate)]], []⟩) (fun _ => rfl) ?_ ?_))))
  refine .bind fun y117 hy45 => .ite (fun hb46 => ?_) (fun hb46 => ?_)
  refine .region fun e h => ?_
  simp only [seval, SE, fld_27_2, sz_25, fld_25_0, sz_2, ag_2, hb46]
  refine SpecS.by (r33_far_spec hy45) (by simp only [seval, SF, hb46]) ?_
  simp only [seval, SE, hb46]
  cases h
  simp only [seval, SF, hb46]
  refine .bind fun y118 hy47 => .ite (fun hb48 => ?_) (fun hb48 => ?_)
  refine .region fun e h => ?_
  simp only [seval, SE, fld_27_2, sz_25, fld_25_0, sz_2, ag_2, hb46, hb48]
  refine SpecS.by (r33_far_spec hy45) (by simp only [seval, SF, hb46, hb48]) ?_
  simp only [seval, SE, fld_27_2, sz_25, fld_25_0, sz_2, ag_2, hb46, hb48]
  refine SpecS.by (r33_far_spec hy47) (by simp only [seval, SF, hb46, hb48]) ?_
  simp only [seval, SE, hb46, hb48]
  cases h
  simp only [seval, SF, hb46, hb48]
  refine .bind fun y119 hy49 => .ite (fun hb50 => ?_) (fun hb50 => ?_)
  refine .region fun e h => ?_
  simp only [seval, SE, fld_27_2, sz_25, fld_25_0, sz_2, ag_2, hb46, hb48, hb50]
  refine SpecS.by (r33_far_spec hy45) (by simp only [seval, SF, hb46, hb48, hb50]) ?_
  simp only [seval, SE, fld_27_2, sz_25, fld_25_0, sz_2, ag_2, hb46, hb48, hb50]
  refine SpecS.by (r33_far_spec hy47) (by simp only [seval, SF, hb46, hb48, hb50]) ?_
  simp only [seval, SE, fld_27_2, sz_25, fld_25_1, sz_2, ag_2, hb46, hb48, hb50]
  refine SpecS.by (r33_far_spec hy49) (by simp only [seval, SF, hb46, hb48, hb50]) ?_
  simp only [seval, SE, hb46, hb48, hb50]
  cases h
  simp only [seval, SF, hb46, hb48, hb50]
  refine .bind fun y120 hy51 => .region fun e h => ?_
  simp only [seval, SE, fld_27_2, sz_25, fld_25_0, sz_2, ag_2, hb46, hb48, hb50]
  refine SpecS.by (r33_far_spec hy45) (by simp only [seval, SF, hb46, hb48, hb50]) ?_
  simp only [seval, SE, fld_27_2, sz_25, fld_25_0, sz_2, ag_2, hb46, hb48, hb50]
  refine SpecS.by (r33_far_spec hy47) (by simp only [seval, SF, hb46, hb48, hb50]) ?_
  simp only [seval, SE, fld_27_2, sz_25, fld_25_1, sz_2, ag_2, hb46, hb48, hb50]
  refine SpecS.by (r33_far_spec hy49) (by simp only [seval, SF, hb46, hb48, hb50]) ?_
  simp only [seval, SE, fld_27_2, sz_25, fld_25_1, sz_2, ag_2, hb46, hb48, hb50]
  refine SpecS.by (r33_far_spec hy51) (by simp only [seval, SF, hb46, hb48, hb50]) ?_
  simp only [seval, SE, hb46, hb48, hb50]
  cases h
  simp only [seval, SF, hb46, hb48, hb50]
  intro v121
  refine Mir.toK (.cond rfl (fun hb53 => ?_) (fun hb53 => ?_))
  refine .seqK (.region fun e h => ?_)
  simp only [seval, SE]
  refine mU e ?_ h
  refine .ret fun e h => ?_
  cases h
  simp only [seval, SF, Tryz.results35]
  refine .skip (Mir.toK (.seqK (.region fun e h => ?_)))
  simp only [seval, SE]
  refine mU e ?_ h
  refine .ret fun e h => ?_
  cases h
  simp only [seval, SF, Tryz.results35]

def r46_word (a0 : Int) (a1 : Int) : Option ApiWord :=
  some (ApiWord.mk a0 a1)
theorem r46_word_spec {a0 : Int} {a1 : Int} {y : ApiWord} (h : r46_word a0 a1 = some y) : Spec gP 37 [.d (.int .u8 a0), .d (.int .i64 a1)] (.agg [.d (.int .u8 y.Letter), .d (.int .i64 y.Value)]) := by
  refine spec_mir Tryz.func37 rfl (by kernel_rfl) (by kernel_rfl) (fun y : ApiWord => .agg [.d (.int .u8 y.Letter), .d (.int .i64 y.Value)]) ?_ h
  unfold r46_word
  simp only [List.replicate, List.length, nS, nA, Tryz.ntmps37, SV]
  refine .seqK (.region fun e h => ?_)
  simp only [seval, SE, zero_77]
  refine mU e ?_ h
  refine .seqK (.region fun e h => ?_)
  simp only [seval, SE, zero_77, pl_77, sz_77]
  refine mU e ?_ h
  refine .ret fun e h => ?_
  cases h
  simp only [seval, SF, Tryz.results37, ag_77, sz_77]

def r46_line (a0 : (List ApiWord)) : Option ApiBlock :=
  some (ApiBlock.mk false a0 [])
theorem r46_line_specF {a0 : (List ApiWord)} {y : ApiBlock} (h : r46_line a0 = some y) : Spec gP 36 [.full (List.map encApiWord a0)] (.agg [.d (.bool y.Skip), .full (List.map encApiWord y.Words), .d (.str y.Comment)]) := by
  refine specF_mir Tryz.func36 rfl (by kernel_rfl) (by kernel_rfl) (fun y : ApiBlock => .agg [.d (.bool y.Skip), .full (List.map encApiWord y.Words), .d (.str y.Comment)]) ?_ h
  unfold r46_line
  simp only [List.replicate, List.length, nS, nA, Tryz.ntmps36, SV]
  refine .seqK (.region fun e h => ?_)
  simp only [seval, SE, zero_31, ENMB]
  refine mU e ?_ h
  refine .seqK (.region fun e h => ?_)
  simp only [seval, SE, zero_31, pl_31, sz_31, ENMB]
  refine mU e ?_ h
  refine .ret fun e h => ?_
  cases h
  simp only [seval, SF, ENMB, Tryz.results36, ag_31, sz_31]

def r46_Move (a0 : ApiPos) (a1 : ApiMove) : Option (ApiBlock × Int) :=
  bindO (r33_Valid a0 a1) fun (y101 : Int) =>
  if (y101 != 0) = true then
    some (ApiBlock.mk false [] [], y101)
  else
    if (decide (a1.Rate > 1000000000000)) = true then
      some (ApiBlock.mk false [] [], 11)
    else
      bindO (r46_word 71 (IntKind.i64.wrap (1000 * (IntKind.i64.wrap (a1.Kind - 1))))) fun (y102 : ApiWord) =>
      bindO (r46_word 88 a1.To.X) fun (y103 : ApiWord) =>
      bindO (r46_word 89 a1.To.Y) fun (y104 : ApiWord) =>
      bindO (r46_word 90 a1.To.Z) fun (y105 : ApiWord) =>
      bindO (r46_line [y102, y103, y104, y105]) fun (y106 : ApiBlock) =>
      if ((a1.Kind == 3) || (a1.Kind == 4)) = true then
        bindO (r46_word 73 (IntKind.i64.wrap (a1.Center.X - a0.X))) fun (y107 : ApiWord) =>
        bindO (r46_word 74 (IntKind.i64.wrap (a1.Center.Y - a0.Y))) fun (y108 : ApiWord) =>
        guardO (okLen (y106.Words.length + 2)) (
        if (a1.Kind != 1) = true then
          bindO (r46_word 70 a1.Rate) fun (y109 : ApiWord) =>
          guardO (okLen (y106.Words.length + 2 + 1)) (
          some (ApiBlock.mk y106.Skip (y106.Words ++ [y107, y108] ++ [y109]) y106.Comment, 0))
        else
          some (ApiBlock.mk y106.Skip (y106.Words ++ [y107, y108]) y106.Comment, 0))
      else
        if (a1.Kind != 1) = true then
          bindO (r46_word 70 a1.Rate) fun (y110 : ApiWord) =>
          guardO (okLen (y106.Words.length + 1)) (
          some (ApiBlock.mk y106.Skip (y106.Words ++ [y110]) y106.Comment, 0))
        else
          some (y106, 0)
theorem r46_Move_spec {a0 : ApiPos} {a1 : ApiMove} {y : ApiBlock × Int} (h : r46_Move a0 a1 = some y) : Spec gP 11 [.agg [.d (.int .i64 a0.X), .d (.int .i64 a0.Y), .d (.int .i64 a0.Z)], .agg [.d (.int .i64 a1.Kind), .d (.int .i64 a1.To.X), .d (.int .i64 a1.To.Y), .d (.int .i64 a1.To.Z), .d (.int .i64 a1.Center.X), .d (.int .i64 a1.Center.Y), .d (.int .i64 a1.Rate)]] (.tuple [.agg [.d (.bool y.1.Skip), .d (.list (List.map encApiWord y.1.Words)), .d (.str y.1.Comment)], .d (.int .i64 y.2)]) := by
  refine spec_mir Tryz.func11 rfl (by kernel_rfl) (by kernel_rfl) (fun y : ApiBlock × Int => .tuple [.agg [.d (.bool y.1.Skip), .d (.list (List.map encApiWord y.1.Words)), .d (.str y.1.Comment)], .d (.int .i64 y.2)]) ?_ h
  unfold r46_Move
  simp only [List.replicate, List.length, nS, nA, Tryz.ntmps11, SV]
  refine .seqK (.region fun e h => ?_)
  simp only [seval, SE, zero_31, ENMB]
  refine mU e ?_ h
  refine .seqK (.seqK (.bind fun y101 hy1 => .region fun e h => ?_))
  simp only [seval, SE, ag_23, sz_23, ag_27, sz_27, ENMB]
  refine SpecS.by (r33_Valid_spec hy1) (by simp only [seval, SF, ENMB]) ?_
  simp only [seval, SE, ENMB]
  refine mU e ?_ h
  refine .seqK (.region fun e h => ?_)
  simp only [seval, SE, ENMB]
  refine mU e ?_ h
  refine .cond rfl (fun hb2 => ?_) (fun hb2 => ?_)
  refine .seqK (.region fun e h => ?_)
  simp only [seval, SE, zero_31, pl_31, sz_31]
  refine mU e ?_ h
  refine .ret fun e h => ?_
  cases h
  simp only [seval, SF, Tryz.results11, ag_31, sz_31]
  refine .skip (Mir.toK (.seqK (.seqK (.region fun e h => ?_))))
  simp only [seval, SE, fld_27_3, sz_2, ag_2, ENMB]
  refine mU e ?_ h
  refine .cond rfl (fun hb3 => ?_) (fun hb3 => ?_)
  refine .seqK (.region fun e h => ?_)
  simp only [seval, SE, zero_31, pl_31, sz_31]
  refine mU e ?_ h
  refine .ret fun e h => ?_
  cases h
  simp only [seval, SF, Tryz.results11, ag_31, sz_31]
  refine .skip (Mir.toK (.seqK (.bind fun y102 hy4 => .bind fun y103 hy5 => .bind fun y104 hy6 => .bind fun y105 hy7 => .bind fun y106 hy8 => .regionD [] (by kernel_rfl) fun e h => ?_)))
  simp only [seval, SE, SB, fld_27_0, sz_3, ag_3, ENMB]
  refine Spec.by (r46_word_spec hy4) (by simp only [seval, SF, ENMB]) ?_
  simp only [seval, SE, SB, fld_27_1, sz_23, fld_23_0, sz_2, ag_2, ENMB]
  refine Spec.by (r46_word_spec hy5) (by simp only [seval, SF, ENMB]) ?_
  simp only [seval, SE, SB, fld_27_1, sz_23, fld_23_1, sz_2, ag_2, ENMB]
  refine Spec.by (r46_word_spec hy6) (by simp only [seval, SF, ENMB]) ?_
  simp only [seval, SE, SB, fld_27_1, sz_23, fld_23_2, sz_2, ag_2, ENMB]
  refine Spec.by (r46_word_spec hy7) (by simp only [seval, SF, ENMB]) ?_
  simp only [seval, SE, SB, und_29, sz_77, zero_77, (nr rfl : okLen 8 = true), ENMB]
  refine Spec.byF (r46_line_specF hy8) (by simp only [seval, SF, ENMB]) ?_
  simp only [seval, SE, SB, zero_31, sz_31, ENMB]
  refine mU e ?_ h
  refine .seqK (.seqK (.joinV (U :: U :: .ptr 0 0 :: .ptr 1 0 :: .ptr 2 0 :: U :: U :: .ptr 3 0 :: U :: U :: U :: U :: U :: U :: U :: U :: U :: U :: U :: U :: U :: U :: U :: U :: U :: U :: U :: U :: U :: U :: U :: U :: U :: U :: U :: U :: U :: U :: U :: U :: U :: U :: U :: U :: U :: .d (.bool ((a1.Kind == 3) || (a1.Kind == 4))) :: us 31) ⟨[[.d (.int .i64 a0.X), .d (.int .i64 a0.Y), .d (.int .i64 a0.Z)], [.d (.int .i64 a1.Kind), .d (.int .i64 a1.To.X), .d (.int .i64 a1.To.Y), .d (.int .i64 a1.To.Z), .d (.int .i64 a1.Center.X), .d (.int .i64 a1.Center.Y), .d (.int .i64 a1.Rate)], [.d (.bool false), .nil, .d (.str [])], [.d (.bool y106.Skip), .full (List.map encApiWord y106.Words), .d (.str y106.Comment)]], []⟩ rfl ?_ ?_))
  refine SWs.region ?_
  rcases Bool.eq_false_or_eq_true (a1.Kind == 3) with hb9 | hb9
  simp only [seval, SE, SL, PB, fld_27_0, sz_3, ag_3, hb9, ENMB]
  simp only [seval, SE, SL, PB, fld_27_0, sz_3, ag_3, hb9, ENMB]
  refine Mir.toK (.cond rfl (fun hb10 => ?_) (fun hb10 => ?_))
  refine .bind fun y107 hy11 => .bind fun y108 hy12 => .guard fun q13 => .regionD [] (by kernel_rfl) fun e h => ?_
  simp only [seval, SE, SB, fld_31_1, sz_29, ag_29, fld_27_2, sz_25, fld_25_0, sz_2, ag_2, fld_23_0, ENMB]
  refine Spec.by (r46_word_spec hy11) (by simp only [seval, SF, ENMB]) ?_
  simp only [seval, SE, SB, fld_27_2, sz_25, fld_25_1, sz_2, ag_2, fld_23_1, ENMB]
  refine Spec.by (r46_word_spec hy12) (by simp only [seval, SF, ENMB]) ?_
  simp only [seval, SE, SB, und_29, sz_77, zero_77, (nr rfl : okLen 4 = true), app_29, al_ApiWord, q13, fld_31_1, sz_29, ENMB]
  refine mU e ?_ h
  refine .seqK (.seqK (.region fun e h => ?_))
  simp only [seval, SE, fld_27_0, sz_3, ag_3, ENMB]
  refine mU e ?_ h
  refine .cond rfl (fun hb14 => ?_) (fun hb14 => ?_)
  refine .bind fun y109 hy15 => .guard fun q16 => .regionD [] (by kernel_rfl) fun e h => ?_
  simp only [seval, SE, SB, fld_31_1, sz_29, ag_29, fld_27_3, sz_2, ag_2, ENMB]
  refine Spec.by (r46_word_spec hy15) (by simp only [seval, SF, ENMB]) ?_
  simp only [seval, SE, SB, und_29, sz_77, zero_77, (nr rfl : okLen 2 = true), app_29, al_ApiWord, xLA, q16, fld_31_1, sz_29, ENMB]
  refine mU e ?_ h
  refine .seqK (.region fun e h => ?_)
  simp only [seval, SE, ag_31, sz_31, ENMB]
  refine mU e ?_ h
  refine .ret fun e h => ?_
  cases h
  simp only [seval, SF, ENMB, Tryz.results11, ag_31, sz_31]
  refine .skip (Mir.toK (.seqK (.region fun e h => ?_)))
  simp only [seval, SE, ag_31, sz_31, ENMB]
  refine mU e ?_ h
  refine .ret fun e h => ?_
  cases h
  simp only [seval, SF, ENMB, Tryz.results11, ag_31, sz_31]
  refine .skip (Mir.toK (.seqK (.seqK (.region fun e h => ?_))))
  simp only [seval, SE, fld_27_0, sz_3, ag_3, ENMB]
  refine mU e ?_ h
  refine .cond rfl (fun hb17 => ?_) (fun hb17 => ?_)
  refine .bind fun y110 hy18 => .guard fun q19 => .regionD [] (by kernel_rfl) fun e h => ?_
  simp only [seval, SE, SB, fld_31_1, sz_29, ag_29, fld_27_3, sz_2, ag_2, ENMB]
  refine Spec.by (r46_word_spec hy18) (by simp only [seval, SF, ENMB]) ?_
  simp only [seval, SE, SB, und_29, sz_77, zero_77, (nr rfl : okLen 2 = true), app_29, al_ApiWord, q19, fld_31_1, sz_29, ENMB]
  refine mU e ?_ h
  refine .seqK (.region fun e h => ?_)
  simp only [seval, SE, ag_31, sz_31, ENMB]
  refine mU e ?_ h
  refine .ret fun e h => ?_
  cases h
  simp only [seval, SF, ENMB, Tryz.results11, ag_31, sz_31]
  refine .skip (Mir.toK (.seqK (.region fun e h => ?_)))
  simp only [seval, SE, ag_31, sz_31, ENMB]
  refine mU e ?_ h
  refine .ret fun e h => ?_
  cases h
  simp only [seval, SF, ENMB, Tryz.results11, ag_31, sz_31]

def r46_Change (a0 : Int) : Option ((List ApiBlock) × Int) :=
  if ((decide (a0 < 1)) || (decide (a0 > 999))) = true then
    some ([], 1)
  else
    bindO (r46_word 84 (IntKind.i64.wrap (1000 * a0))) fun (y101 : ApiWord) =>
    bindO (r46_word 77 6000) fun (y102 : ApiWord) =>
    bindO (r46_line [y101, y102]) fun (y103 : ApiBlock) =>
    bindO (r46_word 71 43000) fun (y104 : ApiWord) =>
    bindO (r46_word 72 (IntKind.i64.wrap (1000 * a0))) fun (y105 : ApiWord) =>
    bindO (r46_line [y104, y105]) fun (y106 : ApiBlock) =>
    some ([y103, y106], 0)
theorem r46_Change_spec {a0 : Int} {y : (List ApiBlock) × Int} (h : r46_Change a0 = some y) : Spec gP 14 [.d (.int .i64 a0)] (.tuple [.d (.list (List.map encApiBlock y.1)), .d (.int .i64 y.2)]) := by
  refine spec_mir Tryz.func14 rfl (by kernel_rfl) (by kernel_rfl) (fun y : (List ApiBlock) × Int => .tuple [.d (.list (List.map encApiBlock y.1)), .d (.int .i64 y.2)]) ?_ h
  unfold r46_Change
  simp only [List.replicate, List.length, nS, nA, Tryz.ntmps14, SV]
  refine .seqK (.region fun e h => ?_)
  simp only [seval, SE, ENMB]
  refine mU e ?_ h
  refine .seqK (.seqK (.joinV (.d (.int .i64 a0) :: U :: U :: U :: U :: U :: U :: U :: U :: U :: .d (.bool ((decide (a0 < 1)) || (decide (a0 > 999)))) :: us 13) ⟨[], []⟩ rfl ?_ ?_))
  refine SWs.region ?_
  rcases Bool.eq_false_or_eq_true (decide (a0 < 1)) with hb1 | hb1
  simp only [seval, SE, SL, PB, hb1, ENMB]
  simp only [seval, SE, SL, PB, hb1, ENMB]
  refine Mir.toK (.cond rfl (fun hb3 => ?_) (fun hb3 => ?_))
  refine .seqK (.region fun e h => ?_)
  simp only [seval, SE]
  refine mU e ?_ h
  refine .ret fun e h => ?_
  cases h
  simp only [seval, SF, Tryz.results14]
  refine .skip (Mir.toK (.seqK (.region fun e h => ?_)))
  simp only [seval, SE, ENMB]
  refine mU e ?_ h
  refine .seqK (.bind fun y101 hy4 => .bind fun y102 hy5 => .bind fun y103 hy6 => .bind fun y104 hy7 => .bind fun y105 hy8 => .bind fun y106 hy9 => .region fun e h => ?_)
  simp only [seval, SE, ENMB]
  refine SpecS.by (r46_word_spec hy4) (by simp only [seval, SF, ENMB]) ?_
  simp only [seval, SE, ENMB]
  refine SpecS.by (r46_word_spec hy5) (by simp only [seval, SF, ENMB]) ?_
  simp only [seval, SE, und_29, sz_77, zero_77, (nr rfl : okLen 4 = true), ENMB]
  refine SpecS.byF (r46_line_specF hy6) (by simp only [seval, SF, ENMB]) ?_
  simp only [seval, SE, ENMB]
  refine SpecS.by (r46_word_spec hy7) (by simp only [seval, SF, ENMB]) ?_
  simp only [seval, SE, ENMB]
  refine SpecS.by (r46_word_spec hy8) (by simp only [seval, SF, ENMB]) ?_
  simp only [seval, SE, und_29, sz_77, zero_77, (nr rfl : okLen 4 = true), ENMB]
  refine SpecS.byF (r46_line_specF hy9) (by simp only [seval, SF, ENMB]) ?_
  simp only [seval, SE, und_39, sz_31, zero_31, (nr rfl : okLen 6 = true), ENMB]
  refine mU e ?_ h
  refine .ret fun e h => ?_
  cases h
  simp only [seval, SF, ENMB, Tryz.results14]

def r42_codes (a0 : Int) : Option (List Int) :=
  if (a0 == 1) = true then
    some [0, 1, 2, 3, 80, 81, 82, 83]
  else
    if (a0 == 2) = true then
      some [90, 91]
    else
      if (a0 == 3) = true then
        some [54, 55, 56, 57, 58, 59]
      else
        if (a0 == 4) = true then
          some [43, 49]
        else
          some [98, 99]
theorem r42_codes_spec {a0 : Int} {y : (List Int)} (h : r42_codes a0 = some y) : Spec gP 80 [.d (.int .i64 a0)] (.d (.list (List.map (eInt .i64) y))) := by
  refine spec_mir Tryz.func80 rfl (by kernel_rfl) (by kernel_rfl) (fun y : (List Int) => .d (.list (List.map (eInt .i64) y))) ?_ h
  unfold r42_codes
  simp only [List.replicate, List.length, nS, nA, Tryz.ntmps80, SV]
  refine .seqK (.region fun e h => ?_)
  simp only [seval, SE, eInt]
  refine mU e ?_ h
  refine .seqK (.seqK (.region fun e h => ?_))
  simp only [seval, SE, eInt]
  refine mU e ?_ h
  refine .block (.seqK (.region fun e h => ?_))
  simp only [seval, SE, eInt]
  refine mU e ?_ h
  refine .cond rfl (fun hb9 => ?_) (fun hb9 => ?_)
  refine .seqK (.region fun e h => ?_)
  simp only [seval, SE, und_121, sz_2, zero_2, (nr rfl : okLen 8 = true), eInt]
  refine mU e ?_ h
  refine .ret fun e h => ?_
  cases h
  simp only [seval, SF, eInt, Tryz.results80]
  refine .seqK (.region fun e h => ?_)
  simp only [seval, SE, eInt]
  refine mU e ?_ h
  refine .cond rfl (fun hb13 => ?_) (fun hb13 => ?_)
  refine .seqK (.region fun e h => ?_)
  simp only [seval, SE, und_121, sz_2, zero_2, (nr rfl : okLen 2 = true), eInt]
  refine mU e ?_ h
  refine .ret fun e h => ?_
  cases h
  simp only [seval, SF, eInt, Tryz.results80]
  refine .seqK (.region fun e h => ?_)
  simp only [seval, SE, eInt]
  refine mU e ?_ h
  refine .cond rfl (fun hb16 => ?_) (fun hb16 => ?_)
  refine .seqK (.region fun e h => ?_)
  simp only [seval, SE, und_121, sz_2, zero_2, (nr rfl : okLen 6 = true), eInt]
  refine mU e ?_ h
  refine .ret fun e h => ?_
  cases h
  simp only [seval, SF, eInt, Tryz.results80]
  refine .seqK (.region fun e h => ?_)
  simp only [seval, SE, eInt]
  refine mU e ?_ h
  refine .cond rfl (fun hb18 => ?_) (fun hb18 => ?_)
  refine .seqK (.region fun e h => ?_)
  simp only [seval, SE, und_121, sz_2, zero_2, (nr rfl : okLen 2 = true), eInt]
  refine mU e ?_ h
  refine .ret fun e h => ?_
  cases h
  simp only [seval, SF, eInt, Tryz.results80]
  refine .skip (Mir.toB (Mir.toK (.seqK (.region fun e h => ?_))))
  simp only [seval, SE, und_121, sz_2, zero_2, (nr rfl : okLen 2 = true), eInt]
  refine mU e ?_ h
  refine .ret fun e h => ?_
  cases h
  simp only [seval, SF, eInt, Tryz.results80]

def r42_Group (a0 : Int) : Option Int :=
  bindX (bindX (bindO (r42_codes 1) fun (y273 : (List Int)) =>
          guardO (okIdx y273) (
          rangeX (fun (i285 : Nat) (e287 : Int) (v286 : Unit) =>
            if (a0 == (IntKind.i64.wrap (1000 * e287))) = true then
              some (.ret (.ret (.ret 1)))
            else
              some (.go ())) (fun (v286 : Unit) => some (.go ())) y273 0 ())) fun (v272 : Unit) =>
      bindX (bindO (r42_codes 2) fun (y304 : (List Int)) =>
          guardO (okIdx y304) (
          rangeX (fun (i316 : Nat) (e318 : Int) (v317 : Unit) =>
            if (a0 == (IntKind.i64.wrap (1000 * e318))) = true then
              some (.ret (.ret (.ret 2)))
            else
              some (.go ())) (fun (v317 : Unit) => some (.go ())) y304 0 ())) fun (v303 : Unit) =>
      bindX (bindO (r42_codes 3) fun (y335 : (List Int)) =>
          guardO (okIdx y335) (
          rangeX (fun (i347 : Nat) (e349 : Int) (v348 : Unit) =>
            if (a0 == (IntKind.i64.wrap (1000 * e349))) = true then
              some (.ret (.ret (.ret 3)))
            else
              some (.go ())) (fun (v348 : Unit) => some (.go ())) y335 0 ())) fun (v334 : Unit) =>
      bindX (bindO (r42_codes 4) fun (y366 : (List Int)) =>
          guardO (okIdx y366) (
          rangeX (fun (i378 : Nat) (e380 : Int) (v379 : Unit) =>
            if (a0 == (IntKind.i64.wrap (1000 * e380))) = true then
              some (.ret (.ret (.ret 4)))
            else
              some (.go ())) (fun (v379 : Unit) => some (.go ())) y366 0 ())) fun (v365 : Unit) =>
      bindX (bindO (r42_codes 5) fun (y397 : (List Int)) =>
          guardO (okIdx y397) (
          rangeX (fun (i409 : Nat) (e411 : Int) (v410 : Unit) =>
            if (a0 == (IntKind.i64.wrap (1000 * e411))) = true then
              some (.ret (.ret (.ret 5)))
            else
              some (.go ())) (fun (v410 : Unit) => some (.go ())) y397 0 ())) fun (v396 : Unit) =>
      some (.go ())) fun (v256 : Unit) =>
  some 0
set_option maxHeartbeats 8000000 in
theorem r42_Group_spec {a0 : Int} {y : Int} (h : r42_Group a0 = some y) : Spec gP 39 [.d (.int .i64 a0)] (.d (.int .i64 y)) := by
  refine spec_mir Tryz.func39 rfl (by kernel_rfl) (by kernel_rfl) (fun y : Int => .d (.int .i64 y)) ?_ h
  unfold r42_Group
  simp only [List.replicate, List.length, nS, nA, Tryz.ntmps39, SV]
  refine .seqK (.region fun e h => ?_)
  simp only [seval, SE, eInt]
  refine mU e ?_ h
  refine .seqK (.seqK (.region fun e h => ?_))
  simp only [seval, SE, eInt]
  refine mU e ?_ h
  refine Mir.join (fun v256 : Unit => (us 26)) (fun v256 => ⟨[], []⟩) (fun _ => rfl) ?_ ?_
  refine .block (.loopR 15 (.seqK (.seqK (.region fun e h => ?_))))
  simp only [seval, SE, (nr rfl : (decide ((1 : Int) ≤ 5)) = true), eInt]
  refine mU e ?_ h
  refine .condT rfl (.skip (Mir.toK (.seqK (Mir.join (fun v272 : Unit => (.d (.int .i64 a0) :: U :: U :: .d (.int .i64 1) :: us 22)) (fun v272 => ⟨[], []⟩) (fun _ => rfl) ?_ ?_))))
  refine .block (.seqK (.bind fun y273 hy309 => .region fun e h => ?_))
  simp only [seval, SE, eInt]
  refine SpecS.by (r42_codes_spec hy309) (by simp only [seval, SF, eInt]) ?_
  simp only [seval, SE, eInt]
  refine mU e ?_ h
  refine .seqK (.region fun e h => ?_)
  simp only [seval, SE, eInt]
  refine mU e ?_ h
  refine .block (.guard fun qg333 => Mir.range (fun (i285 : Nat) (v286 : Unit) => (.d (.int .i64 a0) :: U :: U :: .d (.int .i64 1) :: .d (.list (List.map (eInt .i64) y273)) :: .d (.int .i64 (i285 : Int)) :: us 20)) (fun i285 v286 => ⟨[], []⟩) qg333 (fun _ _ => rfl) (by simp only [seval, SF, eInt, (nr rfl : ((0 : Nat) : Int) = 0)]) (by simp only [seval, SF, eInt, (nr rfl : ((0 : Nat) : Int) = 0)]) ?_ ?_)
  intro i285 e287 v286 qr331
  refine .seqK (.seqK (.region fun e h => ?_))
  simp only [seval, SE, und_121, qr331, eInt]
  refine mU e ?_ h
  refine .condT rfl (.skip (Mir.toK (.seqK (.block (.seqK (.region fun e h => ?_))))))
  simp only [seval, SE, und_121, sz_2, qr331, Int.toNat_natCast, ag_2, eInt]
  refine mU e ?_ h
  refine .cond rfl (fun hb336 => ?_) (fun hb336 => ?_)
  refine .seqK (.region fun e h => ?_)
  simp only [seval, SE, eInt]
  refine mU e ?_ h
  refine .ret fun e h => ?_
  cases h
  simp only [seval, SF, eInt, Tryz.results39]
  refine .skip (Mir.toB (Mir.toK (.region fun e h => ?_)))
  simp only [seval, SE, eInt]
  cases h
  simp only [seval, SF, eInt, Tryz.results39, qr331]
  intro v286 qd332
  refine .seqK (.seqK (.region fun e h => ?_))
  simp only [seval, SE, und_121, qd332, eInt]
  refine mU e ?_ h
  refine .condF rfl (.exit fun e h => ?_)
  cases h
  simp only [seval, SF, eInt, Tryz.results39]
  intro v272
  refine Mir.toK (.region fun e h => ?_)
  simp only [seval, SE, (nr rfl : IntKind.i64.wrap 2 = 2), eInt]
  refine Mir.useN (e := e) ?_ h
  refine .seqK (.seqK (.region fun e h => ?_))
  simp only [seval, SE, (nr rfl : (decide ((2 : Int) ≤ 5)) = true), eInt]
  refine mU e ?_ h
  refine .condT rfl (.skip (Mir.toK (.seqK (Mir.join (fun v303 : Unit => (.d (.int .i64 a0) :: U :: U :: .d (.int .i64 2) :: us 22)) (fun v303 => ⟨[], []⟩) (fun _ => rfl) ?_ ?_))))
  refine .block (.seqK (.bind fun y304 hy365 => .region fun e h => ?_))
  simp only [seval, SE, eInt]
  refine SpecS.by (r42_codes_spec hy365) (by simp only [seval, SF, eInt]) ?_
  simp only [seval, SE, eInt]
  refine mU e ?_ h
  refine .seqK (.region fun e h => ?_)
  simp only [seval, SE, eInt]
  refine mU e ?_ h
  refine .block (.guard fun qg389 => Mir.range (fun (i316 : Nat) (v317 : Unit) => (.d (.int .i64 a0) :: U :: U :: .d (.int .i64 2) :: .d (.list (List.map (eInt .i64) y304)) :: .d (.int .i64 (i316 : Int)) :: us 20)) (fun i316 v317 => ⟨[], []⟩) qg389 (fun _ _ => rfl) (by simp only [seval, SF, eInt, (nr rfl : ((0 : Nat) : Int) = 0)]) (by simp only [seval, SF, eInt, (nr rfl : ((0 : Nat) : Int) = 0)]) ?_ ?_)
  intro i316 e318 v317 qr387
  refine .seqK (.seqK (.region fun e h => ?_))
  simp only [seval, SE, und_121, qr387, eInt]
  refine mU e ?_ h
  refine .condT rfl (.skip (Mir.toK (.seqK (.block (.seqK (.region fun e h => ?_))))))
  simp only [seval, SE, und_121, sz_2, qr387, Int.toNat_natCast, ag_2, eInt]
  refine mU e ?_ h
  refine .cond rfl (fun hb392 => ?_) (fun hb392 => ?_)
  refine .seqK (.region fun e h => ?_)
  simp only [seval, SE, eInt]
  refine mU e ?_ h
  refine .ret fun e h => ?_
  cases h
  simp only [seval, SF, eInt, Tryz.results39]
  refine .skip (Mir.toB (Mir.toK (.region fun e h => ?_)))
  simp only [seval, SE, eInt]
  cases h
  simp only [seval, SF, eInt, Tryz.results39, qr387]
  intro v317 qd388
  refine .seqK (.seqK (.region fun e h => ?_))
  simp only [seval, SE, und_121, qd388, eInt]
  refine mU e ?_ h
  refine .condF rfl (.exit fun e h => ?_)
  cases h
  simp only [seval, SF, eInt, Tryz.results39]
  intro v303
  refine Mir.toK (.region fun e h => ?_)
  simp only [seval, SE, (nr rfl : IntKind.i64.wrap 3 = 3), eInt]
  refine Mir.useN (e := e) ?_ h
  refine .seqK (.seqK (.region fun e h => ?_))
  simp only [seval, SE, (nr rfl : (decide ((3 : Int) ≤ 5)) = true), eInt]
  refine mU e ?_ h
  refine .condT rfl (.skip (Mir.toK (.seqK (Mir.join (fun v334 : Unit => (.d (.int .i64 a0) :: U :: U :: .d (.int .i64 3) :: us 22)) (fun v334 => ⟨[], []⟩) (fun _ => rfl) ?_ ?_))))
  refine .block (.seqK (.bind fun y335 hy421 => .region fun e h => ?_))
  simp only [seval, SE, eInt]
  refine SpecS.by (r42_codes_spec hy421) (by simp only [seval, SF, eInt]) ?_
  simp only [seval, SE, eInt]
  refine mU e ?_ h
  refine .seqK (.region fun e h => ?_)
  simp only [seval, SE, eInt]
  refine mU e ?_ h
  refine .block (.guard fun qg445 => Mir.range (fun (i347 : Nat) (v348 : Unit) => (.d (.int .i64 a0) :: U :: U :: .d (.int .i64 3) :: .d (.list (List.map (eInt .i64) y335)) :: .d (.int .i64 (i347 : Int)) :: us 20)) (fun i347 v348 => ⟨[], []⟩) qg445 (fun _ _ => rfl) (by simp only [seval, SF, eInt, (nr rfl : ((0 : Nat) : Int) = 0)]) (by simp only [seval, SF, eInt, (nr rfl : ((0 : Nat) : Int) = 0)]) ?_ ?_)
  intro i347 e349 v348 qr443
  refine .seqK (.seqK (.region fun e h => ?_))
  simp only [seval, SE, und_121, qr443, eInt]
  refine mU e ?_ h
  refine .condT rfl (.skip (Mir.toK (.seqK (.block (.seqK (.region fun e h => ?_))))))
  simp only [seval, SE, und_121, sz_2, qr443, Int.toNat_natCast, ag_2, eInt]
  refine mU e ?_ h
  refine .cond rfl (fun hb448 => ?_) (fun hb448 => ?_)
  refine .seqK (.region fun e h => ?_)
  simp only [seval, SE, eInt]
  refine mU e ?_ h
  refine .ret fun e h => ?_
  cases h
  simp only [seval, SF, eInt, Tryz.results39]
  refine .skip (Mir.toB (Mir.toK (.region fun e h => ?_)))
  simp only [seval, SE, eInt]
  cases h
  simp only [seval, SF, eInt, Tryz.results39, qr443]
  intro v348 qd444
  refine .seqK (.seqK (.region fun e h => ?_))
  simp only [seval, SE, und_121, qd444, eInt]
  refine mU e ?_ h
  refine .condF rfl (.exit fun e h => ?_)
  cases h
  simp only [seval, SF, eInt, Tryz.results39]
  intro v334
  refine Mir.toK (.region fun e h => ?_)
  simp only [seval, SE, (nr rfl : IntKind.i64.wrap 4 = 4), eInt]
  refine Mir.useN (e := e) ?_ h
  refine .seqK (.seqK (.region fun e h => ?_))
  simp only [seval, SE, (nr rfl : (decide ((4 : Int) ≤ 5)) = true), eInt]
  refine mU e ?_ h
  refine .condT rfl (.skip (Mir.toK (.seqK (Mir.join (fun v365 : Unit => (.d (.int .i64 a0) :: U :: U :: .d (.int .i64 4) :: us 22)) (fun v365 => ⟨[], []⟩) (fun _ => rfl) ?_ ?_))))
  refine .block (.seqK (.bind fun y366 hy477 => .region fun e h => ?_))
  simp only [seval, SE, eInt]
  refine SpecS.by (r42_codes_spec hy477) (by simp only [seval, SF, eInt]) ?_
  simp only [seval, SE, eInt]
  refine mU e ?_ h
  refine .seqK (.region fun e h => ?_)
  simp only [seval, SE, eInt]
  refine mU e ?_ h
  refine .block (.guard fun qg501 => Mir.range (fun (i378 : Nat) (v379 : Unit) => (.d (.int .i64 a0) :: U :: U :: .d (.int .i64 4) :: .d (.list (List.map (eInt .i64) y366)) :: .d (.int .i64 (i378 : Int)) :: us 20)) (fun i378 v379 => ⟨[], []⟩) qg501 (fun _ _ => rfl) (by simp only [seval, SF, eInt, (nr rfl : ((0 : Nat) : Int) = 0)]) (by simp only [seval, SF, eInt, (nr rfl : ((0 : Nat) : Int) = 0)]) ?_ ?_)
  intro i378 e380 v379 qr499
  refine .seqK (.seqK (.region fun e h => ?_))
  simp only [seval, SE, und_121, qr499, eInt]
  refine mU e ?_ h
  refine .condT rfl (.skip (Mir.toK (.seqK (.block (.seqK (.region fun e h => ?_))))))
  simp only [seval, SE, und_121, sz_2, qr499, Int.toNat_natCast, ag_2, eInt]
  refine mU e ?_ h
  refine .cond rfl (fun hb504 => ?_) (fun hb504 => ?_)
  refine .seqK (.region fun e h => ?_)
  simp only [seval, SE, eInt]
  refine mU e ?_ h
  refine .ret fun e h => ?_
  cases h
  simp only [seval, SF, eInt, Tryz.results39]
  refine .skip (Mir.toB (Mir.toK (.region fun e h => ?_)))
  simp only [seval, SE, eInt]
  cases h
  simp only [seval, SF, eInt, Tryz.results39, qr499]
  intro v379 qd500
  refine .seqK (.seqK (.region fun e h => ?_))
  simp only [seval, SE, und_121, qd500, eInt]
  refine mU e ?_ h
  refine .condF rfl (.exit fun e h => ?_)
  cases h
  simp only [seval, SF, eInt, Tryz.results39]
  intro v365
  refine Mir.toK (.region fun e h => ?_)
  simp only [seval, SE, (nr rfl : IntKind.i64.wrap 5 = 5), eInt]
  refine Mir.useN (e := e) ?_ h
  refine .seqK (.seqK (.region fun e h => ?_))
  simp only [seval, SE, (nr rfl : (decide ((5 : Int) ≤ 5)) = true), eInt]
  refine mU e ?_ h
  refine .condT rfl (.skip (Mir.toK (.seqK (Mir.join (fun v396 : Unit => (.d (.int .i64 a0) :: U :: U :: .d (.int .i64 5) :: us 22)) (fun v396 => ⟨[], []⟩) (fun _ => rfl) ?_ ?_))))
  refine .block (.seqK (.bind fun y397 hy533 => .region fun e h => ?_))
  simp only [seval, SE, eInt]
  refine SpecS.by (r42_codes_spec hy533) (by simp only [seval, SF, eInt]) ?_
  simp only [seval, SE, eInt]
  refine mU e ?_ h
  refine .seqK (.region fun e h => ?_)
  simp only [seval, SE, eInt]
  refine mU e ?_ h
  refine .block (.guard fun qg557 => Mir.range (fun (i409 : Nat) (v410 : Unit) => (.d (.int .i64 a0) :: U :: U :: .d (.int .i64 5) :: .d (.list (List.map (eInt .i64) y397)) :: .d (.int .i64 (i409 : Int)) :: us 20)) (fun i409 v410 => ⟨[], []⟩) qg557 (fun _ _ => rfl) (by simp only [seval, SF, eInt, (nr rfl : ((0 : Nat) : Int) = 0)]) (by simp only [seval, SF, eInt, (nr rfl : ((0 : Nat) : Int) = 0)]) ?_ ?_)
  intro i409 e411 v410 qr555
  refine .seqK (.seqK (.region fun e h => ?_))
  simp only [seval, SE, und_121, qr555, eInt]
  refine mU e ?_ h
  refine .condT rfl (.skip (Mir.toK (.seqK (.block (.seqK (.region fun e h => ?_))))))
  simp only [seval, SE, und_121, sz_2, qr555, Int.toNat_natCast, ag_2, eInt]
  refine mU e ?_ h
  refine .cond rfl (fun hb560 => ?_) (fun hb560 => ?_)
  refine .seqK (.region fun e h => ?_)
  simp only [seval, SE, eInt]
  refine mU e ?_ h
  refine .ret fun e h => ?_
  cases h
  simp only [seval, SF, eInt, Tryz.results39]
  refine .skip (Mir.toB (Mir.toK (.region fun e h => ?_)))
  simp only [seval, SE, eInt]
  cases h
  simp only [seval, SF, eInt, Tryz.results39, qr555]
  intro v410 qd556
  refine .seqK (.seqK (.region fun e h => ?_))
  simp only [seval, SE, und_121, qd556, eInt]
  refine mU e ?_ h
  refine .condF rfl (.exit fun e h => ?_)
  cases h
  simp only [seval, SF, eInt, Tryz.results39]
  intro v396
  refine Mir.toK (.region fun e h => ?_)
  simp only [seval, SE, (nr rfl : IntKind.i64.wrap 6 = 6), eInt]
  refine Mir.useN (e := e) ?_ h
  refine .seqK (.seqK (.region fun e h => ?_))
  simp only [seval, SE, (nr rfl : (decide ((6 : Int) ≤ 5)) = false), eInt]
  refine mU e ?_ h
  refine .condF rfl (.exit fun e h => ?_)
  cases h
  simp only [seval, SF, eInt, Tryz.results39]
  intro v256
  refine Mir.toK (.seqK (.region fun e h => ?_))
  simp only [seval, SE, eInt]
  refine mU e ?_ h
  refine .ret fun e h => ?_
  cases h
  simp only [seval, SF, eInt, Tryz.results39]

def r46_Valid (a0 : R46Options) : Option Int :=
  bindO (bindO (r42_Group a0.Work) fun (y101 : Int) =>
      if (y101 != 3) = true then
        some true
      else
        if (decide (a0.Numbers < 0)) = true then
          some true
        else
          if (decide (a0.Numbers > 1000)) = true then
            some true
          else
            if (a0.Fold != 0) = true then
              if (decide (a0.Fold < 2)) = true then
                some true
              else
                some (decide (a0.Fold > 100))
            else
              some false) fun (v102 : Bool) =>
  if v102 = true then
    some 1
  else
    some 0
theorem r46_Valid_spec {a0 : R46Options} {y : Int} (h : r46_Valid a0 = some y) : Spec gP 17 [.agg [.d (.int .i64 a0.Work), .d (.bool a0.Compress), .d (.int .i64 a0.Numbers), .d (.int .i64 a0.Fold)]] (.d (.int .i64 y)) := by
  refine spec_mir Tryz.func17 rfl (by kernel_rfl) (by kernel_rfl) (fun y : Int => .d (.int .i64 y)) ?_ h
  unfold r46_Valid
  simp only [List.replicate, List.length, nS, nA, Tryz.ntmps17, SV]
  refine .seqK (.region fun e h => ?_)
  simp only [seval, SE]
  refine mU e ?_ h
  refine .seqK (.seqK (Mir.joinO (fun v102 : Bool => [U, U, U, U, U, U, U, U, U, U, U, U, U, U, U, U, U, U, U, U, U, U, U, U, U, U, U, U, U, U, U, .d (.bool v102)]) (fun v102 => ⟨[[.d (.int .i64 a0.Work), .d (.bool a0.Compress), .d (.int .i64 a0.Numbers), .d (.int .i64 a0.Fold)]], []⟩) (fun _ => rfl) ?_ ?_))
  refine .bind fun y101 hy1 => .ite (fun hb2 => ?_) (fun hb2 => ?_)
  refine .region fun e h => ?_
  simp only [seval, SE, fld_38_0, sz_2, ag_2, hb2]
  refine SpecS.by (r42_Group_spec hy1) (by simp only [seval, SF, hb2]) ?_
  simp only [seval, SE, hb2]
  cases h
  simp only [seval, SF, hb2]
  refine .ite (fun hb3 => ?_) (fun hb3 => ?_)
  refine .region fun e h => ?_
  simp only [seval, SE, fld_38_0, sz_2, ag_2, hb2, hb3]
  refine SpecS.by (r42_Group_spec hy1) (by simp only [seval, SF, hb2, hb3]) ?_
  simp only [seval, SE, fld_38_2, sz_2, ag_2, hb2, hb3]
  cases h
  simp only [seval, SF, hb2, hb3]
  refine .ite (fun hb4 => ?_) (fun hb4 => ?_)
  refine .region fun e h => ?_
  simp only [seval, SE, fld_38_0, sz_2, ag_2, hb2, hb3, hb4]
  refine SpecS.by (r42_Group_spec hy1) (by simp only [seval, SF, hb2, hb3, hb4]) ?_
  simp only [seval, SE, fld_38_2, sz_2, ag_2, hb2, hb3, hb4]
  cases h
  simp only [seval, SF, hb2, hb3, hb4]
  refine .ite (fun hb5 => ?_) (fun hb5 => ?_)
  refine .ite (fun hb6 => ?_) (fun hb6 => ?_)
  refine .region fun e h => ?_
  simp only [seval, SE, fld_38_0, sz_2, ag_2, hb2, hb3, hb4, hb5, hb6]
  refine SpecS.by (r42_Group_spec hy1) (by simp only [seval, SF, hb2, hb3, hb4, hb5, hb6]) ?_
  simp only [seval, SE, fld_38_2, sz_2, ag_2, fld_38_3, sz_3, ag_3, hb2, hb3, hb4, hb5, hb6]
  cases h
  simp only [seval, SF, hb2, hb3, hb4, hb5, hb6]
  refine .region fun e h => ?_
  simp only [seval, SE, fld_38_0, sz_2, ag_2, hb2, hb3, hb4, hb5, hb6]
  refine SpecS.by (r42_Group_spec hy1) (by simp only [seval, SF, hb2, hb3, hb4, hb5, hb6]) ?_
  simp only [seval, SE, fld_38_2, sz_2, ag_2, fld_38_3, sz_3, ag_3, hb2, hb3, hb4, hb5, hb6]
  cases h
  simp only [seval, SF, hb2, hb3, hb4, hb5, hb6]
  refine .region fun e h => ?_
  simp only [seval, SE, fld_38_0, sz_2, ag_2, hb2, hb3, hb4, hb5]
  refine SpecS.by (r42_Group_spec hy1) (by simp only [seval, SF, hb2, hb3, hb4, hb5]) ?_
  simp only [seval, SE, fld_38_2, sz_2, ag_2, fld_38_3, sz_3, ag_3, hb2, hb3, hb4, hb5]
  cases h
  simp only [seval, SF, hb2, hb3, hb4, hb5]
  intro v102
  refine Mir.toK (.cond rfl (fun hb8 => ?_) (fun hb8 => ?_))
  refine .seqK (.region fun e h => ?_)
  simp only [seval, SE]
  refine mU e ?_ h
  refine .ret fun e h => ?_
  cases h
  simp only [seval, SF, Tryz.results17]
  refine .skip (Mir.toK (.seqK (.region fun e h => ?_)))
  simp only [seval, SE]
  refine mU e ?_ h
  refine .ret fun e h => ?_
  cases h
  simp only [seval, SF, Tryz.results17]

def r41_Equal (a0 : ApiBlock) (a1 : ApiBlock) : Option Bool :=
  if (!(a0.Skip == a1.Skip) || (!(a0.Comment == a1.Comment) || ((a0.Words.length : Int) != (a1.Words.length : Int)))) = true then
    some false
  else
    bindX (guardO (okIdx a0.Words) (
        rangeX (fun (i141 : Nat) (e143 : ApiWord) (v142 : Unit) =>
          bindO (gt a1.Words (i141 : Int)) fun (e145 : ApiWord) =>
          if (!((e143.Letter == e145.Letter) && (e143.Value == e145.Value))) = true then
            some (.ret (.ret false))
          else
            some (.go ())) (fun (v142 : Unit) => some (.go ())) a0.Words 0 ())) fun (v123 : Unit) =>
    some true
theorem r41_Equal_spec {a0 : ApiBlock} {a1 : ApiBlock} {y : Bool} (h : r41_Equal a0 a1 = some y) : Spec gP 12 [.agg [.d (.bool a0.Skip), .d (.list (List.map encApiWord a0.Words)), .d (.str a0.Comment)], .agg [.d (.bool a1.Skip), .d (.list (List.map encApiWord a1.Words)), .d (.str a1.Comment)]] (.d (.bool y)) := by
  refine spec_mir Tryz.func12 rfl (by kernel_rfl) (by kernel_rfl) (fun y : Bool => .d (.bool y)) ?_ h
  unfold r41_Equal
  simp only [List.replicate, List.length, nS, nA, Tryz.ntmps12, SV]
  refine .seqK (.region fun e h => ?_)
  simp only [seval, SE, ENMB]
  refine mU e ?_ h
  refine .seqK (.seqK (.joinV (U :: U :: .ptr 0 0 :: .ptr 1 0 :: U :: U :: U :: U :: U :: U :: U :: U :: U :: U :: U :: U :: U :: U :: U :: U :: U :: U :: U :: U :: U :: U :: .d (.bool (!(a0.Skip == a1.Skip) || (!(a0.Comment == a1.Comment) || ((a0.Words.length : Int) != (a1.Words.length : Int))))) :: us 18) ⟨[[.d (.bool a0.Skip), .d (.list (List.map encApiWord a0.Words)), .d (.str a0.Comment)], [.d (.bool a1.Skip), .d (.list (List.map encApiWord a1.Words)), .d (.str a1.Comment)]], []⟩ rfl ?_ ?_))
  refine SWs.region ?_
  rcases Bool.eq_false_or_eq_true (a0.Skip == a1.Skip) with hb1 | hb1
  rcases Bool.eq_false_or_eq_true (a0.Comment == a1.Comment) with hb2 | hb2
  simp only [seval, SE, SL, PB, fld_31_0, sz_4, ag_4, und_4, fld_31_2, sz_9, ag_9, fld_31_1, sz_29, ag_29, und_29, hb1, hb2, ENMB]
  simp only [seval, SE, SL, PB, fld_31_0, sz_4, ag_4, und_4, fld_31_2, sz_9, ag_9, hb1, hb2, ENMB]
  simp only [seval, SE, SL, PB, fld_31_0, sz_4, ag_4, und_4, hb1, ENMB]
  refine Mir.toK (.cond rfl (fun hb4 => ?_) (fun hb4 => ?_))
  refine .seqK (.region fun e h => ?_)
  simp only [seval, SE, ENMB]
  refine mU e ?_ h
  refine .ret fun e h => ?_
  cases h
  simp only [seval, SF, ENMB, Tryz.results12]
  refine .skip (Mir.toK (.seqK (.seqK (.region fun e h => ?_))))
  simp only [seval, SE, ENMB]
  refine mU e ?_ h
  refine Mir.join (fun v123 : Unit => (us 45)) (fun v123 => ⟨[[.d (.bool a0.Skip), .d (.list (List.map encApiWord a0.Words)), .d (.str a0.Comment)], [.d (.bool a1.Skip), .d (.list (List.map encApiWord a1.Words)), .d (.str a1.Comment)]], []⟩) (fun _ => rfl) ?_ ?_
  refine .block (.guard fun qg69 => Mir.range (fun (i141 : Nat) (v142 : Unit) => (U :: U :: .ptr 0 0 :: .ptr 1 0 :: U :: .d (.int .i64 (i141 : Int)) :: us 39)) (fun i141 v142 => ⟨[[.d (.bool a0.Skip), .d (.list (List.map encApiWord a0.Words)), .d (.str a0.Comment)], [.d (.bool a1.Skip), .d (.list (List.map encApiWord a1.Words)), .d (.str a1.Comment)]], []⟩) qg69 (fun _ _ => rfl) (by simp only [seval, SF, ENMB, (nr rfl : ((0 : Nat) : Int) = 0)]) (by simp only [seval, SF, ENMB, (nr rfl : ((0 : Nat) : Int) = 0)]) ?_ ?_)
  intro i141 e143 v142 qr67
  refine .seqK (.seqK (.region fun e h => ?_))
  simp only [seval, SE, fld_31_1, sz_29, ag_29, und_29, qr67, ENMB]
  refine mU e ?_ h
  refine .condT rfl (.skip (Mir.toK (.seqK (.block (.seqK (.bind fun e145 q72 => ?_))))))
  replace q72 := gt_ok q72
  simp only [Int.toNat_natCast] at q72
  refine .regionD [] (by kernel_rfl) fun e h => ?_
  simp only [seval, SE, SB, fld_31_1, sz_29, ag_29, und_29, sz_77, qr67, Int.toNat_natCast, ag_77, q72, gE_77, ENMB]
  refine mU e ?_ h
  refine .cond rfl (fun hb74 => ?_) (fun hb74 => ?_)
  refine .seqK (.region fun e h => ?_)
  simp only [seval, SE, ENMB]
  refine mU e ?_ h
  refine .ret fun e h => ?_
  cases h
  simp only [seval, SF, ENMB, Tryz.results12]
  refine .skip (Mir.toB (Mir.toK (.region fun e h => ?_)))
  simp only [seval, SE, ENMB]
  cases h
  simp only [seval, SF, ENMB, Tryz.results12, qr67]
  intro v142 qd68
  refine .seqK (.seqK (.region fun e h => ?_))
  simp only [seval, SE, fld_31_1, sz_29, ag_29, und_29, qd68, ENMB]
  refine mU e ?_ h
  refine .condF rfl (.exit fun e h => ?_)
  cases h
  simp only [seval, SF, ENMB, Tryz.results12]
  intro v123
  refine Mir.toK (.seqK (.region fun e h => ?_))
  simp only [seval, SE, ENMB]
  refine mU e ?_ h
  refine .ret fun e h => ?_
  cases h
  simp only [seval, SF, ENMB, Tryz.results12]

def r41_Same (a0 : (List ApiBlock)) (a1 : (List ApiBlock)) : Option Bool :=
  if ((a0.length : Int) != (a1.length : Int)) = true then
    some false
  else
    bindX (guardO (okIdx a0) (
        rangeX (fun (i155 : Nat) (e157 : ApiBlock) (v156 : Unit) =>
          bindO (gt a1 (i155 : Int)) fun (e160 : ApiBlock) =>
          bindO (r41_Equal e157 e160) fun (y161 : Bool) =>
          if (!y161) = true then
            some (.ret (.ret false))
          else
            some (.go ())) (fun (v156 : Unit) => some (.go ())) a0 0 ())) fun (v131 : Unit) =>
    some true
theorem r41_Same_spec {a0 : (List ApiBlock)} {a1 : (List ApiBlock)} {y : Bool} (h : r41_Same a0 a1 = some y) : Spec gP 15 [.d (.list (List.map encApiBlock a0)), .d (.list (List.map encApiBlock a1))] (.d (.bool y)) := by
  refine spec_mir Tryz.func15 rfl (by kernel_rfl) (by kernel_rfl) (fun y : Bool => .d (.bool y)) ?_ h
  unfold r41_Same
  simp only [List.replicate, List.length, nS, nA, Tryz.ntmps15, SV]
  refine .seqK (.region fun e h => ?_)
  simp only [seval, SE, ENMB]
  refine mU e ?_ h
  refine .seqK (.seqK (.region fun e h => ?_))
  simp only [seval, SE, und_39, ENMB]
  refine mU e ?_ h
  refine .cond rfl (fun hb2 => ?_) (fun hb2 => ?_)
  refine .seqK (.region fun e h => ?_)
  simp only [seval, SE, ENMB]
  refine mU e ?_ h
  refine .ret fun e h => ?_
  cases h
  simp only [seval, SF, ENMB, Tryz.results15]
  refine .skip (Mir.toK (.seqK (.seqK (.region fun e h => ?_))))
  simp only [seval, SE, ENMB]
  refine mU e ?_ h
  refine Mir.join (fun v131 : Unit => (us 27)) (fun v131 => ⟨[], []⟩) (fun _ => rfl) ?_ ?_
  refine .block (.guard fun qg81 => Mir.range (fun (i155 : Nat) (v156 : Unit) => (.d (.list (List.map encApiBlock a0)) :: .d (.list (List.map encApiBlock a1)) :: U :: U :: U :: .d (.int .i64 (i155 : Int)) :: us 21)) (fun i155 v156 => ⟨[], []⟩) qg81 (fun _ _ => rfl) (by simp only [seval, SF, ENMB, (nr rfl : ((0 : Nat) : Int) = 0)]) (by simp only [seval, SF, ENMB, (nr rfl : ((0 : Nat) : Int) = 0)]) ?_ ?_)
  intro i155 e157 v156 qr79
  refine .seqK (.seqK (.region fun e h => ?_))
  simp only [seval, SE, und_39, qr79, ENMB]
  refine mU e ?_ h
  refine .condT rfl (.skip (Mir.toK (.seqK (.block (.seqK (.bind fun e160 q85 => ?_))))))
  replace q85 := gt_ok q85
  simp only [Int.toNat_natCast] at q85
  refine .bind fun y161 hy86 => .regionD [] (by kernel_rfl) fun e h => ?_
  simp only [seval, SE, SB, und_39, sz_31, qr79, Int.toNat_natCast, ag_31, q85, ENMB]
  refine Spec.by (r41_Equal_spec hy86) (by simp only [seval, SF, ENMB]) ?_
  simp only [seval, SE, SB, ENMB]
  refine mU e ?_ h
  refine .cond rfl (fun hb88 => ?_) (fun hb88 => ?_)
  refine .seqK (.region fun e h => ?_)
  simp only [seval, SE, ENMB]
  refine mU e ?_ h
  refine .ret fun e h => ?_
  cases h
  simp only [seval, SF, ENMB, Tryz.results15]
  refine .skip (Mir.toB (Mir.toK (.region fun e h => ?_)))
  simp only [seval, SE, ENMB]
  cases h
  simp only [seval, SF, ENMB, Tryz.results15, qr79]
  intro v156 qd80
  refine .seqK (.seqK (.region fun e h => ?_))
  simp only [seval, SE, und_39, qd80, ENMB]
  refine mU e ?_ h
  refine .condF rfl (.exit fun e h => ?_)
  cases h
  simp only [seval, SF, ENMB, Tryz.results15]
  intro v131
  refine Mir.toK (.seqK (.region fun e h => ?_))
  simp only [seval, SE, ENMB]
  refine mU e ?_ h
  refine .ret fun e h => ?_
  cases h
  simp only [seval, SF, ENMB, Tryz.results15]

end Go.Proofs.YtejknolljjpodaaGreatDoor
