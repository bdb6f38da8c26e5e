/-
  Mirrors of functions, written by wip/mir.py.
-/
import Derived.Test.YtejknolljjpodaaGreatDoorGx
import Derived.Test.YtejknolljjpodaaGreatDoorTy
import Derived.Test.YtejknolljjpodaaGreatDoorGz
import Derived.Test.YtejknolljjpodaaGreatDoorSzb
import Derived.Test.YtejknolljjpodaaGreatDoorMB
import Derived.Test.YtejknolljjpodaaGreatDoorMV
namespace Go.Proofs.YtejknolljjpodaaGreatDoor
open Go.RowKit
open Nat renaming reduceAdd → nA, reduceSub → nS, reduceMul → nM, reduceEqDiff → nE, reduceLeDiff → nL, reduceLT → nT, reduceBEq → nB
open Int renaming reduceLT → iT, reduceToNat → iN, reduceEq → iE
set_option linter.unusedVariables false
set_option linter.unusedSimpArgs false
set_option maxRecDepth 100000

structure R42State where
  Motion : Int
  Distance : Int
  Work : Int
  Length : Int
  Return : Int
  Feed : Int
  Tool : Int
  Offset : Int
  deriving DecidableEq
def encR42State (x : R42State) : List D := [.int .i64 x.Motion, .int .i64 x.Distance, .int .i64 x.Work, .int .i64 x.Length, .int .i64 x.Return, .int .i64 x.Feed, .int .i64 x.Tool, .int .i64 x.Offset]
structure R43Sub where
  Number : Int
  Blocks : (List ApiBlock)
  deriving DecidableEq
def encR43Sub (x : R43Sub) : List D := [.int .i64 x.Number, .list (List.map encApiBlock x.Blocks)]
structure R43Program where
  Main : (List ApiBlock)
  Subs : (List R43Sub)
  deriving DecidableEq
def encR43Program (x : R43Program) : List D := [.list (List.map encApiBlock x.Main), .list (List.map encR43Sub x.Subs)]
theorem ENMW : type_of% (And.intro @encR42State.eq_1 <| And.intro @encR43Sub.eq_1 <| @encR43Program.eq_1) := And.intro @encR42State.eq_1 <| And.intro @encR43Sub.eq_1 <| @encR43Program.eq_1
def r46_Few (a0 : (List ApiStage)) (a1 : Int) : Option Bool :=
  if (decide ((a0.length : Int) > 4)) = true then
    some false
  else
    bindX (guardO (okIdx a0) (
        rangeX (fun (i127 : Nat) (e129 : ApiStage) (v128 : Unit) =>
          if (decide ((e129.Moves.length : Int) > a1)) = true then
            some (.ret (.ret false))
          else
            some (.go ())) (fun (v128 : Unit) => some (.go ())) a0 0 ())) fun (v115 : Unit) =>
    some true
theorem r46_Few_spec {a0 : (List ApiStage)} {a1 : Int} {y : Bool} (h : r46_Few a0 a1 = some y) : Spec gP 18 [.d (.list (List.map encApiStage a0)), .d (.int .i64 a1)] (.d (.bool y)) := by
  refine spec_mir Tryz.func18 rfl (by kernel_rfl) (by kernel_rfl) (fun y : Bool => .d (.bool y)) ?_ h
  unfold r46_Few
  simp only [List.replicate, List.length, nS, nA, Tryz.ntmps18, SV]
  refine .seqK (.region fun e h => ?_)
  simp only [seval, SE, ENMB]
  refine mU e ?_ h
  refine .seqK (.seqK (.region fun e h => ?_))
  simp only [seval, SE, und_47, ENMB]
  refine mU e ?_ h
  refine .cond rfl (fun hb2 => ?_) (fun hb2 => ?_)
  refine .seqK (.region fun e h => ?_)
  simp only [seval, SE, ENMB]
  refine mU e ?_ h
  refine .ret fun e h => ?_
  cases h
  simp only [seval, SF, ENMB, Tryz.results18]
  refine .skip (Mir.toK (.seqK (.seqK (.region fun e h => ?_))))
  simp only [seval, SE, ENMB]
  refine mU e ?_ h
  refine Mir.join (fun v115 : Unit => (us 23)) (fun v115 => ⟨[], []⟩) (fun _ => rfl) ?_ ?_
  refine .block (.guard fun qg53 => Mir.range (fun (i127 : Nat) (v128 : Unit) => (.d (.list (List.map encApiStage a0)) :: .d (.int .i64 a1) :: U :: U :: U :: .d (.int .i64 (i127 : Int)) :: us 17)) (fun i127 v128 => ⟨[], []⟩) qg53 (fun _ _ => rfl) (by simp only [seval, SF, ENMB, (nr rfl : ((0 : Nat) : Int) = 0)]) (by simp only [seval, SF, ENMB, (nr rfl : ((0 : Nat) : Int) = 0)]) ?_ ?_)
  intro i127 e129 v128 qr51
  refine .seqK (.seqK (.region fun e h => ?_))
  simp only [seval, SE, und_47, qr51, ENMB]
  refine mU e ?_ h
  refine .condT rfl (.skip (Mir.toK (.seqK (.block (.seqK (.region fun e h => ?_))))))
  simp only [seval, SE, und_47, sz_83, qr51, Int.toNat_natCast, fld_83_1, sz_81, ag_81, und_81, ENMB]
  refine mU e ?_ h
  refine .cond rfl (fun hb56 => ?_) (fun hb56 => ?_)
  refine .seqK (.region fun e h => ?_)
  simp only [seval, SE, ENMB]
  refine mU e ?_ h
  refine .ret fun e h => ?_
  cases h
  simp only [seval, SF, ENMB, Tryz.results18]
  refine .skip (Mir.toB (Mir.toK (.region fun e h => ?_)))
  simp only [seval, SE, ENMB]
  cases h
  simp only [seval, SF, ENMB, Tryz.results18, qr51]
  intro v128 qd52
  refine .seqK (.seqK (.region fun e h => ?_))
  simp only [seval, SE, und_47, qd52, ENMB]
  refine mU e ?_ h
  refine .condF rfl (.exit fun e h => ?_)
  cases h
  simp only [seval, SF, ENMB, Tryz.results18]
  intro v115
  refine Mir.toK (.seqK (.region fun e h => ?_))
  simp only [seval, SE, ENMB]
  refine mU e ?_ h
  refine .ret fun e h => ?_
  cases h
  simp only [seval, SF, ENMB, Tryz.results18]

def r46_far (a0 : Int) : Option Bool :=
  some ((decide (a0 > 10000000)) || (decide (a0 < (-10000000))))
theorem r46_far_spec {a0 : Int} {y : Bool} (h : r46_far a0 = some y) : Spec gP 88 [.d (.int .i64 a0)] (.d (.bool y)) := by
  refine spec_mir Tryz.func88 rfl (by kernel_rfl) (by kernel_rfl) (fun y : Bool => .d (.bool y)) ?_ h
  unfold r46_far
  simp only [List.replicate, List.length, nS, nA, Tryz.ntmps88, SV]
  refine .seqK (.region fun e h => ?_)
  simp only [seval, SE]
  refine mU e ?_ h
  refine .seqK (.joinV (U :: U :: .d (.bool ((decide (a0 > 10000000)) || (decide (a0 < (-10000000))))) :: us 6) ⟨[], []⟩ rfl ?_ ?_)
  refine SWs.region ?_
  rcases Bool.eq_false_or_eq_true (decide (a0 > 10000000)) with hb1 | hb1
  simp only [seval, SE, SL, PB, hb1]
  simp only [seval, SE, SL, PB, hb1]
  refine Mir.toK (.ret fun e h => ?_)
  cases h
  simp only [seval, SF, Tryz.results88]

def r46_Plain (a0 : (List ApiStage)) (a1 : ApiPos) (a2 : R46Options) : Option ((List ApiBlock) × Int) :=
  bindO (r46_Valid a2) fun (y101 : Int) =>
  if (y101 != 0) = true then
    some ([], y101)
  else
    bindO (bindO (r46_far a1.X) fun (y102 : Bool) =>
        if y102 = true then
          some true
        else
          bindO (r46_far a1.Y) fun (y103 : Bool) =>
          if y103 = true then
            some true
          else
            bindO (r46_far a1.Z) fun (y104 : Bool) =>
            some y104) fun (v105 : Bool) =>
    if v105 = true then
      some ([], 11)
    else
      bindO (r46_word 71 0) fun (y106 : ApiWord) =>
      bindO (r46_word 71 90000) fun (y107 : ApiWord) =>
      bindO (r46_word 71 a2.Work) fun (y108 : ApiWord) =>
      bindO (r46_word 71 49000) fun (y109 : ApiWord) =>
      bindO (r46_word 71 98000) fun (y110 : ApiWord) =>
      bindO (r46_line [y106, y107, y108, y109, y110]) fun (y111 : ApiBlock) =>
      bindX (guardO (okIdx a0) (
          rangeX (fun (i467 : Nat) (e469 : ApiStage) (v468 : (List ApiBlock) × ApiPos) =>
            bindX (bindO (r46_Change e469.Tool) fun (y494 : (List ApiBlock) × Int) =>
                if (y494.2 != 0) = true then
                  some (.ret (.ret (.ret ([], y494.2))))
                else
                  guardO (okLen (v468.1.length + y494.1.length)) (
                  loopX (fun (v512 : (List ApiBlock) × Int × ApiPos) =>
                    if (decide (v512.2.1 < (e469.Moves.length : Int))) = true then
                      bindO (gt e469.Moves v512.2.1) fun (e515 : ApiMove) =>
                      bindO (r46_Move v512.2.2 e515) fun (y516 : ApiBlock × Int) =>
                      if (y516.2 != 0) = true then
                        some (.ret (.ret (.ret (.ret ([], y516.2)))))
                      else
                        guardO (okLen (v512.1.length + 1)) (
                        some (.go (v512.1 ++ [y516.1], IntKind.i64.wrap (v512.2.1 + 1), e515.To)))
                    else
                      some (.ret (.go (v512.1, v512.2.2)))) fuel (v468.1 ++ y494.1, 0, v468.2))) fun (v493 : (List ApiBlock) × ApiPos) =>
            some (.go (v493.1, v493.2))) (fun (v468 : (List ApiBlock) × ApiPos) => some (.go (v468.1, v468.2))) a0 0 ([y111], a1))) fun (v314 : (List ApiBlock) × ApiPos) =>
      bindO (r46_word 71 49000) fun (y517 : ApiWord) =>
      bindO (r46_line [y517]) fun (y518 : ApiBlock) =>
      bindO (r46_word 77 30000) fun (y519 : ApiWord) =>
      bindO (r46_line [y519]) fun (y520 : ApiBlock) =>
      guardO (okLen (v314.1.length + 2)) (
      some (v314.1 ++ [y518, y520], 0))
set_option maxHeartbeats 8000000 in
theorem r46_Plain_spec {a0 : (List ApiStage)} {a1 : ApiPos} {a2 : R46Options} {y : (List ApiBlock) × Int} (h : r46_Plain a0 a1 a2 = some y) : Spec gP 45 [.d (.list (List.map encApiStage a0)), .agg [.d (.int .i64 a1.X), .d (.int .i64 a1.Y), .d (.int .i64 a1.Z)], .agg [.d (.int .i64 a2.Work), .d (.bool a2.Compress), .d (.int .i64 a2.Numbers), .d (.int .i64 a2.Fold)]] (.tuple [.d (.list (List.map encApiBlock y.1)), .d (.int .i64 y.2)]) := by
  refine spec_mir Tryz.func45 rfl (by kernel_rfl) (by kernel_rfl) (fun y : (List ApiBlock) × Int => .tuple [.d (.list (List.map encApiBlock y.1)), .d (.int .i64 y.2)]) ?_ h
  unfold r46_Plain
  simp only [List.replicate, List.length, nS, nA, Tryz.ntmps45, SV]
  refine .seqK (.region fun e h => ?_)
  simp only [seval, SE, ENMB]
  refine mU e ?_ h
  refine .seqK (.seqK (.bind fun y101 hy1 => .region fun e h => ?_))
  simp only [seval, SE, ag_38, sz_38, ENMB]
  refine SpecS.by (r46_Valid_spec hy1) (by simp only [seval, SF, ENMB]) ?_
  simp only [seval, SE, ENMB]
  refine mU e ?_ h
  refine .seqK (.region fun e h => ?_)
  simp only [seval, SE, ENMB]
  refine mU e ?_ h
  refine .cond rfl (fun hb3 => ?_) (fun hb3 => ?_)
  refine .seqK (.region fun e h => ?_)
  simp only [seval, SE, ENMB]
  refine mU e ?_ h
  refine .ret fun e h => ?_
  cases h
  simp only [seval, SF, ENMB, Tryz.results45]
  refine .skip (Mir.toK (.seqK (.seqK (Mir.joinO (fun v105 : Bool => (.d (.list (List.map encApiStage a0)) :: U :: U :: U :: .ptr 0 0 :: .ptr 1 0 :: U :: U :: U :: U :: U :: U :: U :: U :: U :: U :: U :: U :: U :: U :: U :: U :: U :: U :: U :: U :: U :: U :: U :: U :: U :: U :: U :: U :: .d (.bool v105) :: us 80)) (fun v105 => ⟨[[.d (.int .i64 a1.X), .d (.int .i64 a1.Y), .d (.int .i64 a1.Z)], [.d (.int .i64 a2.Work), .d (.bool a2.Compress), .d (.int .i64 a2.Numbers), .d (.int .i64 a2.Fold)]], []⟩) (fun _ => rfl) ?_ ?_))))
  refine .bind fun y102 hy4 => .ite (fun hb5 => ?_) (fun hb5 => ?_)
  refine .region fun e h => ?_
  simp only [seval, SE, fld_23_0, sz_2, ag_2, ENMB, hb5]
  refine SpecS.by (r46_far_spec hy4) (by simp only [seval, SF, ENMB, hb5]) ?_
  simp only [seval, SE, ENMB, hb5]
  cases h
  simp only [seval, SF, ENMB, hb5]
  refine .bind fun y103 hy6 => .ite (fun hb7 => ?_) (fun hb7 => ?_)
  refine .region fun e h => ?_
  simp only [seval, SE, fld_23_0, sz_2, ag_2, ENMB, hb5, hb7]
  refine SpecS.by (r46_far_spec hy4) (by simp only [seval, SF, ENMB, hb5, hb7]) ?_
  simp only [seval, SE, fld_23_1, sz_2, ag_2, ENMB, hb5, hb7]
  refine SpecS.by (r46_far_spec hy6) (by simp only [seval, SF, ENMB, hb5, hb7]) ?_
  simp only [seval, SE, ENMB, hb5, hb7]
  cases h
  simp only [seval, SF, ENMB, hb5, hb7]
  refine .bind fun y104 hy8 => .region fun e h => ?_
  simp only [seval, SE, fld_23_0, sz_2, ag_2, ENMB, hb5, hb7]
  refine SpecS.by (r46_far_spec hy4) (by simp only [seval, SF, ENMB, hb5, hb7]) ?_
  simp only [seval, SE, fld_23_1, sz_2, ag_2, ENMB, hb5, hb7]
  refine SpecS.by (r46_far_spec hy6) (by simp only [seval, SF, ENMB, hb5, hb7]) ?_
  simp only [seval, SE, fld_23_2, sz_2, ag_2, ENMB, hb5, hb7]
  refine SpecS.by (r46_far_spec hy8) (by simp only [seval, SF, ENMB, hb5, hb7]) ?_
  simp only [seval, SE, ENMB, hb5, hb7]
  cases h
  simp only [seval, SF, ENMB, hb5, hb7]
  intro v105
  refine Mir.toK (.cond rfl (fun hb10 => ?_) (fun hb10 => ?_))
  refine .seqK (.region fun e h => ?_)
  simp only [seval, SE, ENMB]
  refine mU e ?_ h
  refine .ret fun e h => ?_
  cases h
  simp only [seval, SF, ENMB, Tryz.results45]
  refine .skip (Mir.toK (.seqK (.bind fun y106 hy11 => .bind fun y107 hy12 => .bind fun y108 hy13 => .bind fun y109 hy14 => .bind fun y110 hy15 => .bind fun y111 hy16 => .regionT 4 [] (by kernel_rfl) fun e h => ?_)))
  simp only [seval, SE, w_none, w_eq, SB, ENMB]
  refine Spec.by (r46_word_spec hy11) (by simp only [seval, SF, ENMB]) ?_
  simp only [seval, SE, w_none, w_eq, SB, ENMB]
  refine Spec.by (r46_word_spec hy12) (by simp only [seval, SF, ENMB]) ?_
  simp only [seval, SE, w_none, w_eq, SB, fld_38_0, sz_2, ag_2, ENMB]
  refine regW.alt 5 rfl ?_
  simp only [seval, SE, w_none, w_eq, ENMB]
  refine SpecS.by (r46_word_spec hy13) (by simp only [seval, SF, ENMB]) ?_
  simp only [seval, SE, w_none, w_eq, ENMB]
  refine SpecS.by (r46_word_spec hy14) (by simp only [seval, SF, ENMB]) ?_
  simp only [seval, SE, w_none, w_eq, ENMB]
  refine SpecS.by (r46_word_spec hy15) (by simp only [seval, SF, ENMB]) ?_
  simp only [seval, SE, w_none, w_eq, und_29, sz_77, zero_77, (nr rfl : okLen 10 = true), ENMB]
  refine SpecS.byF (r46_line_specF hy16) (by simp only [seval, SF, ENMB]) ?_
  simp only [seval, SE, w_none, w_eq, ENMB]
  refine alt_litOwn (es := List.map encApiBlock [y111]) app_39 (by simp only [seval, SE, und_39, sz_31, zero_31, (nr rfl : okLen 3 = true), ENMB]) (by decide) (regW.of ?_)
  simp only [seval, SE, w_none, w_eq, und_39, sz_31, zero_31, (nr rfl : okLen 3 = true), ENMB]
  refine mU e ?_ h
  refine .seqK (.region fun e h => ?_)
  simp only [seval, SE, ag_23, sz_23, zero_23, ENMB]
  refine mU e ?_ h
  refine .seqK (.seqK (.region fun e h => ?_))
  simp only [seval, SE, ENMB]
  refine mU e ?_ h
  refine Mir.join (fun v314 : (List ApiBlock) × ApiPos => (U :: U :: U :: U :: U :: U :: U :: U :: U :: .own 0 (List.map encApiBlock v314.1) :: us 105)) (fun v314 => ⟨[[.d (.int .i64 a1.X), .d (.int .i64 a1.Y), .d (.int .i64 a1.Z)], [.d (.int .i64 a2.Work), .d (.bool a2.Compress), .d (.int .i64 a2.Numbers), .d (.int .i64 a2.Fold)], [.d (.int .i64 v314.2.X), .d (.int .i64 v314.2.Y), .d (.int .i64 v314.2.Z)]], [(31, v314.1.length)]⟩) (fun _ => rfl) ?_ ?_
  refine .block (.guard fun qg774 => Mir.range (fun (i467 : Nat) (v468 : (List ApiBlock) × ApiPos) => (.d (.list (List.map encApiStage a0)) :: U :: U :: U :: U :: U :: U :: U :: U :: .own 0 (List.map encApiBlock v468.1) :: .ptr 2 0 :: .d (.int .i64 (i467 : Int)) :: us 103)) (fun i467 v468 => ⟨[[.d (.int .i64 a1.X), .d (.int .i64 a1.Y), .d (.int .i64 a1.Z)], [.d (.int .i64 a2.Work), .d (.bool a2.Compress), .d (.int .i64 a2.Numbers), .d (.int .i64 a2.Fold)], [.d (.int .i64 v468.2.X), .d (.int .i64 v468.2.Y), .d (.int .i64 v468.2.Z)]], [(31, v468.1.length)]⟩) qg774 (fun _ _ => rfl) (by simp only [seval, SF, ENMB, (nr rfl : ((0 : Nat) : Int) = 0)]) (by simp only [seval, SF, ENMB, (nr rfl : ((0 : Nat) : Int) = 0)]) ?_ ?_)
  intro i467 e469 v468 qr772
  refine .seqK (.seqK (.region fun e h => ?_))
  simp only [seval, SE, und_47, qr772, ENMB]
  refine mU e ?_ h
  refine .condT rfl (.skip (Mir.toK (.seqK (Mir.join (fun v493 : (List ApiBlock) × ApiPos => (.d (.list (List.map encApiStage a0)) :: U :: U :: U :: U :: U :: U :: U :: U :: .own 0 (List.map encApiBlock v493.1) :: .ptr 2 0 :: .d (.int .i64 (i467 : Int)) :: us 103)) (fun v493 => ⟨[[.d (.int .i64 a1.X), .d (.int .i64 a1.Y), .d (.int .i64 a1.Z)], [.d (.int .i64 a2.Work), .d (.bool a2.Compress), .d (.int .i64 a2.Numbers), .d (.int .i64 a2.Fold)], [.d (.int .i64 v493.2.X), .d (.int .i64 v493.2.Y), .d (.int .i64 v493.2.Z)]], [(31, v493.1.length)]⟩) (fun _ => rfl) ?_ ?_))))
  refine .block (.seqK (.bind fun y494 hy827 => .region fun e h => ?_))
  simp only [seval, SE, und_47, sz_83, qr772, Int.toNat_natCast, fld_83_0, sz_3, ag_3, ENMB]
  refine SpecS.by (r46_Change_spec hy827) (by simp only [seval, SF, ENMB]) ?_
  simp only [seval, SE, ENMB]
  refine mU e ?_ h
  refine .seqK (.seqK (.region fun e h => ?_))
  simp only [seval, SE, ENMB]
  refine mU e ?_ h
  refine .cond rfl (fun hb829 => ?_) (fun hb829 => ?_)
  refine .seqK (.region fun e h => ?_)
  simp only [seval, SE, ENMB]
  refine mU e ?_ h
  refine .ret fun e h => ?_
  cases h
  simp only [seval, SF, ENMB, Tryz.results45]
  refine .skip (Mir.toK (.seqK (.guard fun q830 => .region fun e h => ?_)))
  simp only [seval, SE, app_39, al_ApiBlock, q830, ENMB]
  refine mU e ?_ h
  refine .seqK (.region fun e h => ?_)
  simp only [seval, SE, ENMB]
  refine mU e ?_ h
  refine .block (Mir.loop (fun v512 : (List ApiBlock) × Int × ApiPos => (.d (.list (List.map encApiStage a0)) :: U :: U :: U :: U :: U :: U :: U :: U :: .own 0 (List.map encApiBlock v512.1) :: .ptr 2 0 :: .d (.int .i64 (i467 : Int)) :: U :: U :: .d (.int .i64 v512.2.1) :: us 100)) (fun v512 => ⟨[[.d (.int .i64 a1.X), .d (.int .i64 a1.Y), .d (.int .i64 a1.Z)], [.d (.int .i64 a2.Work), .d (.bool a2.Compress), .d (.int .i64 a2.Numbers), .d (.int .i64 a2.Fold)], [.d (.int .i64 v512.2.2.X), .d (.int .i64 v512.2.2.Y), .d (.int .i64 v512.2.2.Z)]], [(31, v512.1.length)]⟩) (fun _ => rfl) (by simp only [seval, SF, ENMB]) (by simp only [seval, SF, ENMB]) fun v512 => .seqK (.seqK (.region fun e h => ?_)))
  simp only [seval, SE, und_47, sz_83, qr772, Int.toNat_natCast, fld_83_1, sz_81, ag_81, und_81, ENMB]
  refine mU e ?_ h
  refine .cond rfl (fun hb868 => ?_) (fun hb868 => ?_)
  refine .skip (Mir.toK (.seqK (.block (.seqK (.bind fun e515 q874 => ?_)))))
  replace q874 := gt_ok q874
  refine .bind fun y516 hy875 => .regionD [] (by kernel_rfl) fun e h => ?_
  simp only [seval, SE, SB, ag_23, sz_23, und_47, sz_83, qr772, Int.toNat_natCast, fld_83_1, sz_81, ag_81, und_81, sz_27, q874, ag_27, ENMB]
  refine Spec.by (r46_Move_spec hy875) (by simp only [seval, SF, ENMB]) ?_
  simp only [seval, SE, SB, zero_31, sz_31, ENMB]
  refine mU e ?_ h
  refine .seqK (.seqK (.region fun e h => ?_))
  simp only [seval, SE, ENMB]
  refine mU e ?_ h
  refine .cond rfl (fun hb877 => ?_) (fun hb877 => ?_)
  refine .seqK (.region fun e h => ?_)
  simp only [seval, SE, ENMB]
  refine mU e ?_ h
  refine .ret fun e h => ?_
  cases h
  simp only [seval, SF, ENMB, Tryz.results45]
  refine .skip (Mir.toK (.guard fun q878 => .regionD [] (by kernel_rfl) fun e h => ?_))
  simp only [seval, SE, SB, ag_31, sz_31, und_39, zero_31, (nr rfl : okLen 3 = true), app_39, al_ApiBlock, q878, und_47, sz_83, qr772, Int.toNat_natCast, fld_83_1, sz_81, ag_81, und_81, sz_27, q874, fld_27_1, sz_23, ag_23, ENMB]
  refine mU e ?_ h
  refine .region fun e h => ?_
  simp only [seval, SE, ENMB]
  cases h
  simp only [seval, SF, ENMB, Tryz.results45]
  refine .exit fun e h => ?_
  cases h
  simp only [seval, SF, ENMB, Tryz.results45]
  intro v493
  refine Mir.toK (.region fun e h => ?_)
  simp only [seval, SE, ENMB]
  cases h
  simp only [seval, SF, ENMB, Tryz.results45, qr772]
  intro v468 qd773
  refine .seqK (.seqK (.region fun e h => ?_))
  simp only [seval, SE, und_47, qd773, ENMB]
  refine mU e ?_ h
  refine .condF rfl (.exit fun e h => ?_)
  cases h
  simp only [seval, SF, ENMB, Tryz.results45]
  intro v314
  refine Mir.toK (.seqK (.bind fun y517 hy879 => .bind fun y518 hy880 => .bind fun y519 hy881 => .bind fun y520 hy882 => .guard fun q883 => .region fun e h => ?_))
  simp only [seval, SE, ENMB]
  refine SpecS.by (r46_word_spec hy879) (by simp only [seval, SF, ENMB]) ?_
  simp only [seval, SE, und_29, sz_77, zero_77, (nr rfl : okLen 2 = true), ENMB]
  refine SpecS.byF (r46_line_specF hy880) (by simp only [seval, SF, ENMB]) ?_
  simp only [seval, SE, ENMB]
  refine SpecS.by (r46_word_spec hy881) (by simp only [seval, SF, ENMB]) ?_
  simp only [seval, SE, und_29, sz_77, zero_77, (nr rfl : okLen 2 = true), ENMB]
  refine SpecS.byF (r46_line_specF hy882) (by simp only [seval, SF, ENMB]) ?_
  simp only [seval, SE, und_39, sz_31, zero_31, (nr rfl : okLen 6 = true), app_39, al_ApiBlock, q883, ENMB]
  refine mU e ?_ h
  refine .ret fun e h => ?_
  cases h
  simp only [seval, SF, ENMB, Tryz.results45]

def r42_New  : Option R42State :=
  some (R42State.mk 0 90000 54000 49000 98000 0 0 0)
theorem r42_New_spec  {y : R42State} (h : r42_New = some y) : Spec gP 47 [] (.agg [.d (.int .i64 y.Motion), .d (.int .i64 y.Distance), .d (.int .i64 y.Work), .d (.int .i64 y.Length), .d (.int .i64 y.Return), .d (.int .i64 y.Feed), .d (.int .i64 y.Tool), .d (.int .i64 y.Offset)]) := by
  refine spec_mir Tryz.func47 rfl (by kernel_rfl) (by kernel_rfl) (fun y : R42State => .agg [.d (.int .i64 y.Motion), .d (.int .i64 y.Distance), .d (.int .i64 y.Work), .d (.int .i64 y.Length), .d (.int .i64 y.Return), .d (.int .i64 y.Feed), .d (.int .i64 y.Tool), .d (.int .i64 y.Offset)]) ?_ h
  unfold r42_New
  simp only [List.replicate, List.length, nS, nA, Tryz.ntmps47, SV]
  refine .seqK (.region fun e h => ?_)
  simp only [seval, SE, zero_89]
  refine mU e ?_ h
  refine .seqK (.region fun e h => ?_)
  simp only [seval, SE, zero_89, pl_89, sz_89]
  refine mU e ?_ h
  refine .ret fun e h => ?_
  cases h
  simp only [seval, SF, Tryz.results47, ag_89, sz_89]

def r42_class (a0 : ApiWord) : Option Int :=
  if (a0.Letter == 71) = true then
    bindO (r42_Group a0.Value) fun (y102 : Int) =>
    some y102
  else
    some (IntKind.i64.wrap (10 + (IntKind.i64.wrap a0.Letter)))
theorem r42_class_spec {a0 : ApiWord} {y : Int} (h : r42_class a0 = some y) : Spec gP 147 [.agg [.d (.int .u8 a0.Letter), .d (.int .i64 a0.Value)]] (.d (.int .i64 y)) := by
  refine spec_mir Tryz.func147 rfl (by kernel_rfl) (by kernel_rfl) (fun y : Int => .d (.int .i64 y)) ?_ h
  unfold r42_class
  simp only [List.replicate, List.length, nS, nA, Tryz.ntmps147, SV]
  refine .seqK (.region fun e h => ?_)
  simp only [seval, SE]
  refine mU e ?_ h
  refine .seqK (.seqK (.region fun e h => ?_))
  simp only [seval, SE, fld_77_0, sz_5, ag_5]
  refine mU e ?_ h
  refine .cond rfl (fun hb3 => ?_) (fun hb3 => ?_)
  refine .seqK (.bind fun y102 hy4 => .region fun e h => ?_)
  simp only [seval, SE, fld_77_1, sz_2, ag_2]
  refine SpecS.by (r42_Group_spec hy4) (by simp only [seval, SF]) ?_
  simp only [seval, SE]
  refine mU e ?_ h
  refine .ret fun e h => ?_
  cases h
  simp only [seval, SF, Tryz.results147]
  refine .skip (Mir.toK (.seqK (.region fun e h => ?_)))
  simp only [seval, SE, fld_77_0, sz_5, ag_5, und_5, und_3]
  refine mU e ?_ h
  refine .ret fun e h => ?_
  cases h
  simp only [seval, SF, Tryz.results147]

def r42_whole (a0 : ApiWord) : Option Bool :=
  if (a0.Letter == 70) = true then
    some (decide (a0.Value ≥ 0))
  else
    bindO (if (a0.Letter == 84) = true then
          some (a0.Letter == 84)
        else
          some (a0.Letter == 72)) fun (v103 : Bool) =>
    if v103 = true then
      some ((decide (a0.Value ≥ 0)) && ((Int.tmod a0.Value 1000) == 0))
    else
      some true
theorem r42_whole_spec {a0 : ApiWord} {y : Bool} (h : r42_whole a0 = some y) : Spec gP 148 [.agg [.d (.int .u8 a0.Letter), .d (.int .i64 a0.Value)]] (.d (.bool y)) := by
  refine spec_mir Tryz.func148 rfl (by kernel_rfl) (by kernel_rfl) (fun y : Bool => .d (.bool y)) ?_ h
  unfold r42_whole
  simp only [List.replicate, List.length, nS, nA, Tryz.ntmps148, SV]
  refine .seqK (.region fun e h => ?_)
  simp only [seval, SE]
  refine mU e ?_ h
  refine .seqK (.seqK (.region fun e h => ?_))
  simp only [seval, SE, fld_77_0, sz_5, ag_5]
  refine mU e ?_ h
  refine .block (.seqK (.region fun e h => ?_))
  simp only [seval, SE]
  refine mU e ?_ h
  refine .cond rfl (fun hb11 => ?_) (fun hb11 => ?_)
  refine .seqK (.region fun e h => ?_)
  simp only [seval, SE, fld_77_1, sz_2, ag_2]
  refine mU e ?_ h
  refine .ret fun e h => ?_
  cases h
  simp only [seval, SF, Tryz.results148]
  refine .seqK (.seqK (.region fun e h => ?_))
  simp only [seval, SE]
  refine mU e ?_ h
  refine Mir.joinO (fun v103 : Bool => (U :: .ptr 0 0 :: U :: U :: U :: U :: U :: U :: U :: U :: .d (.bool v103) :: us 11)) (fun v103 => ⟨[[.d (.int .u8 a0.Letter), .d (.int .i64 a0.Value)]], []⟩) (fun _ => rfl) ?_ ?_
  refine .cond rfl (fun hb13 => ?_) (fun hb13 => ?_)
  refine .skip fun e h => ?_
  cases h
  simp only [seval, SF, Tryz.results148]
  refine .region fun e h => ?_
  simp only [seval, SE]
  cases h
  simp only [seval, SF, Tryz.results148]
  intro v103
  refine Mir.toK (.cond rfl (fun hb16 => ?_) (fun hb16 => ?_))
  refine .seqK (.joinV (U :: U :: .d (.bool ((decide (a0.Value ≥ 0)) && ((Int.tmod a0.Value 1000) == 0))) :: us 19) ⟨[[.d (.int .u8 a0.Letter), .d (.int .i64 a0.Value)]], []⟩ rfl ?_ ?_)
  refine SWs.region ?_
  rcases Bool.eq_false_or_eq_true (decide (a0.Value ≥ 0)) with hb17 | hb17
  simp only [seval, SE, SL, PB, fld_77_1, sz_2, ag_2, hb17]
  simp only [seval, SE, SL, PB, fld_77_1, sz_2, ag_2, hb17]
  refine Mir.toK (.ret fun e h => ?_)
  cases h
  simp only [seval, SF, Tryz.results148]
  refine .skip (Mir.toB (Mir.toK (.seqK (.region fun e h => ?_))))
  simp only [seval, SE]
  refine mU e ?_ h
  refine .ret fun e h => ?_
  cases h
  simp only [seval, SF, Tryz.results148]

def r42_Check (a0 : ApiBlock) : Option Int :=
  bindX (guardO (okIdx a0.Words) (
      rangeX (fun (i356 : Nat) (e358 : ApiWord) (v357 : Unit) =>
        bindX (bindO (r42_class e358) fun (y381 : Int) =>
            bindO (if (y381 == 0) = true then
                  some true
                else
                  bindO (r42_whole e358) fun (y382 : Bool) =>
                  some (!y382)) fun (v383 : Bool) =>
            if v383 = true then
              some (.ret (.ret (.ret 1)))
            else
              loopX (fun (v397 : Int) =>
                if (decide (v397 < (i356 : Int))) = true then
                  bindO (gt a0.Words v397) fun (e400 : ApiWord) =>
                  bindO (r42_class e400) fun (y401 : Int) =>
                  if (y401 == y381) = true then
                    some (.ret (.ret (.ret (.ret 1))))
                  else
                    some (.go (IntKind.i64.wrap (v397 + 1)))
                else
                  some (.ret (.go ()))) fuel 0) fun (v380 : Unit) =>
        some (.go ())) (fun (v357 : Unit) => some (.go ())) a0.Words 0 ())) fun (v251 : Unit) =>
  some 0
theorem r42_Check_spec {a0 : ApiBlock} {y : Int} (h : r42_Check a0 = some y) : Spec gP 126 [.agg [.d (.bool a0.Skip), .d (.list (List.map encApiWord a0.Words)), .d (.str a0.Comment)]] (.d (.int .i64 y)) := by
  refine spec_mir Tryz.func126 rfl (by kernel_rfl) (by kernel_rfl) (fun y : Int => .d (.int .i64 y)) ?_ h
  unfold r42_Check
  simp only [List.replicate, List.length, nS, nA, Tryz.ntmps126, SV]
  refine .seqK (.region fun e h => ?_)
  simp only [seval, SE, ENMB]
  refine mU e ?_ h
  refine .seqK (.seqK (.region fun e h => ?_))
  simp only [seval, SE, ENMB]
  refine mU e ?_ h
  refine Mir.join (fun v251 : Unit => (us 43)) (fun v251 => ⟨[[.d (.bool a0.Skip), .d (.list (List.map encApiWord a0.Words)), .d (.str a0.Comment)]], []⟩) (fun _ => rfl) ?_ ?_
  refine .block (.guard fun qg370 => Mir.range (fun (i356 : Nat) (v357 : Unit) => (U :: .ptr 0 0 :: U :: .d (.int .i64 (i356 : Int)) :: us 39)) (fun i356 v357 => ⟨[[.d (.bool a0.Skip), .d (.list (List.map encApiWord a0.Words)), .d (.str a0.Comment)]], []⟩) qg370 (fun _ _ => rfl) (by simp only [seval, SF, ENMB, (nr rfl : ((0 : Nat) : Int) = 0)]) (by simp only [seval, SF, ENMB, (nr rfl : ((0 : Nat) : Int) = 0)]) ?_ ?_)
  intro i356 e358 v357 qr368
  refine .seqK (.seqK (.region fun e h => ?_))
  simp only [seval, SE, fld_31_1, sz_29, ag_29, und_29, qr368, ENMB]
  refine mU e ?_ h
  refine .condT rfl (.skip (Mir.toK (.seqK (Mir.join (fun v380 : Unit => (U :: .ptr 0 0 :: U :: .d (.int .i64 (i356 : Int)) :: us 39)) (fun v380 => ⟨[[.d (.bool a0.Skip), .d (.list (List.map encApiWord a0.Words)), .d (.str a0.Comment)]], []⟩) (fun _ => rfl) ?_ ?_))))
  refine .block (.seqK (.bind fun y381 hy403 => .region fun e h => ?_))
  simp only [seval, SE, fld_31_1, sz_29, ag_29, und_29, sz_77, qr368, Int.toNat_natCast, ag_77, ENMB]
  refine SpecS.by (r42_class_spec hy403) (by simp only [seval, SF, ENMB]) ?_
  simp only [seval, SE, ENMB]
  refine mU e ?_ h
  refine .seqK (.seqK (Mir.joinO (fun v383 : Bool => (U :: .ptr 0 0 :: U :: .d (.int .i64 (i356 : Int)) :: .d (.int .i64 y381) :: U :: U :: U :: U :: U :: U :: U :: U :: U :: U :: U :: U :: U :: U :: U :: U :: U :: U :: U :: U :: U :: U :: U :: U :: .d (.bool v383) :: us 13)) (fun v383 => ⟨[[.d (.bool a0.Skip), .d (.list (List.map encApiWord a0.Words)), .d (.str a0.Comment)]], []⟩) (fun _ => rfl) ?_ ?_))
  refine .ite (fun hb404 => ?_) (fun hb404 => ?_)
  refine .region fun e h => ?_
  simp only [seval, SE, ENMB, hb404]
  cases h
  simp only [seval, SF, ENMB, hb404]
  refine .bind fun y382 hy405 => .region fun e h => ?_
  simp only [seval, SE, fld_31_1, sz_29, ag_29, und_29, sz_77, qr368, Int.toNat_natCast, ag_77, ENMB, hb404]
  refine SpecS.by (r42_whole_spec hy405) (by simp only [seval, SF, ENMB, hb404]) ?_
  simp only [seval, SE, ENMB, hb404]
  cases h
  simp only [seval, SF, ENMB, hb404]
  intro v383
  refine Mir.toK (.cond rfl (fun hb407 => ?_) (fun hb407 => ?_))
  refine .seqK (.region fun e h => ?_)
  simp only [seval, SE, ENMB]
  refine mU e ?_ h
  refine .ret fun e h => ?_
  cases h
  simp only [seval, SF, ENMB, Tryz.results126]
  refine .skip (Mir.toK (.seqK (.region fun e h => ?_)))
  simp only [seval, SE, ENMB]
  refine mU e ?_ h
  refine .block (Mir.loop (fun v397 : Int => (U :: .ptr 0 0 :: U :: .d (.int .i64 (i356 : Int)) :: .d (.int .i64 y381) :: .d (.int .i64 v397) :: us 37)) (fun v397 => ⟨[[.d (.bool a0.Skip), .d (.list (List.map encApiWord a0.Words)), .d (.str a0.Comment)]], []⟩) (fun _ => rfl) (by simp only [seval, SF, ENMB]) (by simp only [seval, SF, ENMB]) fun v397 => .seqK (.seqK (.region fun e h => ?_)))
  simp only [seval, SE, ENMB]
  refine mU e ?_ h
  refine .cond rfl (fun hb427 => ?_) (fun hb427 => ?_)
  refine .skip (Mir.toK (.seqK (.block (.seqK (.bind fun e400 q431 => ?_)))))
  replace q431 := gt_ok q431
  refine .bind fun y401 hy432 => .region fun e h => ?_
  simp only [seval, SE, fld_31_1, sz_29, ag_29, und_29, sz_77, q431, ag_77, ENMB]
  refine SpecS.by (r42_class_spec hy432) (by simp only [seval, SF, ENMB]) ?_
  simp only [seval, SE, ENMB]
  refine mU e ?_ h
  refine .cond rfl (fun hb434 => ?_) (fun hb434 => ?_)
  refine .seqK (.region fun e h => ?_)
  simp only [seval, SE, ENMB]
  refine mU e ?_ h
  refine .ret fun e h => ?_
  cases h
  simp only [seval, SF, ENMB, Tryz.results126]
  refine .skip (Mir.toB (Mir.toK (.region fun e h => ?_)))
  simp only [seval, SE, ENMB]
  cases h
  simp only [seval, SF, ENMB, Tryz.results126]
  refine .exit fun e h => ?_
  cases h
  simp only [seval, SF, ENMB, Tryz.results126]
  intro v380
  refine Mir.toK (.region fun e h => ?_)
  simp only [seval, SE, ENMB]
  cases h
  simp only [seval, SF, ENMB, Tryz.results126, qr368]
  intro v357 qd369
  refine .seqK (.seqK (.region fun e h => ?_))
  simp only [seval, SE, fld_31_1, sz_29, ag_29, und_29, qd369, ENMB]
  refine mU e ?_ h
  refine .condF rfl (.exit fun e h => ?_)
  cases h
  simp only [seval, SF, ENMB, Tryz.results126]
  intro v251
  refine Mir.toK (.seqK (.region fun e h => ?_))
  simp only [seval, SE, ENMB]
  refine mU e ?_ h
  refine .ret fun e h => ?_
  cases h
  simp only [seval, SF, ENMB, Tryz.results126]

def r42_one (a0 : R42State) (a1 : ApiWord) : Option R42State :=
  bindO (if (a1.Letter == 70) = true then
        some (R42State.mk a0.Motion a0.Distance a0.Work a0.Length a0.Return a1.Value a0.Tool a0.Offset)
      else
        if (a1.Letter == 84) = true then
          some (R42State.mk a0.Motion a0.Distance a0.Work a0.Length a0.Return a0.Feed a1.Value a0.Offset)
        else
          if (a1.Letter == 72) = true then
            some (R42State.mk a0.Motion a0.Distance a0.Work a0.Length a0.Return a0.Feed a0.Tool a1.Value)
          else
            if (a1.Letter == 71) = true then
              bindO (r42_Group a1.Value) fun (y103 : Int) =>
              if (y103 == 1) = true then
                some (R42State.mk a1.Value a0.Distance a0.Work a0.Length a0.Return a0.Feed a0.Tool a0.Offset)
              else
                if (y103 == 2) = true then
                  some (R42State.mk a0.Motion a1.Value a0.Work a0.Length a0.Return a0.Feed a0.Tool a0.Offset)
                else
                  if (y103 == 3) = true then
                    some (R42State.mk a0.Motion a0.Distance a1.Value a0.Length a0.Return a0.Feed a0.Tool a0.Offset)
                  else
                    if (y103 == 4) = true then
                      some (R42State.mk a0.Motion a0.Distance a0.Work a1.Value a0.Return a0.Feed a0.Tool a0.Offset)
                    else
                      if (y103 == 5) = true then
                        some (R42State.mk a0.Motion a0.Distance a0.Work a0.Length a1.Value a0.Feed a0.Tool a0.Offset)
                      else
                        some a0
            else
              some a0) fun (v102 : R42State) =>
  some v102
theorem r42_one_spec {a0 : R42State} {a1 : ApiWord} {y : R42State} (h : r42_one a0 a1 = some y) : Spec gP 125 [.agg [.d (.int .i64 a0.Motion), .d (.int .i64 a0.Distance), .d (.int .i64 a0.Work), .d (.int .i64 a0.Length), .d (.int .i64 a0.Return), .d (.int .i64 a0.Feed), .d (.int .i64 a0.Tool), .d (.int .i64 a0.Offset)], .agg [.d (.int .u8 a1.Letter), .d (.int .i64 a1.Value)]] (.agg [.d (.int .i64 y.Motion), .d (.int .i64 y.Distance), .d (.int .i64 y.Work), .d (.int .i64 y.Length), .d (.int .i64 y.Return), .d (.int .i64 y.Feed), .d (.int .i64 y.Tool), .d (.int .i64 y.Offset)]) := by
  refine spec_mir Tryz.func125 rfl (by kernel_rfl) (by kernel_rfl) (fun y : R42State => .agg [.d (.int .i64 y.Motion), .d (.int .i64 y.Distance), .d (.int .i64 y.Work), .d (.int .i64 y.Length), .d (.int .i64 y.Return), .d (.int .i64 y.Feed), .d (.int .i64 y.Tool), .d (.int .i64 y.Offset)]) ?_ h
  unfold r42_one
  simp only [List.replicate, List.length, nS, nA, Tryz.ntmps125, SV]
  refine .seqK (.region fun e h => ?_)
  simp only [seval, SE, zero_89]
  refine mU e ?_ h
  refine .seqK (.seqK (.region fun e h => ?_))
  simp only [seval, SE, fld_77_0, sz_5, ag_5]
  refine mU e ?_ h
  refine Mir.joinO (fun v102 : R42State => (U :: U :: .ptr 0 0 :: U :: .ptr 2 0 :: us 48)) (fun v102 => ⟨[[.d (.int .i64 v102.Motion), .d (.int .i64 v102.Distance), .d (.int .i64 v102.Work), .d (.int .i64 v102.Length), .d (.int .i64 v102.Return), .d (.int .i64 v102.Feed), .d (.int .i64 v102.Tool), .d (.int .i64 v102.Offset)], [.d (.int .u8 a1.Letter), .d (.int .i64 a1.Value)], [.d (.int .i64 0), .d (.int .i64 0), .d (.int .i64 0), .d (.int .i64 0), .d (.int .i64 0), .d (.int .i64 0), .d (.int .i64 0), .d (.int .i64 0)]], []⟩) (fun _ => rfl) ?_ ?_
  refine .block (.seqK (.region fun e h => ?_))
  simp only [seval, SE]
  refine mU e ?_ h
  refine .cond rfl (fun hb11 => ?_) (fun hb11 => ?_)
  refine .region fun e h => ?_
  simp only [seval, SE, fld_77_1, sz_2, ag_2, fld_89_5]
  cases h
  simp only [seval, SF, Tryz.results125, ag_89, sz_89]
  refine .seqK (.region fun e h => ?_)
  simp only [seval, SE]
  refine mU e ?_ h
  refine .cond rfl (fun hb12 => ?_) (fun hb12 => ?_)
  refine .region fun e h => ?_
  simp only [seval, SE, fld_77_1, sz_2, ag_2, fld_89_6]
  cases h
  simp only [seval, SF, Tryz.results125, ag_89, sz_89]
  refine .seqK (.region fun e h => ?_)
  simp only [seval, SE]
  refine mU e ?_ h
  refine .cond rfl (fun hb13 => ?_) (fun hb13 => ?_)
  refine .region fun e h => ?_
  simp only [seval, SE, fld_77_1, sz_2, ag_2, fld_89_7]
  cases h
  simp only [seval, SF, Tryz.results125, ag_89, sz_89]
  refine .seqK (.region fun e h => ?_)
  simp only [seval, SE]
  refine mU e ?_ h
  refine .cond rfl (fun hb14 => ?_) (fun hb14 => ?_)
  refine .seqK (.bind fun y103 hy15 => .region fun e h => ?_)
  simp only [seval, SE, fld_77_1, sz_2, ag_2]
  refine SpecS.by (r42_Group_spec hy15) (by simp only [seval, SF]) ?_
  simp only [seval, SE]
  refine mU e ?_ h
  refine .block (.seqK (.region fun e h => ?_))
  simp only [seval, SE]
  refine mU e ?_ h
  refine .cond rfl (fun hb16 => ?_) (fun hb16 => ?_)
  refine .region fun e h => ?_
  simp only [seval, SE, fld_77_1, sz_2, ag_2, fld_89_0]
  cases h
  simp only [seval, SF, Tryz.results125, ag_89, sz_89]
  refine .seqK (.region fun e h => ?_)
  simp only [seval, SE]
  refine mU e ?_ h
  refine .cond rfl (fun hb17 => ?_) (fun hb17 => ?_)
  refine .region fun e h => ?_
  simp only [seval, SE, fld_77_1, sz_2, ag_2, fld_89_1]
  cases h
  simp only [seval, SF, Tryz.results125, ag_89, sz_89]
  refine .seqK (.region fun e h => ?_)
  simp only [seval, SE]
  refine mU e ?_ h
  refine .cond rfl (fun hb18 => ?_) (fun hb18 => ?_)
  refine .region fun e h => ?_
  simp only [seval, SE, fld_77_1, sz_2, ag_2, fld_89_2]
  cases h
  simp only [seval, SF, Tryz.results125, ag_89, sz_89]
  refine .seqK (.region fun e h => ?_)
  simp only [seval, SE]
  refine mU e ?_ h
  refine .cond rfl (fun hb19 => ?_) (fun hb19 => ?_)
  refine .region fun e h => ?_
  simp only [seval, SE, fld_77_1, sz_2, ag_2, fld_89_3]
  cases h
  simp only [seval, SF, Tryz.results125, ag_89, sz_89]
  refine .seqK (.region fun e h => ?_)
  simp only [seval, SE]
  refine mU e ?_ h
  refine .cond rfl (fun hb20 => ?_) (fun hb20 => ?_)
  refine .region fun e h => ?_
  simp only [seval, SE, fld_77_1, sz_2, ag_2, fld_89_4]
  cases h
  simp only [seval, SF, Tryz.results125, ag_89, sz_89]
  refine .skip fun e h => ?_
  cases h
  simp only [seval, SF, Tryz.results125, ag_89, sz_89]
  refine .skip fun e h => ?_
  cases h
  simp only [seval, SF, Tryz.results125, ag_89, sz_89]
  intro v102
  refine Mir.toK (.seqK (.region fun e h => ?_))
  simp only [seval, SE, ag_89, sz_89]
  refine mU e ?_ h
  refine .ret fun e h => ?_
  cases h
  simp only [seval, SF, Tryz.results125, ag_89, sz_89]

def r42_Apply (a0 : R42State) (a1 : ApiBlock) : Option (R42State × Int) :=
  bindO (r42_Check a1) fun (y101 : Int) =>
  if (y101 != 0) = true then
    some (R42State.mk 0 0 0 0 0 0 0 0, y101)
  else
    bindO (guardO (okIdx a1.Words) (
        rangeX (fun (i142 : Nat) (e144 : ApiWord) (v143 : R42State) =>
          bindO (r42_one v143 e144) fun (y146 : R42State) =>
          some (.go y146)) (fun (v143 : R42State) => some v143) a1.Words 0 a0)) fun (v124 : R42State) =>
    some (v124, 0)
theorem r42_Apply_spec {a0 : R42State} {a1 : ApiBlock} {y : R42State × Int} (h : r42_Apply a0 a1 = some y) : Spec gP 91 [.agg [.d (.int .i64 a0.Motion), .d (.int .i64 a0.Distance), .d (.int .i64 a0.Work), .d (.int .i64 a0.Length), .d (.int .i64 a0.Return), .d (.int .i64 a0.Feed), .d (.int .i64 a0.Tool), .d (.int .i64 a0.Offset)], .agg [.d (.bool a1.Skip), .d (.list (List.map encApiWord a1.Words)), .d (.str a1.Comment)]] (.tuple [.agg [.d (.int .i64 y.1.Motion), .d (.int .i64 y.1.Distance), .d (.int .i64 y.1.Work), .d (.int .i64 y.1.Length), .d (.int .i64 y.1.Return), .d (.int .i64 y.1.Feed), .d (.int .i64 y.1.Tool), .d (.int .i64 y.1.Offset)], .d (.int .i64 y.2)]) := by
  refine spec_mir Tryz.func91 rfl (by kernel_rfl) (by kernel_rfl) (fun y : R42State × Int => .tuple [.agg [.d (.int .i64 y.1.Motion), .d (.int .i64 y.1.Distance), .d (.int .i64 y.1.Work), .d (.int .i64 y.1.Length), .d (.int .i64 y.1.Return), .d (.int .i64 y.1.Feed), .d (.int .i64 y.1.Tool), .d (.int .i64 y.1.Offset)], .d (.int .i64 y.2)]) ?_ h
  unfold r42_Apply
  simp only [List.replicate, List.length, nS, nA, Tryz.ntmps91, SV]
  refine .seqK (.region fun e h => ?_)
  simp only [seval, SE, zero_89, ENMB]
  refine mU e ?_ h
  refine .seqK (.seqK (.bind fun y101 hy1 => .region fun e h => ?_))
  simp only [seval, SE, ag_31, sz_31, ENMB]
  refine SpecS.by (r42_Check_spec hy1) (by simp only [seval, SF, ENMB]) ?_
  simp only [seval, SE, ENMB]
  refine mU e ?_ h
  refine .seqK (.region fun e h => ?_)
  simp only [seval, SE, ENMB]
  refine mU e ?_ h
  refine .cond rfl (fun hb3 => ?_) (fun hb3 => ?_)
  refine .seqK (.region fun e h => ?_)
  simp only [seval, SE, zero_89, pl_89, sz_89, ENMB]
  refine mU e ?_ h
  refine .ret fun e h => ?_
  cases h
  simp only [seval, SF, ENMB, Tryz.results91, ag_89, sz_89]
  refine .skip (Mir.toK (.seqK (.seqK (.region fun e h => ?_))))
  simp only [seval, SE, ENMB]
  refine mU e ?_ h
  refine Mir.joinO (fun v124 : R42State => (U :: U :: .ptr 0 0 :: U :: .ptr 2 0 :: us 24)) (fun v124 => ⟨[[.d (.int .i64 v124.Motion), .d (.int .i64 v124.Distance), .d (.int .i64 v124.Work), .d (.int .i64 v124.Length), .d (.int .i64 v124.Return), .d (.int .i64 v124.Feed), .d (.int .i64 v124.Tool), .d (.int .i64 v124.Offset)], [.d (.bool a1.Skip), .d (.list (List.map encApiWord a1.Words)), .d (.str a1.Comment)], [.d (.int .i64 0), .d (.int .i64 0), .d (.int .i64 0), .d (.int .i64 0), .d (.int .i64 0), .d (.int .i64 0), .d (.int .i64 0), .d (.int .i64 0)]], []⟩) (fun _ => rfl) ?_ ?_
  refine .block (.guard fun qg47 => Mir.range (fun (i142 : Nat) (v143 : R42State) => (U :: U :: .ptr 0 0 :: .ptr 1 0 :: .ptr 2 0 :: U :: U :: .d (.int .i64 (i142 : Int)) :: us 21)) (fun i142 v143 => ⟨[[.d (.int .i64 v143.Motion), .d (.int .i64 v143.Distance), .d (.int .i64 v143.Work), .d (.int .i64 v143.Length), .d (.int .i64 v143.Return), .d (.int .i64 v143.Feed), .d (.int .i64 v143.Tool), .d (.int .i64 v143.Offset)], [.d (.bool a1.Skip), .d (.list (List.map encApiWord a1.Words)), .d (.str a1.Comment)], [.d (.int .i64 0), .d (.int .i64 0), .d (.int .i64 0), .d (.int .i64 0), .d (.int .i64 0), .d (.int .i64 0), .d (.int .i64 0), .d (.int .i64 0)]], []⟩) qg47 (fun _ _ => rfl) (by simp only [seval, SF, ENMB, (nr rfl : ((0 : Nat) : Int) = 0)]) (by simp only [seval, SF, ENMB, (nr rfl : ((0 : Nat) : Int) = 0)]) ?_ ?_)
  intro i142 e144 v143 qr45
  refine .seqK (.seqK (.region fun e h => ?_))
  simp only [seval, SE, fld_31_1, sz_29, ag_29, und_29, qr45, ENMB]
  refine mU e ?_ h
  refine .condT rfl (.skip (Mir.toK (.seqK (.block (.bind fun y146 hy49 => .regionD [] (by kernel_rfl) fun e h => ?_)))))
  simp only [seval, SE, SB, ag_89, sz_89, fld_31_1, sz_29, ag_29, und_29, sz_77, qr45, Int.toNat_natCast, ag_77, ENMB]
  refine Spec.by (r42_one_spec hy49) (by simp only [seval, SF, ENMB]) ?_
  simp only [seval, SE, SB, sz_89, ENMB]
  refine mU e ?_ h
  refine .region fun e h => ?_
  simp only [seval, SE, ENMB]
  cases h
  simp only [seval, SF, ENMB, Tryz.results91, ag_89, sz_89, qr45]
  intro v143 qd46
  refine .seqK (.seqK (.region fun e h => ?_))
  simp only [seval, SE, fld_31_1, sz_29, ag_29, und_29, qd46, ENMB]
  refine mU e ?_ h
  refine .condF rfl (.exit fun e h => ?_)
  cases h
  simp only [seval, SF, ENMB, Tryz.results91, ag_89, sz_89]
  intro v124
  refine Mir.toK (.seqK (.region fun e h => ?_))
  simp only [seval, SE, ag_89, sz_89, ENMB]
  refine mU e ?_ h
  refine .ret fun e h => ?_
  cases h
  simp only [seval, SF, ENMB, Tryz.results91, ag_89, sz_89]

def r42_All (a0 : R42State) (a1 : (List ApiBlock)) : Option (R42State × Int × Int) :=
  bindX (guardO (okIdx a1) (
      rangeX (fun (i141 : Nat) (e143 : ApiBlock) (v142 : R42State) =>
        bindO (r42_Apply v142 e143) fun (y145 : R42State × Int) =>
        if (y145.2 != 0) = true then
          some (.ret (.ret (R42State.mk 0 0 0 0 0 0 0 0, (i141 : Int), y145.2)))
        else
          some (.go y145.1)) (fun (v142 : R42State) => some (.go v142)) a1 0 a0)) fun (v123 : R42State) =>
  some (v123, 0, 0)
theorem r42_All_spec {a0 : R42State} {a1 : (List ApiBlock)} {y : R42State × Int × Int} (h : r42_All a0 a1 = some y) : Spec gP 89 [.agg [.d (.int .i64 a0.Motion), .d (.int .i64 a0.Distance), .d (.int .i64 a0.Work), .d (.int .i64 a0.Length), .d (.int .i64 a0.Return), .d (.int .i64 a0.Feed), .d (.int .i64 a0.Tool), .d (.int .i64 a0.Offset)], .d (.list (List.map encApiBlock a1))] (.tuple [.agg [.d (.int .i64 y.1.Motion), .d (.int .i64 y.1.Distance), .d (.int .i64 y.1.Work), .d (.int .i64 y.1.Length), .d (.int .i64 y.1.Return), .d (.int .i64 y.1.Feed), .d (.int .i64 y.1.Tool), .d (.int .i64 y.1.Offset)], .d (.int .i64 y.2.1), .d (.int .i64 y.2.2)]) := by
  refine spec_mir Tryz.func89 rfl (by kernel_rfl) (by kernel_rfl) (fun y : R42State × Int × Int => .tuple [.agg [.d (.int .i64 y.1.Motion), .d (.int .i64 y.1.Distance), .d (.int .i64 y.1.Work), .d (.int .i64 y.1.Length), .d (.int .i64 y.1.Return), .d (.int .i64 y.1.Feed), .d (.int .i64 y.1.Tool), .d (.int .i64 y.1.Offset)], .d (.int .i64 y.2.1), .d (.int .i64 y.2.2)]) ?_ h
  unfold r42_All
  simp only [List.replicate, List.length, nS, nA, Tryz.ntmps89, SV]
  refine .seqK (.region fun e h => ?_)
  simp only [seval, SE, zero_89, ENMB]
  refine mU e ?_ h
  refine .seqK (.seqK (.region fun e h => ?_))
  simp only [seval, SE, ENMB]
  refine mU e ?_ h
  refine Mir.join (fun v123 : R42State => (U :: U :: .ptr 0 0 :: U :: .ptr 1 0 :: us 27)) (fun v123 => ⟨[[.d (.int .i64 v123.Motion), .d (.int .i64 v123.Distance), .d (.int .i64 v123.Work), .d (.int .i64 v123.Length), .d (.int .i64 v123.Return), .d (.int .i64 v123.Feed), .d (.int .i64 v123.Tool), .d (.int .i64 v123.Offset)], [.d (.int .i64 0), .d (.int .i64 0), .d (.int .i64 0), .d (.int .i64 0), .d (.int .i64 0), .d (.int .i64 0), .d (.int .i64 0), .d (.int .i64 0)]], []⟩) (fun _ => rfl) ?_ ?_
  refine .block (.guard fun qg72 => Mir.range (fun (i141 : Nat) (v142 : R42State) => (U :: .d (.list (List.map encApiBlock a1)) :: .ptr 0 0 :: U :: .ptr 1 0 :: U :: U :: .d (.int .i64 (i141 : Int)) :: us 24)) (fun i141 v142 => ⟨[[.d (.int .i64 v142.Motion), .d (.int .i64 v142.Distance), .d (.int .i64 v142.Work), .d (.int .i64 v142.Length), .d (.int .i64 v142.Return), .d (.int .i64 v142.Feed), .d (.int .i64 v142.Tool), .d (.int .i64 v142.Offset)], [.d (.int .i64 0), .d (.int .i64 0), .d (.int .i64 0), .d (.int .i64 0), .d (.int .i64 0), .d (.int .i64 0), .d (.int .i64 0), .d (.int .i64 0)]], []⟩) qg72 (fun _ _ => rfl) (by simp only [seval, SF, ENMB, (nr rfl : ((0 : Nat) : Int) = 0)]) (by simp only [seval, SF, ENMB, (nr rfl : ((0 : Nat) : Int) = 0)]) ?_ ?_)
  intro i141 e143 v142 qr70
  refine .seqK (.seqK (.region fun e h => ?_))
  simp only [seval, SE, und_39, qr70, ENMB]
  refine mU e ?_ h
  refine .condT rfl (.skip (Mir.toK (.seqK (.block (.seqK (.bind fun y145 hy76 => .regionD [] (by kernel_rfl) fun e h => ?_))))))
  simp only [seval, SE, SB, ag_89, sz_89, und_39, sz_31, qr70, Int.toNat_natCast, ag_31, ENMB]
  refine Spec.by (r42_Apply_spec hy76) (by simp only [seval, SF, ENMB]) ?_
  simp only [seval, SE, SB, zero_89, sz_89, ENMB]
  refine mU e ?_ h
  refine .seqK (.seqK (.region fun e h => ?_))
  simp only [seval, SE, ENMB]
  refine mU e ?_ h
  refine .cond rfl (fun hb78 => ?_) (fun hb78 => ?_)
  refine .seqK (.region fun e h => ?_)
  simp only [seval, SE, zero_89, pl_89, sz_89, ENMB]
  refine mU e ?_ h
  refine .ret fun e h => ?_
  cases h
  simp only [seval, SF, ENMB, Tryz.results89, ag_89, sz_89]
  refine .skip (Mir.toK (.region fun e h => ?_))
  simp only [seval, SE, ag_89, sz_89, ENMB]
  refine mU e ?_ h
  refine .region fun e h => ?_
  simp only [seval, SE, ENMB]
  cases h
  simp only [seval, SF, ENMB, Tryz.results89, ag_89, sz_89, qr70]
  intro v142 qd71
  refine .seqK (.seqK (.region fun e h => ?_))
  simp only [seval, SE, und_39, qd71, ENMB]
  refine mU e ?_ h
  refine .condF rfl (.exit fun e h => ?_)
  cases h
  simp only [seval, SF, ENMB, Tryz.results89, ag_89, sz_89]
  intro v123
  refine Mir.toK (.seqK (.region fun e h => ?_))
  simp only [seval, SE, ag_89, sz_89, ENMB]
  refine mU e ?_ h
  refine .ret fun e h => ?_
  cases h
  simp only [seval, SF, ENMB, Tryz.results89, ag_89, sz_89]

def r42_idle (a0 : R42State) (a1 : ApiWord) : Option Bool :=
  if ((a1.Letter == 71) && ((decide (a1.Value ≥ 80000)) && (decide (a1.Value ≤ 83000)))) = true then
    some false
  else
    bindO (if ((a1.Letter == 71) || ((a1.Letter == 70) || ((a1.Letter == 84) || (a1.Letter == 72)))) = true then
          bindO (r42_one a0 a1) fun (y101 : R42State) =>
          some ((y101.Motion == a0.Motion) && ((y101.Distance == a0.Distance) && ((y101.Work == a0.Work) && ((y101.Length == a0.Length) && ((y101.Return == a0.Return) && ((y101.Feed == a0.Feed) && ((y101.Tool == a0.Tool) && (y101.Offset == a0.Offset))))))))
        else
          some false) fun (v102 : Bool) =>
    some v102
theorem r42_idle_spec {a0 : R42State} {a1 : ApiWord} {y : Bool} (h : r42_idle a0 a1 = some y) : Spec gP 90 [.agg [.d (.int .i64 a0.Motion), .d (.int .i64 a0.Distance), .d (.int .i64 a0.Work), .d (.int .i64 a0.Length), .d (.int .i64 a0.Return), .d (.int .i64 a0.Feed), .d (.int .i64 a0.Tool), .d (.int .i64 a0.Offset)], .agg [.d (.int .u8 a1.Letter), .d (.int .i64 a1.Value)]] (.d (.bool y)) := by
  refine spec_mir Tryz.func90 rfl (by kernel_rfl) (by kernel_rfl) (fun y : Bool => .d (.bool y)) ?_ h
  unfold r42_idle
  simp only [List.replicate, List.length, nS, nA, Tryz.ntmps90, SV]
  refine .seqK (.region fun e h => ?_)
  simp only [seval, SE]
  refine mU e ?_ h
  refine .seqK (.seqK (.joinV (U :: U :: .ptr 0 0 :: .ptr 1 0 :: U :: U :: U :: U :: U :: U :: U :: U :: U :: U :: U :: U :: U :: U :: .d (.bool ((a1.Letter == 71) && ((decide (a1.Value ≥ 80000)) && (decide (a1.Value ≤ 83000))))) :: us 26) ⟨[[.d (.int .i64 a0.Motion), .d (.int .i64 a0.Distance), .d (.int .i64 a0.Work), .d (.int .i64 a0.Length), .d (.int .i64 a0.Return), .d (.int .i64 a0.Feed), .d (.int .i64 a0.Tool), .d (.int .i64 a0.Offset)], [.d (.int .u8 a1.Letter), .d (.int .i64 a1.Value)]], []⟩ rfl ?_ ?_))
  refine SWs.region ?_
  rcases Bool.eq_false_or_eq_true (a1.Letter == 71) with hb1 | hb1
  rcases Bool.eq_false_or_eq_true (decide (a1.Value ≥ 80000)) with hb2 | hb2
  simp only [seval, SE, SL, PB, fld_77_0, sz_5, ag_5, fld_77_1, sz_2, ag_2, hb1, hb2]
  simp only [seval, SE, SL, PB, fld_77_0, sz_5, ag_5, fld_77_1, sz_2, ag_2, hb1, hb2]
  simp only [seval, SE, SL, PB, fld_77_0, sz_5, ag_5, hb1]
  refine Mir.toK (.cond rfl (fun hb4 => ?_) (fun hb4 => ?_))
  refine .seqK (.region fun e h => ?_)
  simp only [seval, SE]
  refine mU e ?_ h
  refine .ret fun e h => ?_
  cases h
  simp only [seval, SF, Tryz.results90]
  refine .skip (Mir.toK (.seqK (.joinV (U :: U :: .ptr 0 0 :: .ptr 1 0 :: U :: .d (.bool ((a1.Letter == 71) || ((a1.Letter == 70) || ((a1.Letter == 84) || (a1.Letter == 72))))) :: us 39) ⟨[[.d (.int .i64 a0.Motion), .d (.int .i64 a0.Distance), .d (.int .i64 a0.Work), .d (.int .i64 a0.Length), .d (.int .i64 a0.Return), .d (.int .i64 a0.Feed), .d (.int .i64 a0.Tool), .d (.int .i64 a0.Offset)], [.d (.int .u8 a1.Letter), .d (.int .i64 a1.Value)]], []⟩ rfl ?_ ?_)))
  refine SWs.region ?_
  rcases Bool.eq_false_or_eq_true (a1.Letter == 71) with hb5 | hb5
  simp only [seval, SE, SL, PB, fld_77_0, sz_5, ag_5, hb5]
  rcases Bool.eq_false_or_eq_true (a1.Letter == 70) with hb6 | hb6
  simp only [seval, SE, SL, PB, fld_77_0, sz_5, ag_5, hb5, hb6]
  rcases Bool.eq_false_or_eq_true (a1.Letter == 84) with hb7 | hb7
  simp only [seval, SE, SL, PB, fld_77_0, sz_5, ag_5, hb5, hb6, hb7]
  simp only [seval, SE, SL, PB, fld_77_0, sz_5, ag_5, hb5, hb6, hb7]
  refine Mir.toK (.seqK (Mir.joinO (fun v102 : Bool => (U :: U :: U :: U :: .d (.bool v102) :: us 40)) (fun v102 => ⟨[[.d (.int .i64 a0.Motion), .d (.int .i64 a0.Distance), .d (.int .i64 a0.Work), .d (.int .i64 a0.Length), .d (.int .i64 a0.Return), .d (.int .i64 a0.Feed), .d (.int .i64 a0.Tool), .d (.int .i64 a0.Offset)], [.d (.int .u8 a1.Letter), .d (.int .i64 a1.Value)]], []⟩) (fun _ => rfl) ?_ ?_))
  refine .ite (fun hb8 => ?_) (fun hb8 => ?_)
  refine .bind fun y101 hy9 => .regionD [] (by kernel_rfl) fun e h => ?_
  simp only [seval, SE, SB, ag_89, sz_89, ag_77, sz_77, hb8]
  refine Spec.by (r42_one_spec hy9) (by simp only [seval, SF, hb8]) ?_
  simp only [seval, SE, SB, ag_89, sz_89, gE_89, hb8]
  cases h
  simp only [seval, SF, hb8]
  refine .regionD [] (by kernel_rfl) fun e h => ?_
  simp only [seval, SE, SB, hb8]
  cases h
  simp only [seval, SF, hb8]
  intro v102
  refine Mir.toK (.ret fun e h => ?_)
  cases h
  simp only [seval, SF, Tryz.results90]

def r42_Compress (a0 : R42State) (a1 : (List ApiBlock)) : Option ((List ApiBlock) × Int) :=
  bindO (r42_All a0 a1) fun (y101 : R42State × Int × Int) =>
  if (y101.2.2 != 0) = true then
    some ([], y101.2.2)
  else
    bindO (guardO (okIdx a1) (
        rangeX (fun (i2383 : Nat) (e2385 : ApiBlock) (v2384 : (List ApiBlock) × R42State) =>
          bindO (bindO (loopX (fun (v2557 : Int × (List ApiWord)) =>
                    if (decide (v2557.1 < (e2385.Words.length : Int))) = true then
                      bindO (bindO (gt e2385.Words v2557.1) fun (e2561 : ApiWord) =>
                          bindO (r42_idle v2384.2 e2561) fun (y2562 : Bool) =>
                          if (!y2562) = true then
                            guardO (okLen (v2557.2.length + 1)) (
                            some (v2557.2 ++ [e2561]))
                          else
                            some v2557.2) fun (v2560 : (List ApiWord)) =>
                      some (.go (IntKind.i64.wrap (v2557.1 + 1), v2560))
                    else
                      some (.ret v2557.2)) fuel (0, [])) fun (v2536 : (List ApiWord)) =>
              bindO (if ((decide ((v2536.length : Int) > 0)) || (e2385.Skip || (!(e2385.Comment == [])))) = true then
                    guardO (okLen (v2384.1.length + 1)) (
                    some (v2384.1 ++ [ApiBlock.mk e2385.Skip v2536 e2385.Comment]))
                  else
                    some v2384.1) fun (v2563 : (List ApiBlock)) =>
              bindO (r42_Apply v2384.2 e2385) fun (y2564 : R42State × Int) =>
              some (v2563, y2564.1)) fun (v2475 : (List ApiBlock) × R42State) =>
          some (.go (v2475.1, v2475.2))) (fun (v2384 : (List ApiBlock) × R42State) => some (v2384.1, v2384.2)) a1 0 ([], a0))) fun (v1834 : (List ApiBlock) × R42State) =>
    some (v1834.1, 0)
set_option maxHeartbeats 8000000 in
theorem r42_Compress_spec {a0 : R42State} {a1 : (List ApiBlock)} {y : (List ApiBlock) × Int} (h : r42_Compress a0 a1 = some y) : Spec gP 46 [.agg [.d (.int .i64 a0.Motion), .d (.int .i64 a0.Distance), .d (.int .i64 a0.Work), .d (.int .i64 a0.Length), .d (.int .i64 a0.Return), .d (.int .i64 a0.Feed), .d (.int .i64 a0.Tool), .d (.int .i64 a0.Offset)], .d (.list (List.map encApiBlock a1))] (.tuple [.d (.list (List.map encApiBlock y.1)), .d (.int .i64 y.2)]) := by
  refine spec_mir Tryz.func46 rfl (by kernel_rfl) (by kernel_rfl) (fun y : (List ApiBlock) × Int => .tuple [.d (.list (List.map encApiBlock y.1)), .d (.int .i64 y.2)]) ?_ h
  unfold r42_Compress
  simp only [List.replicate, List.length, nS, nA, Tryz.ntmps46, SV]
  refine .seqK (.region fun e h => ?_)
  simp only [seval, SE, ENMB]
  refine mU e ?_ h
  refine .seqK (.seqK (.bind fun y101 hy1 => .region fun e h => ?_))
  simp only [seval, SE, ag_89, sz_89, ENMB]
  refine SpecS.by (r42_All_spec hy1) (by simp only [seval, SF, ENMB]) ?_
  simp only [seval, SE, zero_89, sz_89, ENMB]
  refine mU e ?_ h
  refine .seqK (.region fun e h => ?_)
  simp only [seval, SE, ENMB]
  refine mU e ?_ h
  refine .cond rfl (fun hb3 => ?_) (fun hb3 => ?_)
  refine .seqK (.region fun e h => ?_)
  simp only [seval, SE, ENMB]
  refine mU e ?_ h
  refine .ret fun e h => ?_
  cases h
  simp only [seval, SF, ENMB, Tryz.results46]
  refine .skip (Mir.toK (.seqK (.region fun e h => ?_)))
  simp only [seval, SE, ENMB]
  refine mU e ?_ h
  refine .seqK (.seqK (.region fun e h => ?_))
  simp only [seval, SE, ENMB]
  refine mU e ?_ h
  refine .gh [.slot 9 31] rfl (Mir.joinO (fun v1834 : (List ApiBlock) × R42State => (U :: U :: U :: U :: U :: U :: U :: U :: U :: .own 0 (List.map encApiBlock v1834.1) :: us 91)) (fun v1834 => ⟨[[.d (.int .i64 v1834.2.Motion), .d (.int .i64 v1834.2.Distance), .d (.int .i64 v1834.2.Work), .d (.int .i64 v1834.2.Length), .d (.int .i64 v1834.2.Return), .d (.int .i64 v1834.2.Feed), .d (.int .i64 v1834.2.Tool), .d (.int .i64 v1834.2.Offset)], [.d (.int .i64 y101.1.Motion), .d (.int .i64 y101.1.Distance), .d (.int .i64 y101.1.Work), .d (.int .i64 y101.1.Length), .d (.int .i64 y101.1.Return), .d (.int .i64 y101.1.Feed), .d (.int .i64 y101.1.Tool), .d (.int .i64 y101.1.Offset)]], [(31, v1834.1.length)]⟩) (fun _ => rfl) ?_ ?_)
  refine .block (.guard fun qg3336 => Mir.range (fun (i2383 : Nat) (v2384 : (List ApiBlock) × R42State) => (U :: .d (.list (List.map encApiBlock a1)) :: .ptr 0 0 :: U :: U :: U :: U :: U :: U :: .own 0 (List.map encApiBlock v2384.1) :: .d (.int .i64 (i2383 : Int)) :: us 90)) (fun i2383 v2384 => ⟨[[.d (.int .i64 v2384.2.Motion), .d (.int .i64 v2384.2.Distance), .d (.int .i64 v2384.2.Work), .d (.int .i64 v2384.2.Length), .d (.int .i64 v2384.2.Return), .d (.int .i64 v2384.2.Feed), .d (.int .i64 v2384.2.Tool), .d (.int .i64 v2384.2.Offset)], [.d (.int .i64 y101.1.Motion), .d (.int .i64 y101.1.Distance), .d (.int .i64 y101.1.Work), .d (.int .i64 y101.1.Length), .d (.int .i64 y101.1.Return), .d (.int .i64 y101.1.Feed), .d (.int .i64 y101.1.Tool), .d (.int .i64 y101.1.Offset)]], [(31, v2384.1.length)]⟩) qg3336 (fun _ _ => rfl) (by simp only [seval, SF, ENMB, (nr rfl : ((0 : Nat) : Int) = 0)]) (by simp only [seval, SF, ENMB, (nr rfl : ((0 : Nat) : Int) = 0)]) ?_ ?_)
  intro i2383 e2385 v2384 qr3334
  refine .seqK (.seqK (.region fun e h => ?_))
  simp only [seval, SE, und_39, qr3334, ENMB]
  refine mU e ?_ h
  refine .condT rfl (.skip (Mir.toK (.seqK (Mir.joinO (fun v2475 : (List ApiBlock) × R42State => (U :: .d (.list (List.map encApiBlock a1)) :: .ptr 0 0 :: U :: U :: U :: U :: U :: U :: .own 0 (List.map encApiBlock v2475.1) :: .d (.int .i64 (i2383 : Int)) :: us 90)) (fun v2475 => ⟨[[.d (.int .i64 v2475.2.Motion), .d (.int .i64 v2475.2.Distance), .d (.int .i64 v2475.2.Work), .d (.int .i64 v2475.2.Length), .d (.int .i64 v2475.2.Return), .d (.int .i64 v2475.2.Feed), .d (.int .i64 v2475.2.Tool), .d (.int .i64 v2475.2.Offset)], [.d (.int .i64 y101.1.Motion), .d (.int .i64 y101.1.Distance), .d (.int .i64 y101.1.Work), .d (.int .i64 y101.1.Length), .d (.int .i64 y101.1.Return), .d (.int .i64 y101.1.Feed), .d (.int .i64 y101.1.Tool), .d (.int .i64 y101.1.Offset)]], [(31, v2475.1.length)]⟩) (fun _ => rfl) ?_ ?_))))
  refine .block (.seqK (.regionD [] (by kernel_rfl) fun e h => ?_))
  simp only [seval, SE, SB, und_39, sz_31, qr3334, Int.toNat_natCast, fld_31_0, sz_4, ag_4, fld_31_2, sz_9, ag_9, zero_31, pl_31, ENMB]
  refine mU e ?_ h
  refine .seqK (.seqK (.region fun e h => ?_))
  simp only [seval, SE, ENMB]
  refine mU e ?_ h
  refine .gh [.cell 2 1 77] rfl (Mir.joinO (fun v2536 : (List ApiWord) => (U :: .d (.list (List.map encApiBlock a1)) :: .ptr 0 0 :: U :: U :: U :: U :: U :: U :: .own 0 (List.map encApiBlock v2384.1) :: .d (.int .i64 (i2383 : Int)) :: .ptr 2 0 :: us 89)) (fun v2536 => ⟨[[.d (.int .i64 v2384.2.Motion), .d (.int .i64 v2384.2.Distance), .d (.int .i64 v2384.2.Work), .d (.int .i64 v2384.2.Length), .d (.int .i64 v2384.2.Return), .d (.int .i64 v2384.2.Feed), .d (.int .i64 v2384.2.Tool), .d (.int .i64 v2384.2.Offset)], [.d (.int .i64 y101.1.Motion), .d (.int .i64 y101.1.Distance), .d (.int .i64 y101.1.Work), .d (.int .i64 y101.1.Length), .d (.int .i64 y101.1.Return), .d (.int .i64 y101.1.Feed), .d (.int .i64 y101.1.Tool), .d (.int .i64 y101.1.Offset)], [.d (.bool e2385.Skip), .own 1 (List.map encApiWord v2536), .d (.str e2385.Comment)]], [(31, v2384.1.length), (77, v2536.length)]⟩) (fun _ => rfl) ?_ ?_)
  refine .block (Mir.loop (fun v2557 : Int × (List ApiWord) => (U :: .d (.list (List.map encApiBlock a1)) :: .ptr 0 0 :: U :: U :: U :: U :: U :: U :: .own 0 (List.map encApiBlock v2384.1) :: .d (.int .i64 (i2383 : Int)) :: .ptr 2 0 :: .d (.int .i64 v2557.1) :: us 88)) (fun v2557 => ⟨[[.d (.int .i64 v2384.2.Motion), .d (.int .i64 v2384.2.Distance), .d (.int .i64 v2384.2.Work), .d (.int .i64 v2384.2.Length), .d (.int .i64 v2384.2.Return), .d (.int .i64 v2384.2.Feed), .d (.int .i64 v2384.2.Tool), .d (.int .i64 v2384.2.Offset)], [.d (.int .i64 y101.1.Motion), .d (.int .i64 y101.1.Distance), .d (.int .i64 y101.1.Work), .d (.int .i64 y101.1.Length), .d (.int .i64 y101.1.Return), .d (.int .i64 y101.1.Feed), .d (.int .i64 y101.1.Tool), .d (.int .i64 y101.1.Offset)], [.d (.bool e2385.Skip), .own 1 (List.map encApiWord v2557.2), .d (.str e2385.Comment)]], [(31, v2384.1.length), (77, v2557.2.length)]⟩) (fun _ => rfl) (by simp only [seval, SF, ENMB]) (by simp only [seval, SF, ENMB]) fun v2557 => .seqK (.seqK (.region fun e h => ?_)))
  simp only [seval, SE, und_39, sz_31, qr3334, Int.toNat_natCast, fld_31_1, sz_29, ag_29, und_29, ENMB]
  refine mU e ?_ h
  refine .cond rfl (fun hb3585 => ?_) (fun hb3585 => ?_)
  refine .skip (Mir.toK (.seqK (Mir.joinO (fun v2560 : (List ApiWord) => (U :: .d (.list (List.map encApiBlock a1)) :: .ptr 0 0 :: U :: U :: U :: U :: U :: U :: .own 0 (List.map encApiBlock v2384.1) :: .d (.int .i64 (i2383 : Int)) :: .ptr 2 0 :: .d (.int .i64 v2557.1) :: us 88)) (fun v2560 => ⟨[[.d (.int .i64 v2384.2.Motion), .d (.int .i64 v2384.2.Distance), .d (.int .i64 v2384.2.Work), .d (.int .i64 v2384.2.Length), .d (.int .i64 v2384.2.Return), .d (.int .i64 v2384.2.Feed), .d (.int .i64 v2384.2.Tool), .d (.int .i64 v2384.2.Offset)], [.d (.int .i64 y101.1.Motion), .d (.int .i64 y101.1.Distance), .d (.int .i64 y101.1.Work), .d (.int .i64 y101.1.Length), .d (.int .i64 y101.1.Return), .d (.int .i64 y101.1.Feed), .d (.int .i64 y101.1.Tool), .d (.int .i64 y101.1.Offset)], [.d (.bool e2385.Skip), .own 1 (List.map encApiWord v2560), .d (.str e2385.Comment)]], [(31, v2384.1.length), (77, v2560.length)]⟩) (fun _ => rfl) ?_ ?_)))
  refine .block (.seqK (.bind fun e2561 q3590 => ?_))
  replace q3590 := gt_ok q3590
  refine .bind fun y2562 hy3591 => .regionD [] (by kernel_rfl) fun e h => ?_
  simp only [seval, SE, SB, ag_89, sz_89, und_39, sz_31, qr3334, Int.toNat_natCast, fld_31_1, sz_29, ag_29, und_29, sz_77, q3590, ag_77, ENMB]
  refine Spec.by (r42_idle_spec hy3591) (by simp only [seval, SF, ENMB]) ?_
  simp only [seval, SE, SB, ENMB]
  refine mU e ?_ h
  refine .cond rfl (fun hb3592 => ?_) (fun hb3592 => ?_)
  refine .guard fun q3593 => .regionD [] (by kernel_rfl) fun e h => ?_
  simp only [seval, SE, SB, fld_31_1, sz_29, ag_29, und_39, sz_31, qr3334, Int.toNat_natCast, und_29, sz_77, q3590, ag_77, zero_77, (nr rfl : okLen 2 = true), app_29, al_ApiWord, q3593, ENMB]
  cases h
  simp only [seval, SF, ENMB, Tryz.results46]
  refine .skip fun e h => ?_
  cases h
  simp only [seval, SF, ENMB, Tryz.results46]
  intro v2560
  refine Mir.toK (.region fun e h => ?_)
  simp only [seval, SE, ENMB]
  cases h
  simp only [seval, SF, ENMB, Tryz.results46]
  refine .exit fun e h => ?_
  cases h
  simp only [seval, SF, ENMB, Tryz.results46]
  intro v2536
  refine Mir.toK (.seqK (.seqK (.joinV (U :: .d (.list (List.map encApiBlock a1)) :: .ptr 0 0 :: U :: U :: U :: U :: U :: U :: .own 0 (List.map encApiBlock v2384.1) :: .d (.int .i64 (i2383 : Int)) :: .ptr 2 0 :: U :: U :: U :: U :: U :: U :: U :: U :: U :: U :: U :: U :: U :: U :: U :: U :: U :: U :: U :: U :: U :: U :: U :: U :: U :: U :: U :: U :: U :: U :: U :: U :: U :: U :: U :: U :: U :: U :: U :: U :: U :: U :: U :: U :: U :: U :: U :: U :: U :: U :: U :: U :: U :: U :: U :: U :: U :: U :: U :: U :: U :: U :: U :: U :: U :: U :: U :: U :: U :: U :: U :: U :: U :: U :: .d (.bool ((decide ((v2536.length : Int) > 0)) || (e2385.Skip || (!(e2385.Comment == []))))) :: us 14) ⟨[[.d (.int .i64 v2384.2.Motion), .d (.int .i64 v2384.2.Distance), .d (.int .i64 v2384.2.Work), .d (.int .i64 v2384.2.Length), .d (.int .i64 v2384.2.Return), .d (.int .i64 v2384.2.Feed), .d (.int .i64 v2384.2.Tool), .d (.int .i64 v2384.2.Offset)], [.d (.int .i64 y101.1.Motion), .d (.int .i64 y101.1.Distance), .d (.int .i64 y101.1.Work), .d (.int .i64 y101.1.Length), .d (.int .i64 y101.1.Return), .d (.int .i64 y101.1.Feed), .d (.int .i64 y101.1.Tool), .d (.int .i64 y101.1.Offset)], [.d (.bool e2385.Skip), .own 1 (List.map encApiWord v2536), .d (.str e2385.Comment)]], [(31, v2384.1.length), (77, v2536.length)]⟩ rfl ?_ ?_)))
  refine SWs.region ?_
  rcases Bool.eq_false_or_eq_true (decide ((v2536.length : Int) > 0)) with hb3594 | hb3594
  simp only [seval, SE, SL, PB, fld_31_1, sz_29, ag_29, und_29, hb3594, ENMB]
  rcases Bool.eq_false_or_eq_true (e2385.Skip) with hb3595 | hb3595
  simp only [seval, SE, SL, PB, fld_31_1, sz_29, ag_29, und_29, fld_31_0, sz_4, ag_4, hb3594, hb3595, ENMB]
  simp only [seval, SE, SL, PB, fld_31_1, sz_29, ag_29, und_29, fld_31_0, sz_4, ag_4, fld_31_2, sz_9, ag_9, hb3594, hb3595, ENMB]
  refine Mir.toK (Mir.joinO (fun v2563 : (List ApiBlock) => (U :: .d (.list (List.map encApiBlock a1)) :: .ptr 0 0 :: U :: U :: U :: U :: U :: U :: .own 0 (List.map encApiBlock v2563) :: .d (.int .i64 (i2383 : Int)) :: us 90)) (fun v2563 => ⟨[[.d (.int .i64 v2384.2.Motion), .d (.int .i64 v2384.2.Distance), .d (.int .i64 v2384.2.Work), .d (.int .i64 v2384.2.Length), .d (.int .i64 v2384.2.Return), .d (.int .i64 v2384.2.Feed), .d (.int .i64 v2384.2.Tool), .d (.int .i64 v2384.2.Offset)], [.d (.int .i64 y101.1.Motion), .d (.int .i64 y101.1.Distance), .d (.int .i64 y101.1.Work), .d (.int .i64 y101.1.Length), .d (.int .i64 y101.1.Return), .d (.int .i64 y101.1.Feed), .d (.int .i64 y101.1.Tool), .d (.int .i64 y101.1.Offset)], [.d (.bool e2385.Skip), .own 1 (List.map encApiWord v2536), .d (.str e2385.Comment)]], [(31, v2563.length), (77, v2536.length)]⟩) (fun _ => rfl) ?_ ?_)
  refine .cond rfl (fun hb3598 => ?_) (fun hb3598 => ?_)
  refine .guard fun q3599 => .region fun e h => ?_
  simp only [seval, SE, ag_31, sz_31, und_39, zero_31, (nr rfl : okLen 3 = true), app_39, al_ApiBlock, q3599, ENMB]
  cases h
  simp only [seval, SF, ENMB, Tryz.results46]
  refine .skip fun e h => ?_
  cases h
  simp only [seval, SF, ENMB, Tryz.results46]
  intro v2563
  refine Mir.toK (.bind fun y2564 hy3600 => .regionD [] (by kernel_rfl) fun e h => ?_)
  simp only [seval, SE, SB, ag_89, sz_89, und_39, sz_31, qr3334, Int.toNat_natCast, ag_31, ENMB]
  refine Spec.by (r42_Apply_spec hy3600) (by simp only [seval, SF, ENMB]) ?_
  simp only [seval, SE, SB, sz_89, ENMB]
  cases h
  simp only [seval, SF, ENMB, Tryz.results46]
  intro v2475
  refine Mir.toK (.region fun e h => ?_)
  simp only [seval, SE, ENMB]
  cases h
  simp only [seval, SF, ENMB, Tryz.results46, qr3334]
  intro v2384 qd3335
  refine .seqK (.seqK (.region fun e h => ?_))
  simp only [seval, SE, und_39, qd3335, ENMB]
  refine mU e ?_ h
  refine .condF rfl (.exit fun e h => ?_)
  cases h
  simp only [seval, SF, ENMB, Tryz.results46]
  intro v1834
  refine Mir.toK (.seqK (.region fun e h => ?_))
  simp only [seval, SE, ENMB]
  refine mU e ?_ h
  refine .ret fun e h => ?_
  cases h
  simp only [seval, SF, ENMB, Tryz.results46]

def r41_Codes (a0 : ApiBlock) (a1 : Int) : Option (List Int) :=
  bindO (guardO (okIdx a0.Words) (
      rangeX (fun (i157 : Nat) (e159 : ApiWord) (v158 : (List Int)) =>
        bindO (if (e159.Letter == a1) = true then
              guardO (okLen (v158.length + 1)) (
              some (v158 ++ [e159.Value]))
            else
              some v158) fun (v160 : (List Int)) =>
        some (.go v160)) (fun (v158 : (List Int)) => some v158) a0.Words 0 [])) fun (v142 : (List Int)) =>
  some v142
theorem r41_Codes_spec {a0 : ApiBlock} {a1 : Int} {y : (List Int)} (h : r41_Codes a0 a1 = some y) : Spec gP 93 [.agg [.d (.bool a0.Skip), .d (.list (List.map encApiWord a0.Words)), .d (.str a0.Comment)], .d (.int .u8 a1)] (.d (.list (List.map (eInt .i64) y))) := by
  refine spec_mir Tryz.func93 rfl (by kernel_rfl) (by kernel_rfl) (fun y : (List Int) => .d (.list (List.map (eInt .i64) y))) ?_ h
  unfold r41_Codes
  simp only [List.replicate, List.length, nS, nA, Tryz.ntmps93, SV]
  refine .seqK (.region fun e h => ?_)
  simp only [seval, SE, ENMB, eInt]
  refine mU e ?_ h
  refine .seqK (.region fun e h => ?_)
  simp only [seval, SE, ENMB, eInt]
  refine mU e ?_ h
  refine .seqK (.seqK (.region fun e h => ?_))
  simp only [seval, SE, ENMB, eInt]
  refine mU e ?_ h
  refine .gh [.slot 5 2] rfl (Mir.joinO (fun v142 : (List Int) => (U :: U :: U :: U :: U :: .own 0 (List.map (eInt .i64) v142) :: us 26)) (fun v142 => ⟨[[.d (.bool a0.Skip), .d (.list (List.map encApiWord a0.Words)), .d (.str a0.Comment)]], [(2, v142.length)]⟩) (fun _ => rfl) ?_ ?_)
  refine .block (.guard fun qg91 => Mir.range (fun (i157 : Nat) (v158 : (List Int)) => (U :: .d (.int .u8 a1) :: .ptr 0 0 :: U :: U :: .own 0 (List.map (eInt .i64) v158) :: .d (.int .i64 (i157 : Int)) :: us 25)) (fun i157 v158 => ⟨[[.d (.bool a0.Skip), .d (.list (List.map encApiWord a0.Words)), .d (.str a0.Comment)]], [(2, v158.length)]⟩) qg91 (fun _ _ => rfl) (by simp only [seval, SF, ENMB, eInt, (nr rfl : ((0 : Nat) : Int) = 0)]) (by simp only [seval, SF, ENMB, eInt, (nr rfl : ((0 : Nat) : Int) = 0)]) ?_ ?_)
  intro i157 e159 v158 qr89
  refine .seqK (.seqK (.region fun e h => ?_))
  simp only [seval, SE, fld_31_1, sz_29, ag_29, und_29, qr89, ENMB, eInt]
  refine mU e ?_ h
  refine .condT rfl (.skip (Mir.toK (.seqK (Mir.joinO (fun v160 : (List Int) => (U :: .d (.int .u8 a1) :: .ptr 0 0 :: U :: U :: .own 0 (List.map (eInt .i64) v160) :: .d (.int .i64 (i157 : Int)) :: us 25)) (fun v160 => ⟨[[.d (.bool a0.Skip), .d (.list (List.map encApiWord a0.Words)), .d (.str a0.Comment)]], [(2, v160.length)]⟩) (fun _ => rfl) ?_ ?_))))
  refine .block (.seqK (.region fun e h => ?_))
  simp only [seval, SE, fld_31_1, sz_29, ag_29, und_29, sz_77, qr89, Int.toNat_natCast, fld_77_0, sz_5, ag_5, ENMB, eInt]
  refine mU e ?_ h
  refine .cond rfl (fun hb94 => ?_) (fun hb94 => ?_)
  refine .guard fun q95 => .region fun e h => ?_
  simp only [seval, SE, fld_31_1, sz_29, ag_29, und_29, sz_77, qr89, Int.toNat_natCast, fld_77_1, sz_2, ag_2, und_121, zero_2, (nr rfl : okLen 1 = true), app_121, al_eInt, q95, ENMB, eInt]
  cases h
  simp only [seval, SF, ENMB, eInt, Tryz.results93]
  refine .skip fun e h => ?_
  cases h
  simp only [seval, SF, ENMB, eInt, Tryz.results93]
  intro v160
  refine Mir.toK (.region fun e h => ?_)
  simp only [seval, SE, ENMB, eInt]
  cases h
  simp only [seval, SF, ENMB, eInt, Tryz.results93, qr89]
  intro v158 qd90
  refine .seqK (.seqK (.region fun e h => ?_))
  simp only [seval, SE, fld_31_1, sz_29, ag_29, und_29, qd90, ENMB, eInt]
  refine mU e ?_ h
  refine .condF rfl (.exit fun e h => ?_)
  cases h
  simp only [seval, SF, ENMB, eInt, Tryz.results93]
  intro v142
  refine Mir.toK (.seqK (.region fun e h => ?_))
  simp only [seval, SE, ENMB, eInt]
  refine mU e ?_ h
  refine .ret fun e h => ?_
  cases h
  simp only [seval, SF, ENMB, eInt, Tryz.results93]

def r43_letter (a0 : ApiBlock) (a1 : Int) : Option Bool :=
  bindO (r41_Codes a0 a1) fun (y101 : (List Int)) =>
  some (decide ((y101.length : Int) > 0))
theorem r43_letter_spec {a0 : ApiBlock} {a1 : Int} {y : Bool} (h : r43_letter a0 a1 = some y) : Spec gP 149 [.agg [.d (.bool a0.Skip), .d (.list (List.map encApiWord a0.Words)), .d (.str a0.Comment)], .d (.int .u8 a1)] (.d (.bool y)) := by
  refine spec_mir Tryz.func149 rfl (by kernel_rfl) (by kernel_rfl) (fun y : Bool => .d (.bool y)) ?_ h
  unfold r43_letter
  simp only [List.replicate, List.length, nS, nA, Tryz.ntmps149, SV]
  refine .seqK (.region fun e h => ?_)
  simp only [seval, SE, ENMB]
  refine mU e ?_ h
  refine .seqK (.bind fun y101 hy1 => .region fun e h => ?_)
  simp only [seval, SE, ag_31, sz_31, ENMB]
  refine SpecS.by (r41_Codes_spec hy1) (by simp only [seval, SF, ENMB]) ?_
  simp only [seval, SE, und_121, ENMB]
  refine mU e ?_ h
  refine .ret fun e h => ?_
  cases h
  simp only [seval, SF, ENMB, Tryz.results149]

def r43_has (a0 : ApiBlock) (a1 : Int) (a2 : Int) : Option Bool :=
  bindX (guardO (okIdx a0.Words) (
      rangeX (fun (i139 : Nat) (e141 : ApiWord) (v140 : Unit) =>
        if ((e141.Letter == a1) && (e141.Value == a2)) = true then
          some (.ret (.ret true))
        else
          some (.go ())) (fun (v140 : Unit) => some (.go ())) a0.Words 0 ())) fun (v121 : Unit) =>
  some false
theorem r43_has_spec {a0 : ApiBlock} {a1 : Int} {a2 : Int} {y : Bool} (h : r43_has a0 a1 a2 = some y) : Spec gP 128 [.agg [.d (.bool a0.Skip), .d (.list (List.map encApiWord a0.Words)), .d (.str a0.Comment)], .d (.int .u8 a1), .d (.int .i64 a2)] (.d (.bool y)) := by
  refine spec_mir Tryz.func128 rfl (by kernel_rfl) (by kernel_rfl) (fun y : Bool => .d (.bool y)) ?_ h
  unfold r43_has
  simp only [List.replicate, List.length, nS, nA, Tryz.ntmps128, SV]
  refine .seqK (.region fun e h => ?_)
  simp only [seval, SE, ENMB]
  refine mU e ?_ h
  refine .seqK (.seqK (.region fun e h => ?_))
  simp only [seval, SE, ENMB]
  refine mU e ?_ h
  refine Mir.join (fun v121 : Unit => (us 33)) (fun v121 => ⟨[[.d (.bool a0.Skip), .d (.list (List.map encApiWord a0.Words)), .d (.str a0.Comment)]], []⟩) (fun _ => rfl) ?_ ?_
  refine .block (.guard fun qg65 => Mir.range (fun (i139 : Nat) (v140 : Unit) => (U :: .d (.int .u8 a1) :: .d (.int .i64 a2) :: .ptr 0 0 :: U :: U :: U :: .d (.int .i64 (i139 : Int)) :: us 25)) (fun i139 v140 => ⟨[[.d (.bool a0.Skip), .d (.list (List.map encApiWord a0.Words)), .d (.str a0.Comment)]], []⟩) qg65 (fun _ _ => rfl) (by simp only [seval, SF, ENMB, (nr rfl : ((0 : Nat) : Int) = 0)]) (by simp only [seval, SF, ENMB, (nr rfl : ((0 : Nat) : Int) = 0)]) ?_ ?_)
  intro i139 e141 v140 qr63
  refine .seqK (.seqK (.region fun e h => ?_))
  simp only [seval, SE, fld_31_1, sz_29, ag_29, und_29, qr63, ENMB]
  refine mU e ?_ h
  refine .condT rfl (.skip (Mir.toK (.seqK (.block (.seqK (.joinV [U, .d (.int .u8 a1), .d (.int .i64 a2), .ptr 0 0, U, U, U, .d (.int .i64 (i139 : Int)), U, U, U, U, U, U, U, U, U, U, U, U, U, U, U, U, U, U, U, U, U, U, U, U, .d (.bool ((e141.Letter == a1) && (e141.Value == a2)))] ⟨[[.d (.bool a0.Skip), .d (.list (List.map encApiWord a0.Words)), .d (.str a0.Comment)]], []⟩ rfl ?_ ?_))))))
  refine SWs.region ?_
  rcases Bool.eq_false_or_eq_true (e141.Letter == a1) with hb68 | hb68
  simp only [seval, SE, SL, PB, fld_31_1, sz_29, ag_29, und_29, sz_77, qr63, Int.toNat_natCast, fld_77_0, sz_5, ag_5, fld_77_1, sz_2, ag_2, hb68, ENMB]
  simp only [seval, SE, SL, PB, fld_31_1, sz_29, ag_29, und_29, sz_77, qr63, Int.toNat_natCast, fld_77_0, sz_5, ag_5, hb68, ENMB]
  refine Mir.toK (.cond rfl (fun hb70 => ?_) (fun hb70 => ?_))
  refine .seqK (.region fun e h => ?_)
  simp only [seval, SE, ENMB]
  refine mU e ?_ h
  refine .ret fun e h => ?_
  cases h
  simp only [seval, SF, ENMB, Tryz.results128]
  refine .skip (Mir.toB (Mir.toK (.region fun e h => ?_)))
  simp only [seval, SE, ENMB]
  cases h
  simp only [seval, SF, ENMB, Tryz.results128, qr63]
  intro v140 qd64
  refine .seqK (.seqK (.region fun e h => ?_))
  simp only [seval, SE, fld_31_1, sz_29, ag_29, und_29, qd64, ENMB]
  refine mU e ?_ h
  refine .condF rfl (.exit fun e h => ?_)
  cases h
  simp only [seval, SF, ENMB, Tryz.results128]
  intro v121
  refine Mir.toK (.seqK (.region fun e h => ?_))
  simp only [seval, SE, ENMB]
  refine mU e ?_ h
  refine .ret fun e h => ?_
  cases h
  simp only [seval, SF, ENMB, Tryz.results128]

def r43_End (a0 : ApiBlock) : Option Bool :=
  bindO (r43_has a0 77 30000) fun (y101 : Bool) =>
  some y101
theorem r43_End_spec {a0 : ApiBlock} {y : Bool} (h : r43_End a0 = some y) : Spec gP 150 [.agg [.d (.bool a0.Skip), .d (.list (List.map encApiWord a0.Words)), .d (.str a0.Comment)]] (.d (.bool y)) := by
  refine spec_mir Tryz.func150 rfl (by kernel_rfl) (by kernel_rfl) (fun y : Bool => .d (.bool y)) ?_ h
  unfold r43_End
  simp only [List.replicate, List.length, nS, nA, Tryz.ntmps150, SV]
  refine .seqK (.region fun e h => ?_)
  simp only [seval, SE, ENMB]
  refine mU e ?_ h
  refine .seqK (.bind fun y101 hy1 => .region fun e h => ?_)
  simp only [seval, SE, ag_31, sz_31, ENMB]
  refine SpecS.by (r43_has_spec hy1) (by simp only [seval, SF, ENMB]) ?_
  simp only [seval, SE, ENMB]
  refine mU e ?_ h
  refine .ret fun e h => ?_
  cases h
  simp only [seval, SF, ENMB, Tryz.results150]

def r43_Return (a0 : ApiBlock) : Option Bool :=
  bindO (r43_has a0 77 99000) fun (y101 : Bool) =>
  some y101
theorem r43_Return_spec {a0 : ApiBlock} {y : Bool} (h : r43_Return a0 = some y) : Spec gP 94 [.agg [.d (.bool a0.Skip), .d (.list (List.map encApiWord a0.Words)), .d (.str a0.Comment)]] (.d (.bool y)) := by
  refine spec_mir Tryz.func94 rfl (by kernel_rfl) (by kernel_rfl) (fun y : Bool => .d (.bool y)) ?_ h
  unfold r43_Return
  simp only [List.replicate, List.length, nS, nA, Tryz.ntmps94, SV]
  refine .seqK (.region fun e h => ?_)
  simp only [seval, SE, ENMB]
  refine mU e ?_ h
  refine .seqK (.bind fun y101 hy1 => .region fun e h => ?_)
  simp only [seval, SE, ag_31, sz_31, ENMB]
  refine SpecS.by (r43_has_spec hy1) (by simp only [seval, SF, ENMB]) ?_
  simp only [seval, SE, ENMB]
  refine mU e ?_ h
  refine .ret fun e h => ?_
  cases h
  simp only [seval, SF, ENMB, Tryz.results94]

def r43_folds (a0 : ApiBlock) : Option Bool :=
  bindO (bindO (r43_letter a0 78) fun (y101 : Bool) =>
      if y101 = true then
        some false
      else
        bindO (r43_letter a0 79) fun (y102 : Bool) =>
        if y102 = true then
          some false
        else
          bindO (r43_End a0) fun (y103 : Bool) =>
          if y103 = true then
            some false
          else
            bindO (r43_Return a0) fun (y104 : Bool) =>
            if y104 = true then
              some false
            else
              bindO (r43_has a0 77 98000) fun (y105 : Bool) =>
              some (!y105)) fun (v106 : Bool) =>
  some v106
theorem r43_folds_spec {a0 : ApiBlock} {y : Bool} (h : r43_folds a0 = some y) : Spec gP 127 [.agg [.d (.bool a0.Skip), .d (.list (List.map encApiWord a0.Words)), .d (.str a0.Comment)]] (.d (.bool y)) := by
  refine spec_mir Tryz.func127 rfl (by kernel_rfl) (by kernel_rfl) (fun y : Bool => .d (.bool y)) ?_ h
  unfold r43_folds
  simp only [List.replicate, List.length, nS, nA, Tryz.ntmps127, SV]
  refine .seqK (.region fun e h => ?_)
  simp only [seval, SE, ENMB]
  refine mU e ?_ h
  refine .seqK (Mir.joinO (fun v106 : Bool => (U :: U :: .d (.bool v106) :: us 23)) (fun v106 => ⟨[[.d (.bool a0.Skip), .d (.list (List.map encApiWord a0.Words)), .d (.str a0.Comment)]], []⟩) (fun _ => rfl) ?_ ?_)
  refine .bind fun y101 hy1 => .ite (fun hb2 => ?_) (fun hb2 => ?_)
  refine .region fun e h => ?_
  simp only [seval, SE, ag_31, sz_31, ENMB, hb2]
  refine SpecS.by (r43_letter_spec hy1) (by simp only [seval, SF, ENMB, hb2]) ?_
  simp only [seval, SE, ENMB, hb2]
  cases h
  simp only [seval, SF, ENMB, hb2]
  refine .bind fun y102 hy3 => .ite (fun hb4 => ?_) (fun hb4 => ?_)
  refine .region fun e h => ?_
  simp only [seval, SE, ag_31, sz_31, ENMB, hb2, hb4]
  refine SpecS.by (r43_letter_spec hy1) (by simp only [seval, SF, ENMB, hb2, hb4]) ?_
  simp only [seval, SE, ag_31, sz_31, ENMB, hb2, hb4]
  refine SpecS.by (r43_letter_spec hy3) (by simp only [seval, SF, ENMB, hb2, hb4]) ?_
  simp only [seval, SE, ENMB, hb2, hb4]
  cases h
  simp only [seval, SF, ENMB, hb2, hb4]
  refine .bind fun y103 hy5 => .ite (fun hb6 => ?_) (fun hb6 => ?_)
  refine .region fun e h => ?_
  simp only [seval, SE, ag_31, sz_31, ENMB, hb2, hb4, hb6]
  refine SpecS.by (r43_letter_spec hy1) (by simp only [seval, SF, ENMB, hb2, hb4, hb6]) ?_
  simp only [seval, SE, ag_31, sz_31, ENMB, hb2, hb4, hb6]
  refine SpecS.by (r43_letter_spec hy3) (by simp only [seval, SF, ENMB, hb2, hb4, hb6]) ?_
  simp only [seval, SE, ag_31, sz_31, ENMB, hb2, hb4, hb6]
  refine SpecS.by (r43_End_spec hy5) (by simp only [seval, SF, ENMB, hb2, hb4, hb6]) ?_
  simp only [seval, SE, ENMB, hb2, hb4, hb6]
  cases h
  simp only [seval, SF, ENMB, hb2, hb4, hb6]
  refine .bind fun y104 hy7 => .ite (fun hb8 => ?_) (fun hb8 => ?_)
  refine .region fun e h => ?_
  simp only [seval, SE, ag_31, sz_31, ENMB, hb2, hb4, hb6, hb8]
  refine SpecS.by (r43_letter_spec hy1) (by simp only [seval, SF, ENMB, hb2, hb4, hb6, hb8]) ?_
  simp only [seval, SE, ag_31, sz_31, ENMB, hb2, hb4, hb6, hb8]
  refine SpecS.by (r43_letter_spec hy3) (by simp only [seval, SF, ENMB, hb2, hb4, hb6, hb8]) ?_
  simp only [seval, SE, ag_31, sz_31, ENMB, hb2, hb4, hb6, hb8]
  refine SpecS.by (r43_End_spec hy5) (by simp only [seval, SF, ENMB, hb2, hb4, hb6, hb8]) ?_
  simp only [seval, SE, ag_31, sz_31, ENMB, hb2, hb4, hb6, hb8]
  refine SpecS.by (r43_Return_spec hy7) (by simp only [seval, SF, ENMB, hb2, hb4, hb6, hb8]) ?_
  simp only [seval, SE, ENMB, hb2, hb4, hb6, hb8]
  cases h
  simp only [seval, SF, ENMB, hb2, hb4, hb6, hb8]
  refine .bind fun y105 hy9 => .region fun e h => ?_
  simp only [seval, SE, ag_31, sz_31, ENMB, hb2, hb4, hb6, hb8]
  refine SpecS.by (r43_letter_spec hy1) (by simp only [seval, SF, ENMB, hb2, hb4, hb6, hb8]) ?_
  simp only [seval, SE, ag_31, sz_31, ENMB, hb2, hb4, hb6, hb8]
  refine SpecS.by (r43_letter_spec hy3) (by simp only [seval, SF, ENMB, hb2, hb4, hb6, hb8]) ?_
  simp only [seval, SE, ag_31, sz_31, ENMB, hb2, hb4, hb6, hb8]
  refine SpecS.by (r43_End_spec hy5) (by simp only [seval, SF, ENMB, hb2, hb4, hb6, hb8]) ?_
  simp only [seval, SE, ag_31, sz_31, ENMB, hb2, hb4, hb6, hb8]
  refine SpecS.by (r43_Return_spec hy7) (by simp only [seval, SF, ENMB, hb2, hb4, hb6, hb8]) ?_
  simp only [seval, SE, ag_31, sz_31, ENMB, hb2, hb4, hb6, hb8]
  refine SpecS.by (r43_has_spec hy9) (by simp only [seval, SF, ENMB, hb2, hb4, hb6, hb8]) ?_
  simp only [seval, SE, ENMB, hb2, hb4, hb6, hb8]
  cases h
  simp only [seval, SF, ENMB, hb2, hb4, hb6, hb8]
  intro v106
  refine Mir.toK (.ret fun e h => ?_)
  cases h
  simp only [seval, SF, ENMB, Tryz.results127]

def r43_run (a0 : (List ApiBlock)) (a1 : Int) (a2 : Int) (a3 : Int) : Option Bool :=
  if (decide ((IntKind.i64.wrap (a2 + a3)) > (a0.length : Int))) = true then
    some false
  else
    bindX (loopX (fun (v163 : Int) =>
          if (decide (v163 < a3)) = true then
            bindO (bindO (gt a0 (IntKind.i64.wrap (a1 + v163))) fun (e169 : ApiBlock) =>
                bindO (r43_folds e169) fun (y170 : Bool) =>
                if y170 = true then
                  bindO (gt a0 (IntKind.i64.wrap (a2 + v163))) fun (e171 : ApiBlock) =>
                  bindO (r41_Equal e169 e171) fun (y172 : Bool) =>
                  some (!y172)
                else
                  some true) fun (v173 : Bool) =>
            if v173 = true then
              some (.ret (.ret false))
            else
              some (.go (IntKind.i64.wrap (v163 + 1)))
          else
            some (.ret (.go ()))) fuel 0) fun (v137 : Unit) =>
    some true
theorem r43_run_spec {a0 : (List ApiBlock)} {a1 : Int} {a2 : Int} {a3 : Int} {y : Bool} (h : r43_run a0 a1 a2 a3 = some y) : Spec gP 92 [.d (.list (List.map encApiBlock a0)), .d (.int .i64 a1), .d (.int .i64 a2), .d (.int .i64 a3)] (.d (.bool y)) := by
  refine spec_mir Tryz.func92 rfl (by kernel_rfl) (by kernel_rfl) (fun y : Bool => .d (.bool y)) ?_ h
  unfold r43_run
  simp only [List.replicate, List.length, nS, nA, Tryz.ntmps92, SV]
  refine .seqK (.region fun e h => ?_)
  simp only [seval, SE, ENMB]
  refine mU e ?_ h
  refine .seqK (.seqK (.region fun e h => ?_))
  simp only [seval, SE, und_39, ENMB]
  refine mU e ?_ h
  refine .cond rfl (fun hb2 => ?_) (fun hb2 => ?_)
  refine .seqK (.region fun e h => ?_)
  simp only [seval, SE, ENMB]
  refine mU e ?_ h
  refine .ret fun e h => ?_
  cases h
  simp only [seval, SF, ENMB, Tryz.results92]
  refine .skip (Mir.toK (.seqK (.seqK (.region fun e h => ?_))))
  simp only [seval, SE, ENMB]
  refine mU e ?_ h
  refine Mir.join (fun v137 : Unit => (us 45)) (fun v137 => ⟨[], []⟩) (fun _ => rfl) ?_ ?_
  refine .block (Mir.loop (fun v163 : Int => (.d (.list (List.map encApiBlock a0)) :: .d (.int .i64 a1) :: .d (.int .i64 a2) :: .d (.int .i64 a3) :: U :: U :: U :: U :: U :: .d (.int .i64 v163) :: us 35)) (fun v163 => ⟨[], []⟩) (fun _ => rfl) (by simp only [seval, SF, ENMB]) (by simp only [seval, SF, ENMB]) fun v163 => .seqK (.seqK (.region fun e h => ?_)))
  simp only [seval, SE, ENMB]
  refine mU e ?_ h
  refine .cond rfl (fun hb79 => ?_) (fun hb79 => ?_)
  refine .skip (Mir.toK (.seqK (.block (.seqK (Mir.joinO (fun v173 : Bool => [.d (.list (List.map encApiBlock a0)), .d (.int .i64 a1), .d (.int .i64 a2), .d (.int .i64 a3), U, U, U, U, U, .d (.int .i64 v163), U, U, U, U, U, U, U, U, U, U, U, U, U, U, U, U, U, U, U, U, U, U, U, U, U, U, U, U, U, U, U, U, U, U, .d (.bool v173)]) (fun v173 => ⟨[], []⟩) (fun _ => rfl) ?_ ?_)))))
  refine .bind fun e169 q86 => ?_
  replace q86 := gt_ok q86
  refine .bind fun y170 hy87 => .ite (fun hb88 => ?_) (fun hb88 => ?_)
  refine .bind fun e171 q89 => ?_
  replace q89 := gt_ok q89
  refine .bind fun y172 hy90 => .regionD [] (by kernel_rfl) fun e h => ?_
  simp only [seval, SE, SB, und_39, sz_31, q86, ag_31, ENMB, hb88]
  refine Spec.by (r43_folds_spec hy87) (by simp only [seval, SF, ENMB, hb88]) ?_
  simp only [seval, SE, SB, und_39, sz_31, q86, ag_31, q89, ENMB, hb88]
  refine Spec.by (r41_Equal_spec hy90) (by simp only [seval, SF, ENMB, hb88]) ?_
  simp only [seval, SE, SB, ENMB, hb88]
  cases h
  simp only [seval, SF, ENMB, hb88]
  refine .regionD [] (by kernel_rfl) fun e h => ?_
  simp only [seval, SE, SB, und_39, sz_31, q86, ag_31, ENMB, hb88]
  refine Spec.by (r43_folds_spec hy87) (by simp only [seval, SF, ENMB, hb88]) ?_
  simp only [seval, SE, SB, ENMB, hb88]
  cases h
  simp only [seval, SF, ENMB, hb88]
  intro v173
  refine Mir.toK (.cond rfl (fun hb92 => ?_) (fun hb92 => ?_))
  refine .seqK (.region fun e h => ?_)
  simp only [seval, SE, ENMB]
  refine mU e ?_ h
  refine .ret fun e h => ?_
  cases h
  simp only [seval, SF, ENMB, Tryz.results92]
  refine .skip (Mir.toB (Mir.toK (.region fun e h => ?_)))
  simp only [seval, SE, ENMB]
  cases h
  simp only [seval, SF, ENMB, Tryz.results92]
  refine .exit fun e h => ?_
  cases h
  simp only [seval, SF, ENMB, Tryz.results92]
  intro v137
  refine Mir.toK (.seqK (.region fun e h => ?_))
  simp only [seval, SE, ENMB]
  refine mU e ?_ h
  refine .ret fun e h => ?_
  cases h
  simp only [seval, SF, ENMB, Tryz.results92]

def r43_Fold (a0 : (List ApiBlock)) (a1 : Int) (a2 : Int) : Option (R43Program × Int) :=
  if ((decide (a1 < 1)) || ((decide (a1 > 9999)) || (decide (a2 < 1)))) = true then
    some (R43Program.mk [] [], 1)
  else
    bindX (loopX (fun (v968 : Int) =>
          if (decide ((IntKind.i64.wrap (v968 + a2)) ≤ (a0.length : Int))) = true then
            bindX (bindO (loopX (fun (v1077 : Bool × Int) =>
                      if ((decide ((IntKind.i64.wrap (v1077.2 + a2)) ≤ (a0.length : Int))) && (!v1077.1)) = true then
                        bindO (r43_run a0 v968 v1077.2 a2) fun (y1079 : Bool) =>
                        some (.go (y1079, IntKind.i64.wrap (v1077.2 + 1)))
                      else
                        some (.ret v1077.1)) fuel (false, IntKind.i64.wrap (v968 + a2))) fun (v1067 : Bool) =>
                if (!v1067) = true then
                  some (.go ())
                else
                  bindO (loopX (fun (v1135 : Int × (List ApiBlock)) =>
                        if (decide (v1135.1 < (a0.length : Int))) = true then
                          bindO (r43_run a0 v968 v1135.1 a2) fun (y1136 : Bool) =>
                          if (!y1136) = true then
                            bindO (gt a0 v1135.1) fun (e1138 : ApiBlock) =>
                            guardO (okLen (v1135.2.length + 1)) (
                            some (.go (IntKind.i64.wrap (v1135.1 + 1), v1135.2 ++ [e1138])))
                          else
                            guardO (okLen (v1135.2.length + 1)) (
                            some (.go (IntKind.i64.wrap (v1135.1 + a2), v1135.2 ++ [ApiBlock.mk false [ApiWord.mk 77 98000, ApiWord.mk 80 (IntKind.i64.wrap (1000 * a1))] []])))
                        else
                          some (.ret v1135.2)) fuel (0, [])) fun (v1120 : (List ApiBlock)) =>
                  bindO (cutL a0 v968 (IntKind.i64.wrap (v968 + a2))) fun (s1139 : (List ApiBlock)) =>
                  guardO (okLen (s1139.length)) (
                  some (.ret (.ret (.ret (R43Program.mk v1120 [R43Sub.mk a1 s1139], 0)))))) fun (v1054 : Unit) =>
            some (.go (IntKind.i64.wrap (v968 + 1)))
          else
            some (.ret (.go ()))) fuel 0) fun (v620 : Unit) =>
    guardO (okLen (a0.length)) (
    some (R43Program.mk a0 [], 0))
set_option maxHeartbeats 8000000 in
theorem r43_Fold_spec {a0 : (List ApiBlock)} {a1 : Int} {a2 : Int} {y : R43Program × Int} (h : r43_Fold a0 a1 a2 = some y) : Spec gP 48 [.d (.list (List.map encApiBlock a0)), .d (.int .i64 a1), .d (.int .i64 a2)] (.tuple [.agg [.d (.list (List.map encApiBlock y.1.Main)), .d (.list (List.map encR43Sub y.1.Subs))], .d (.int .i64 y.2)]) := by
  refine spec_mir Tryz.func48 rfl (by kernel_rfl) (by kernel_rfl) (fun y : R43Program × Int => .tuple [.agg [.d (.list (List.map encApiBlock y.1.Main)), .d (.list (List.map encR43Sub y.1.Subs))], .d (.int .i64 y.2)]) ?_ h
  unfold r43_Fold
  simp only [List.replicate, List.length, nS, nA, Tryz.ntmps48, SV]
  refine .seqK (.region fun e h => ?_)
  simp only [seval, SE, zero_93, ENMB, ENMW]
  refine mU e ?_ h
  refine .seqK (.seqK (.joinV (.d (.list (List.map encApiBlock a0)) :: .d (.int .i64 a1) :: .d (.int .i64 a2) :: U :: U :: U :: .ptr 0 0 :: U :: U :: U :: U :: U :: U :: U :: U :: U :: U :: U :: U :: U :: U :: U :: .d (.bool ((decide (a1 < 1)) || ((decide (a1 > 9999)) || (decide (a2 < 1))))) :: us 83) ⟨[[.nil, .nil]], []⟩ rfl ?_ ?_))
  refine SWs.region ?_
  rcases Bool.eq_false_or_eq_true (decide (a1 < 1)) with hb1 | hb1
  simp only [seval, SE, SL, PB, hb1, ENMB, ENMW]
  rcases Bool.eq_false_or_eq_true (decide (a1 > 9999)) with hb2 | hb2
  simp only [seval, SE, SL, PB, hb1, hb2, ENMB, ENMW]
  simp only [seval, SE, SL, PB, hb1, hb2, ENMB, ENMW]
  refine Mir.toK (.cond rfl (fun hb4 => ?_) (fun hb4 => ?_))
  refine .seqK (.region fun e h => ?_)
  simp only [seval, SE, zero_93, pl_93, sz_93, ENMB]
  refine mU e ?_ h
  refine .ret fun e h => ?_
  cases h
  simp only [seval, SF, ENMB, Tryz.results48, ag_93, sz_93]
  refine .skip (Mir.toK (.seqK (.seqK (.region fun e h => ?_))))
  simp only [seval, SE, ENMB, ENMW]
  refine mU e ?_ h
  refine Mir.join (fun v620 : Unit => (.d (.list (List.map encApiBlock a0)) :: U :: U :: U :: U :: U :: .ptr 0 0 :: us 99)) (fun v620 => ⟨[[.nil, .nil]], []⟩) (fun _ => rfl) ?_ ?_
  refine .block (Mir.loop (fun v968 : Int => (.d (.list (List.map encApiBlock a0)) :: .d (.int .i64 a1) :: .d (.int .i64 a2) :: U :: U :: U :: .ptr 0 0 :: U :: .d (.int .i64 v968) :: us 97)) (fun v968 => ⟨[[.nil, .nil]], []⟩) (fun _ => rfl) (by simp only [seval, SF, ENMB, ENMW]) (by simp only [seval, SF, ENMB, ENMW]) fun v968 => .seqK (.seqK (.region fun e h => ?_)))
  simp only [seval, SE, und_39, ENMB, ENMW]
  refine mU e ?_ h
  refine .cond rfl (fun hb1576 => ?_) (fun hb1576 => ?_)
  refine .skip (Mir.toK (.seqK (Mir.join (fun v1054 : Unit => (.d (.list (List.map encApiBlock a0)) :: .d (.int .i64 a1) :: .d (.int .i64 a2) :: U :: U :: U :: .ptr 0 0 :: U :: .d (.int .i64 v968) :: us 97)) (fun v1054 => ⟨[[.nil, .nil]], []⟩) (fun _ => rfl) ?_ ?_)))
  refine .block (.seqK (.region fun e h => ?_))
  simp only [seval, SE, ENMB, ENMW]
  refine mU e ?_ h
  refine .seqK (.seqK (.region fun e h => ?_))
  simp only [seval, SE, ENMB, ENMW]
  refine mU e ?_ h
  refine Mir.joinO (fun v1067 : Bool => (.d (.list (List.map encApiBlock a0)) :: .d (.int .i64 a1) :: .d (.int .i64 a2) :: U :: U :: U :: .ptr 0 0 :: U :: .d (.int .i64 v968) :: .d (.bool v1067) :: us 96)) (fun v1067 => ⟨[[.nil, .nil]], []⟩) (fun _ => rfl) ?_ ?_
  refine .block (Mir.loop (fun v1077 : Bool × Int => (.d (.list (List.map encApiBlock a0)) :: .d (.int .i64 a1) :: .d (.int .i64 a2) :: U :: U :: U :: .ptr 0 0 :: U :: .d (.int .i64 v968) :: .d (.bool v1077.1) :: .d (.int .i64 v1077.2) :: us 95)) (fun v1077 => ⟨[[.nil, .nil]], []⟩) (fun _ => rfl) (by simp only [seval, SF, ENMB, ENMW]) (by simp only [seval, SF, ENMB, ENMW]) fun v1077 => .seqK (.seqK (.joinV (.d (.list (List.map encApiBlock a0)) :: .d (.int .i64 a1) :: .d (.int .i64 a2) :: U :: U :: U :: .ptr 0 0 :: U :: .d (.int .i64 v968) :: .d (.bool v1077.1) :: .d (.int .i64 v1077.2) :: U :: U :: U :: U :: U :: U :: U :: U :: U :: U :: U :: U :: U :: U :: U :: U :: U :: U :: U :: U :: U :: U :: U :: U :: U :: U :: U :: U :: U :: U :: U :: U :: U :: .d (.bool ((decide ((IntKind.i64.wrap (v1077.2 + a2)) ≤ (a0.length : Int))) && (!v1077.1))) :: us 61) ⟨[[.nil, .nil]], []⟩ rfl ?_ ?_)))
  refine SWs.region ?_
  rcases Bool.eq_false_or_eq_true (decide ((IntKind.i64.wrap (v1077.2 + a2)) ≤ (a0.length : Int))) with hb1762 | hb1762
  simp only [seval, SE, SL, PB, und_39, hb1762, ENMB, ENMW]
  simp only [seval, SE, SL, PB, und_39, hb1762, ENMB, ENMW]
  refine Mir.toK (.cond rfl (fun hb1764 => ?_) (fun hb1764 => ?_))
  refine .skip (Mir.toK (.seqK (.block (.bind fun y1079 hy1766 => .region fun e h => ?_))))
  simp only [seval, SE, ENMB, ENMW]
  refine SpecS.by (r43_run_spec hy1766) (by simp only [seval, SF, ENMB, ENMW]) ?_
  simp only [seval, SE, ENMB, ENMW]
  refine mU e ?_ h
  refine .region fun e h => ?_
  simp only [seval, SE, ENMB, ENMW]
  cases h
  simp only [seval, SF, ENMB, ENMW, Tryz.results48, ag_93, sz_93]
  refine .exit fun e h => ?_
  cases h
  simp only [seval, SF, ENMB, ENMW, Tryz.results48, ag_93, sz_93]
  intro v1067
  refine Mir.toK (.seqK (.seqK (.region fun e h => ?_)))
  simp only [seval, SE, ENMB, ENMW]
  refine mU e ?_ h
  refine .cond rfl (fun hb1768 => ?_) (fun hb1768 => ?_)
  refine .exit fun e h => ?_
  cases h
  simp only [seval, SF, ENMB, ENMW, Tryz.results48, ag_93, sz_93]
  refine .skip (Mir.toK (.seqK (.region fun e h => ?_)))
  simp only [seval, SE, zero_93, ENMB, ENMW]
  refine mU e ?_ h
  refine .seqK (.seqK (.region fun e h => ?_))
  simp only [seval, SE, ENMB, ENMW]
  refine mU e ?_ h
  refine .gh [.cell 1 0 31] rfl (Mir.joinO (fun v1120 : (List ApiBlock) => (.d (.list (List.map encApiBlock a0)) :: .d (.int .i64 a1) :: .d (.int .i64 a2) :: U :: U :: U :: .ptr 0 0 :: U :: .d (.int .i64 v968) :: U :: U :: .ptr 1 0 :: us 94)) (fun v1120 => ⟨[[.nil, .nil], [.own 0 (List.map encApiBlock v1120), .nil]], [(31, v1120.length)]⟩) (fun _ => rfl) ?_ ?_)
  refine .block (Mir.loop (fun v1135 : Int × (List ApiBlock) => (.d (.list (List.map encApiBlock a0)) :: .d (.int .i64 a1) :: .d (.int .i64 a2) :: U :: U :: U :: .ptr 0 0 :: U :: .d (.int .i64 v968) :: U :: U :: .ptr 1 0 :: .d (.int .i64 v1135.1) :: us 93)) (fun v1135 => ⟨[[.nil, .nil], [.own 0 (List.map encApiBlock v1135.2), .nil]], [(31, v1135.2.length)]⟩) (fun _ => rfl) (by simp only [seval, SF, ENMB, ENMW]) (by simp only [seval, SF, ENMB, ENMW]) fun v1135 => .seqK (.seqK (.region fun e h => ?_)))
  simp only [seval, SE, und_39, ENMB, ENMW]
  refine mU e ?_ h
  refine .cond rfl (fun hb1878 => ?_) (fun hb1878 => ?_)
  refine .skip (Mir.toK (.block (.seqK (.seqK (.bind fun y1136 hy1879 => .region fun e h => ?_)))))
  simp only [seval, SE, ENMB, ENMW]
  refine SpecS.by (r43_run_spec hy1879) (by simp only [seval, SF, ENMB, ENMW]) ?_
  simp only [seval, SE, ENMB, ENMW]
  refine mU e ?_ h
  refine .cond rfl (fun hb1883 => ?_) (fun hb1883 => ?_)
  refine .seqK (.bind fun e1138 q1884 => ?_)
  replace q1884 := gt_ok q1884
  refine .guard fun q1885 => .regionD [] (by kernel_rfl) fun e h => ?_
  simp only [seval, SE, SB, fld_93_0, sz_39, ag_39, und_39, sz_31, q1884, ag_31, zero_31, (nr rfl : okLen 3 = true), app_39, al_ApiBlock, q1885, ENMB, ENMW]
  refine mU e ?_ h
  refine .seqK (.region fun e h => ?_)
  simp only [seval, SE, ENMB, ENMW]
  refine mU e ?_ h
  refine .exit fun e h => ?_
  cases h
  simp only [seval, SF, ENMB, ENMW, Tryz.results48, ag_93, sz_93]
  refine .skip (Mir.toK (.seqK (.guard fun q1886 => .region fun e h => ?_)))
  simp only [seval, SE, fld_93_0, sz_39, ag_39, zero_77, pl_77, und_29, sz_77, (nr rfl : okLen 4 = true), zero_31, pl_31, und_39, sz_31, (nr rfl : okLen 3 = true), app_39, al_ApiBlock, q1886, ENMB, ENMW]
  refine mU e ?_ h
  refine .region fun e h => ?_
  simp only [seval, SE, ENMB, ENMW]
  cases h
  simp only [seval, SF, ENMB, ENMW, Tryz.results48, ag_93, sz_93]
  refine .exit fun e h => ?_
  cases h
  simp only [seval, SF, ENMB, ENMW, Tryz.results48, ag_93, sz_93]
  intro v1120
  refine Mir.toK (.seqK (.bind fun s1139 q1887 => ?_))
  replace q1887 := cutL_ok q1887
  refine .guard fun q1888 => .region fun e h => ?_
  simp only [seval, SE, und_39, sz_31, zero_31, (nr rfl : okLen 0 = true), q1887, Nat.le_refl, and_true, true_and, dm, tm, al_ApiBlock, app_39, q1888, zero_142, pl_142, und_91, sz_142, (nr rfl : okLen 2 = true), fld_93_1, sz_91, ENMB, ENMW]
  refine mU e ?_ h
  refine .seqK (.region fun e h => ?_)
  simp only [seval, SE, ag_93, sz_93, ENMB, ENMW]
  refine mU e ?_ h
  refine .ret fun e h => ?_
  cases h
  simp only [seval, SF, ENMB, ENMW, Tryz.results48, ag_93, sz_93]
  intro v1054
  refine Mir.toK (.region fun e h => ?_)
  simp only [seval, SE, ENMB, ENMW]
  cases h
  simp only [seval, SF, ENMB, ENMW, Tryz.results48, ag_93, sz_93]
  refine .exit fun e h => ?_
  cases h
  simp only [seval, SF, ENMB, ENMW, Tryz.results48, ag_93, sz_93]
  intro v620
  refine Mir.toK (.seqK (.guard fun q1889 => .region fun e h => ?_))
  simp only [seval, SE, und_39, sz_31, zero_31, (nr rfl : okLen 0 = true), app_39, al_ApiBlock, q1889, zero_93, pl_93, sz_93, ENMB, ENMW]
  refine mU e ?_ h
  refine .ret fun e h => ?_
  cases h
  simp only [seval, SF, ENMB, ENMW, Tryz.results48, ag_93, sz_93]

def r43_Join (a0 : R43Program) : Option (List ApiBlock) :=
  guardO (okLen (0 + a0.Main.length)) (
  bindO (guardO (okIdx a0.Subs) (
      rangeX (fun (i127 : Nat) (e129 : R43Sub) (v128 : (List ApiBlock)) =>
        guardO (okLen (v128.length + 1)) (
        guardO (okLen (v128.length + 1 + e129.Blocks.length)) (
        guardO (okLen (v128.length + 1 + e129.Blocks.length + 1)) (
        some (.go (v128 ++ [ApiBlock.mk false [ApiWord.mk 79 (IntKind.i64.wrap (1000 * e129.Number))] []] ++ e129.Blocks ++ [ApiBlock.mk false [ApiWord.mk 77 99000] []])))))) (fun (v128 : (List ApiBlock)) => some v128) a0.Subs 0 ([] ++ a0.Main))) fun (v115 : (List ApiBlock)) =>
  some v115)
theorem r43_Join_spec {a0 : R43Program} {y : (List ApiBlock)} (h : r43_Join a0 = some y) : Spec gP 49 [.agg [.d (.list (List.map encApiBlock a0.Main)), .d (.list (List.map encR43Sub a0.Subs))]] (.d (.list (List.map encApiBlock y))) := by
  refine spec_mir Tryz.func49 rfl (by kernel_rfl) (by kernel_rfl) (fun y : (List ApiBlock) => .d (.list (List.map encApiBlock y))) ?_ h
  unfold r43_Join
  simp only [List.replicate, List.length, nS, nA, Tryz.ntmps49, SV]
  refine .seqK (.region fun e h => ?_)
  simp only [seval, SE, ENMB, ENMW]
  refine mU e ?_ h
  refine .seqK (.guard fun q1 => .regionW fun e h => regW.alt 0 rfl ?_)
  simp only [seval, SE, w_none, w_eq, ENMB, ENMW]
  refine alt_emptyOwn app_39 (regW.of ?_)
  simp only [seval, SE, w_none, w_eq, und_39, sz_31, zero_31, (nr rfl : okLen 0 = true), fld_93_0, sz_39, ag_39, app_39, al_ApiBlock, q1, ENMB, ENMW]
  refine mU e ?_ h
  refine .seqK (.seqK (.region fun e h => ?_))
  simp only [seval, SE, ENMB, ENMW]
  refine mU e ?_ h
  refine Mir.joinO (fun v115 : (List ApiBlock) => (U :: U :: U :: .own 0 (List.map encApiBlock v115) :: us 40)) (fun v115 => ⟨[[.d (.list (List.map encApiBlock a0.Main)), .d (.list (List.map encR43Sub a0.Subs))]], [(31, v115.length)]⟩) (fun _ => rfl) ?_ ?_
  refine .block (.guard fun qg73 => Mir.range (fun (i127 : Nat) (v128 : (List ApiBlock)) => (U :: .ptr 0 0 :: U :: .own 0 (List.map encApiBlock v128) :: .d (.int .i64 (i127 : Int)) :: us 39)) (fun i127 v128 => ⟨[[.d (.list (List.map encApiBlock a0.Main)), .d (.list (List.map encR43Sub a0.Subs))]], [(31, v128.length)]⟩) qg73 (fun _ _ => rfl) (by simp only [seval, SF, ENMB, ENMW, (nr rfl : ((0 : Nat) : Int) = 0)]) (by simp only [seval, SF, ENMB, ENMW, (nr rfl : ((0 : Nat) : Int) = 0)]) ?_ ?_)
  intro i127 e129 v128 qr71
  refine .seqK (.seqK (.region fun e h => ?_))
  simp only [seval, SE, fld_93_1, sz_91, ag_91, und_91, qr71, ENMB, ENMW]
  refine mU e ?_ h
  refine .condT rfl (.skip (Mir.toK (.seqK (.block (.seqK (.guard fun q77 => .region fun e h => ?_))))))
  simp only [seval, SE, fld_93_1, sz_91, ag_91, und_91, sz_142, qr71, Int.toNat_natCast, fld_142_0, sz_2, ag_2, zero_77, pl_77, und_29, sz_77, (nr rfl : okLen 2 = true), zero_31, pl_31, und_39, sz_31, (nr rfl : okLen 3 = true), app_39, al_ApiBlock, q77, ENMB, ENMW]
  refine mU e ?_ h
  refine .seqK (.guard fun q78 => .region fun e h => ?_)
  simp only [seval, SE, fld_93_1, sz_91, ag_91, und_91, sz_142, qr71, Int.toNat_natCast, fld_142_1, sz_39, ag_39, app_39, al_ApiBlock, xLA, q78, ENMB, ENMW]
  refine mU e ?_ h
  refine .guard fun q79 => .region fun e h => ?_
  simp only [seval, SE, zero_77, pl_77, und_29, sz_77, (nr rfl : okLen 2 = true), zero_31, pl_31, und_39, sz_31, (nr rfl : okLen 3 = true), app_39, al_ApiBlock, xLA, q79, ENMB, ENMW]
  refine mU e ?_ h
  refine .region fun e h => ?_
  simp only [seval, SE, ENMB, ENMW]
  cases h
  simp only [seval, SF, ENMB, ENMW, Tryz.results49, qr71]
  intro v128 qd72
  refine .seqK (.seqK (.region fun e h => ?_))
  simp only [seval, SE, fld_93_1, sz_91, ag_91, und_91, qd72, ENMB, ENMW]
  refine mU e ?_ h
  refine .condF rfl (.exit fun e h => ?_)
  cases h
  simp only [seval, SF, ENMB, ENMW, Tryz.results49]
  intro v115
  refine Mir.toK (.seqK (.region fun e h => ?_))
  simp only [seval, SE, ENMB, ENMW]
  refine mU e ?_ h
  refine .ret fun e h => ?_
  cases h
  simp only [seval, SF, ENMB, ENMW, Tryz.results49]

def r46_numbered (a0 : (List ApiBlock)) (a1 : Int) : Option (List ApiBlock) :=
  bindO (guardO (okIdx a0) (
      rangeX (fun (i288 : Nat) (e290 : ApiBlock) (v289 : (List ApiBlock) × Int) =>
        bindO (bindO (r41_Codes e290 79) fun (y297 : (List Int)) =>
            if ((y297.length : Int) == 0) = true then
              bindO (r43_Return e290) fun (y298 : Bool) =>
              some (!y298)
            else
              some false) fun (v299 : Bool) =>
        bindO (if v299 = true then
              bindO (r46_word 78 (IntKind.i64.wrap (1000 * (IntKind.i64.wrap (v289.2 + a1))))) fun (y302 : ApiWord) =>
              guardO (okLen (1 + e290.Words.length)) (
              some (IntKind.i64.wrap (v289.2 + a1), [y302] ++ e290.Words))
            else
              some (v289.2, e290.Words)) fun (v301 : Int × (List ApiWord)) =>
        guardO (okLen (v289.1.length + 1)) (
        some (.go (v289.1 ++ [ApiBlock.mk e290.Skip v301.2 e290.Comment], v301.1)))) (fun (v289 : (List ApiBlock) × Int) => some v289.1) a0 0 ([], 0))) fun (v240 : (List ApiBlock)) =>
  some v240
set_option maxHeartbeats 8000000 in
theorem r46_numbered_spec {a0 : (List ApiBlock)} {a1 : Int} {y : (List ApiBlock)} (h : r46_numbered a0 a1 = some y) : Spec gP 50 [.d (.list (List.map encApiBlock a0)), .d (.int .i64 a1)] (.d (.list (List.map encApiBlock y))) := by
  refine spec_mir Tryz.func50 rfl (by kernel_rfl) (by kernel_rfl) (fun y : (List ApiBlock) => .d (.list (List.map encApiBlock y))) ?_ h
  unfold r46_numbered
  simp only [List.replicate, List.length, nS, nA, Tryz.ntmps50, SV]
  refine .seqK (.region fun e h => ?_)
  simp only [seval, SE, ENMB]
  refine mU e ?_ h
  refine .seqK (.region fun e h => ?_)
  simp only [seval, SE, ENMB]
  refine mU e ?_ h
  refine .seqK (.region fun e h => ?_)
  simp only [seval, SE, ENMB]
  refine mU e ?_ h
  refine .seqK (.seqK (.region fun e h => ?_))
  simp only [seval, SE, ENMB]
  refine mU e ?_ h
  refine .gh [.slot 5 31] rfl (Mir.joinO (fun v240 : (List ApiBlock) => (U :: U :: U :: U :: U :: .own 0 (List.map encApiBlock v240) :: us 38)) (fun v240 => ⟨[], [(31, v240.length)]⟩) (fun _ => rfl) ?_ ?_)
  refine .block (.guard fun qg281 => Mir.range (fun (i288 : Nat) (v289 : (List ApiBlock) × Int) => (.d (.list (List.map encApiBlock a0)) :: .d (.int .i64 a1) :: U :: U :: U :: .own 0 (List.map encApiBlock v289.1) :: .d (.int .i64 v289.2) :: .d (.int .i64 (i288 : Int)) :: us 36)) (fun i288 v289 => ⟨[], [(31, v289.1.length)]⟩) qg281 (fun _ _ => rfl) (by simp only [seval, SF, ENMB, (nr rfl : ((0 : Nat) : Int) = 0)]) (by simp only [seval, SF, ENMB, (nr rfl : ((0 : Nat) : Int) = 0)]) ?_ ?_)
  intro i288 e290 v289 qr279
  refine .seqK (.seqK (.region fun e h => ?_))
  simp only [seval, SE, und_39, qr279, ENMB]
  refine mU e ?_ h
  refine .condT rfl (.skip (Mir.toK (.seqK (.block (.seqK (.region fun e h => ?_))))))
  simp only [seval, SE, und_39, sz_31, qr279, Int.toNat_natCast, ag_31, zero_31, ENMB]
  refine mU e ?_ h
  refine .seqK (.seqK (Mir.joinO (fun v299 : Bool => (.d (.list (List.map encApiBlock a0)) :: .d (.int .i64 a1) :: U :: U :: U :: .own 0 (List.map encApiBlock v289.1) :: .d (.int .i64 v289.2) :: .d (.int .i64 (i288 : Int)) :: .ptr 0 0 :: U :: U :: U :: U :: U :: U :: U :: U :: U :: U :: U :: U :: U :: U :: U :: U :: U :: U :: .d (.bool v299) :: us 16)) (fun v299 => ⟨[[.d (.bool e290.Skip), .d (.list (List.map encApiWord e290.Words)), .d (.str e290.Comment)]], [(31, v289.1.length)]⟩) (fun _ => rfl) ?_ ?_))
  refine .bind fun y297 hy292 => .ite (fun hb293 => ?_) (fun hb293 => ?_)
  refine .bind fun y298 hy294 => .region fun e h => ?_
  simp only [seval, SE, ag_31, sz_31, ENMB, hb293]
  refine SpecS.by (r41_Codes_spec hy292) (by simp only [seval, SF, ENMB, hb293]) ?_
  simp only [seval, SE, und_121, ag_31, sz_31, ENMB, hb293]
  refine SpecS.by (r43_Return_spec hy294) (by simp only [seval, SF, ENMB, hb293]) ?_
  simp only [seval, SE, ENMB, hb293]
  cases h
  simp only [seval, SF, ENMB, hb293]
  refine .region fun e h => ?_
  simp only [seval, SE, ag_31, sz_31, ENMB, hb293]
  refine SpecS.by (r41_Codes_spec hy292) (by simp only [seval, SF, ENMB, hb293]) ?_
  simp only [seval, SE, und_121, ENMB, hb293]
  cases h
  simp only [seval, SF, ENMB, hb293]
  intro v299
  refine Mir.toK (Mir.joinO (fun v301 : Int × (List ApiWord) => (.d (.list (List.map encApiBlock a0)) :: .d (.int .i64 a1) :: U :: U :: U :: .own 0 (List.map encApiBlock v289.1) :: .d (.int .i64 v301.1) :: .d (.int .i64 (i288 : Int)) :: .ptr 0 0 :: us 35)) (fun v301 => ⟨[[.d (.bool e290.Skip), .d (.list (List.map encApiWord v301.2)), .d (.str e290.Comment)]], [(31, v289.1.length)]⟩) (fun _ => rfl) ?_ ?_)
  refine .cond rfl (fun hb298 => ?_) (fun hb298 => ?_)
  refine .seqK (.region fun e h => ?_)
  simp only [seval, SE, ENMB]
  refine mU e ?_ h
  refine .bind fun y302 hy299 => .guard fun q300 => Mir.regionA 0 [] (.d (.list (List.map encApiBlock a0)) :: .d (.int .i64 a1) :: U :: U :: U :: .own 0 (List.map encApiBlock v289.1) :: .d (.int .i64 (IntKind.i64.wrap (v289.2 + a1))) :: .d (.int .i64 (i288 : Int)) :: .ptr 0 0 :: U :: U :: U :: U :: U :: U :: U :: U :: U :: U :: U :: U :: U :: U :: U :: U :: U :: U :: .d (.bool v299) :: .d (.int .i64 v289.2) :: .d (.int .i64 a1) :: .d (.int .i64 (IntKind.i64.wrap (v289.2 + a1))) :: .d (.int .i64 (IntKind.i64.wrap (v289.2 + a1))) :: .d (.int .i64 (IntKind.i64.wrap (1000 * (IntKind.i64.wrap (v289.2 + a1))))) :: .agg [.d (.int .u8 y302.Letter), .d (.int .i64 y302.Value)] :: .own 1 (List.map encApiWord [y302]) :: .ptr 0 1 :: .d (.list (List.map encApiWord e290.Words)) :: .own 1 (List.map encApiWord ([y302] ++ e290.Words)) :: .ptr 0 1 :: us 5) ⟨[[.d (.bool e290.Skip), .own 1 (List.map encApiWord ([y302] ++ e290.Words)), .d (.str e290.Comment)]], [(31, v289.1.length), (77, 1 + e290.Words.length)]⟩ (by kernel_rfl) (fun e h => ?_) (fun e h => ?_)
  simp only [seval, SE, w_none, w_eq, SB, ENMB]
  refine regA.two (j := 0) (k := 4) (by kernel_rfl) rfl rfl ?_ ?_
  refine regW.of ?_
  simp only [seval, SE, w_none, w_eq, ENMB]
  refine regA.two (j := 1) (k := 4) (by kernel_rfl) rfl rfl ?_ ?_
  refine regW.of ?_
  simp only [seval, SE, w_none, w_eq, ENMB]
  refine regA.two (j := 2) (k := 4) (by kernel_rfl) rfl rfl ?_ ?_
  refine regW.of ?_
  simp only [seval, SE, w_none, w_eq, ENMB]
  refine SpecS.by (r46_word_spec hy299) (by simp only [seval, SF, ENMB]) ?_
  simp only [seval, SE, w_none, w_eq, ENMB]
  refine regA.two (j := 3) (k := 4) (by kernel_rfl) rfl rfl ?_ ?_
  refine regW.alt 0 rfl ?_
  simp only [seval, SE, w_none, w_eq, ENMB]
  refine alt_litOwn (es := List.map encApiWord [y302]) app_29 (by simp only [seval, SE, und_29, sz_77, zero_77, (nr rfl : okLen 2 = true), ENMB]) (by decide) (regW.of ?_)
  simp only [seval, SE, w_none, w_eq, und_29, sz_77, zero_77, (nr rfl : okLen 2 = true), ENMB]
  refine regA.one (j := 4) (by kernel_rfl) rfl (regW.of ?_)
  simp only [seval, SE, w_none, w_eq, fld_31_1, sz_29, ENMB]
  refine regA.one (j := 5) (by kernel_rfl) rfl (regW.of ?_)
  simp only [seval, SE, w_none, w_eq, ag_29, sz_29, ENMB]
  refine regA.draw 6 [] (by kernel_rfl) ?_
  simp only [seval, SE, w_none, w_eq, SB, app_29, al_ApiWord, q300, fld_31_1, sz_29, ENMB]
  exact ⟨rfl, rfl⟩
  refine regW.of ?_
  simp only [seval, SE, w_none, w_eq, fld_31_1, sz_29, ENMB]
  refine regA.two (j := 3) (k := 5) (by kernel_rfl) rfl rfl ?_ ?_
  refine regW.alt 0 rfl ?_
  simp only [seval, SE, w_none, w_eq, ENMB]
  refine alt_litOwn (es := List.map encApiWord [y302]) app_29 (by simp only [seval, SE, und_29, sz_77, zero_77, (nr rfl : okLen 2 = true), ENMB]) (by decide) (regW.of ?_)
  simp only [seval, SE, w_none, w_eq, und_29, sz_77, zero_77, (nr rfl : okLen 2 = true), ENMB]
  refine regA.one (j := 5) (by kernel_rfl) rfl (regW.of ?_)
  simp only [seval, SE, w_none, w_eq, ag_29, sz_29, ENMB]
  refine regA.draw 6 [] (by kernel_rfl) ?_
  simp only [seval, SE, w_none, w_eq, SB, app_29, al_ApiWord, q300, fld_31_1, sz_29, ENMB]
  exact ⟨rfl, rfl⟩
  refine regW.of ?_
  simp only [seval, SE, w_none, w_eq, ag_29, sz_29, ENMB]
  refine regA.one (j := 3) (by kernel_rfl) rfl (regW.alt 0 rfl ?_)
  simp only [seval, SE, w_none, w_eq, ENMB]
  refine alt_litOwn (es := List.map encApiWord [y302]) app_29 (by simp only [seval, SE, und_29, sz_77, zero_77, (nr rfl : okLen 2 = true), ENMB]) (by decide) (regW.of ?_)
  simp only [seval, SE, w_none, w_eq, und_29, sz_77, zero_77, (nr rfl : okLen 2 = true), ENMB]
  refine regA.draw 6 [] (by kernel_rfl) ?_
  simp only [seval, SE, w_none, w_eq, SB, app_29, al_ApiWord, q300, fld_31_1, sz_29, ENMB]
  exact ⟨rfl, rfl⟩
  refine regW.of ?_
  simp only [seval, SE, w_none, w_eq, fld_31_1, sz_29, ENMB]
  refine regA.two (j := 2) (k := 5) (by kernel_rfl) rfl rfl ?_ ?_
  refine regW.of ?_
  simp only [seval, SE, w_none, w_eq, ENMB]
  refine SpecS.by (r46_word_spec hy299) (by simp only [seval, SF, ENMB]) ?_
  simp only [seval, SE, w_none, w_eq, ENMB]
  refine regA.two (j := 3) (k := 5) (by kernel_rfl) rfl rfl ?_ ?_
  refine regW.alt 0 rfl ?_
  simp only [seval, SE, w_none, w_eq, ENMB]
  refine alt_litOwn (es := List.map encApiWord [y302]) app_29 (by simp only [seval, SE, und_29, sz_77, zero_77, (nr rfl : okLen 2 = true), ENMB]) (by decide) (regW.of ?_)
  simp only [seval, SE, w_none, w_eq, und_29, sz_77, zero_77, (nr rfl : okLen 2 = true), ENMB]
  refine regA.one (j := 5) (by kernel_rfl) rfl (regW.of ?_)
  simp only [seval, SE, w_none, w_eq, ag_29, sz_29, ENMB]
  refine regA.draw 6 [] (by kernel_rfl) ?_
  simp only [seval, SE, w_none, w_eq, SB, app_29, al_ApiWord, q300, fld_31_1, sz_29, ENMB]
  exact ⟨rfl, rfl⟩
  refine regW.of ?_
  simp only [seval, SE, w_none, w_eq, ag_29, sz_29, ENMB]
  refine regA.one (j := 3) (by kernel_rfl) rfl (regW.alt 0 rfl ?_)
  simp only [seval, SE, w_none, w_eq, ENMB]
  refine alt_litOwn (es := List.map encApiWord [y302]) app_29 (by simp only [seval, SE, und_29, sz_77, zero_77, (nr rfl : okLen 2 = true), ENMB]) (by decide) (regW.of ?_)
  simp only [seval, SE, w_none, w_eq, und_29, sz_77, zero_77, (nr rfl : okLen 2 = true), ENMB]
  refine regA.draw 6 [] (by kernel_rfl) ?_
  simp only [seval, SE, w_none, w_eq, SB, app_29, al_ApiWord, q300, fld_31_1, sz_29, ENMB]
  exact ⟨rfl, rfl⟩
  refine regW.of ?_
  simp only [seval, SE, w_none, w_eq, ag_29, sz_29, ENMB]
  refine regA.one (j := 2) (by kernel_rfl) rfl (regW.of ?_)
  simp only [seval, SE, w_none, w_eq, ENMB]
  refine SpecS.by (r46_word_spec hy299) (by simp only [seval, SF, ENMB]) ?_
  simp only [seval, SE, w_none, w_eq, ENMB]
  refine regA.one (j := 3) (by kernel_rfl) rfl (regW.alt 0 rfl ?_)
  simp only [seval, SE, w_none, w_eq, ENMB]
  refine alt_litOwn (es := List.map encApiWord [y302]) app_29 (by simp only [seval, SE, und_29, sz_77, zero_77, (nr rfl : okLen 2 = true), ENMB]) (by decide) (regW.of ?_)
  simp only [seval, SE, w_none, w_eq, und_29, sz_77, zero_77, (nr rfl : okLen 2 = true), ENMB]
  refine regA.draw 6 [] (by kernel_rfl) ?_
  simp only [seval, SE, w_none, w_eq, SB, app_29, al_ApiWord, q300, fld_31_1, sz_29, ENMB]
  exact ⟨rfl, rfl⟩
  refine regW.of ?_
  simp only [seval, SE, w_none, w_eq, fld_31_1, sz_29, ENMB]
  refine regA.two (j := 1) (k := 5) (by kernel_rfl) rfl rfl ?_ ?_
  refine regW.of ?_
  simp only [seval, SE, w_none, w_eq, ENMB]
  refine regA.two (j := 2) (k := 5) (by kernel_rfl) rfl rfl ?_ ?_
  refine regW.of ?_
  simp only [seval, SE, w_none, w_eq, ENMB]
  refine SpecS.by (r46_word_spec hy299) (by simp only [seval, SF, ENMB]) ?_
  simp only [seval, SE, w_none, w_eq, ENMB]
  refine regA.two (j := 3) (k := 5) (by kernel_rfl) rfl rfl ?_ ?_
  refine regW.alt 0 rfl ?_
  simp only [seval, SE, w_none, w_eq, ENMB]
  refine alt_litOwn (es := List.map encApiWord [y302]) app_29 (by simp only [seval, SE, und_29, sz_77, zero_77, (nr rfl : okLen 2 = true), ENMB]) (by decide) (regW.of ?_)
  simp only [seval, SE, w_none, w_eq, und_29, sz_77, zero_77, (nr rfl : okLen 2 = true), ENMB]
  refine regA.one (j := 5) (by kernel_rfl) rfl (regW.of ?_)
  simp only [seval, SE, w_none, w_eq, ag_29, sz_29, ENMB]
  refine regA.draw 6 [] (by kernel_rfl) ?_
  simp only [seval, SE, w_none, w_eq, SB, app_29, al_ApiWord, q300, fld_31_1, sz_29, ENMB]
  exact ⟨rfl, rfl⟩
  refine regW.of ?_
  simp only [seval, SE, w_none, w_eq, ag_29, sz_29, ENMB]
  refine regA.one (j := 3) (by kernel_rfl) rfl (regW.alt 0 rfl ?_)
  simp only [seval, SE, w_none, w_eq, ENMB]
  refine alt_litOwn (es := List.map encApiWord [y302]) app_29 (by simp only [seval, SE, und_29, sz_77, zero_77, (nr rfl : okLen 2 = true), ENMB]) (by decide) (regW.of ?_)
  simp only [seval, SE, w_none, w_eq, und_29, sz_77, zero_77, (nr rfl : okLen 2 = true), ENMB]
  refine regA.draw 6 [] (by kernel_rfl) ?_
  simp only [seval, SE, w_none, w_eq, SB, app_29, al_ApiWord, q300, fld_31_1, sz_29, ENMB]
  exact ⟨rfl, rfl⟩
  refine regW.of ?_
  simp only [seval, SE, w_none, w_eq, ag_29, sz_29, ENMB]
  refine regA.one (j := 2) (by kernel_rfl) rfl (regW.of ?_)
  simp only [seval, SE, w_none, w_eq, ENMB]
  refine SpecS.by (r46_word_spec hy299) (by simp only [seval, SF, ENMB]) ?_
  simp only [seval, SE, w_none, w_eq, ENMB]
  refine regA.one (j := 3) (by kernel_rfl) rfl (regW.alt 0 rfl ?_)
  simp only [seval, SE, w_none, w_eq, ENMB]
  refine alt_litOwn (es := List.map encApiWord [y302]) app_29 (by simp only [seval, SE, und_29, sz_77, zero_77, (nr rfl : okLen 2 = true), ENMB]) (by decide) (regW.of ?_)
  simp only [seval, SE, w_none, w_eq, und_29, sz_77, zero_77, (nr rfl : okLen 2 = true), ENMB]
  refine regA.draw 6 [] (by kernel_rfl) ?_
  simp only [seval, SE, w_none, w_eq, SB, app_29, al_ApiWord, q300, fld_31_1, sz_29, ENMB]
  exact ⟨rfl, rfl⟩
  refine regW.of ?_
  simp only [seval, SE, w_none, w_eq, ag_29, sz_29, ENMB]
  refine regA.one (j := 1) (by kernel_rfl) rfl (regW.of ?_)
  simp only [seval, SE, w_none, w_eq, ENMB]
  refine regA.one (j := 2) (by kernel_rfl) rfl (regW.of ?_)
  simp only [seval, SE, w_none, w_eq, ENMB]
  refine SpecS.by (r46_word_spec hy299) (by simp only [seval, SF, ENMB]) ?_
  simp only [seval, SE, w_none, w_eq, ENMB]
  refine regA.one (j := 3) (by kernel_rfl) rfl (regW.alt 0 rfl ?_)
  simp only [seval, SE, w_none, w_eq, ENMB]
  refine alt_litOwn (es := List.map encApiWord [y302]) app_29 (by simp only [seval, SE, und_29, sz_77, zero_77, (nr rfl : okLen 2 = true), ENMB]) (by decide) (regW.of ?_)
  simp only [seval, SE, w_none, w_eq, und_29, sz_77, zero_77, (nr rfl : okLen 2 = true), ENMB]
  refine regA.draw 6 [] (by kernel_rfl) ?_
  simp only [seval, SE, w_none, w_eq, SB, app_29, al_ApiWord, q300, fld_31_1, sz_29, ENMB]
  exact ⟨rfl, rfl⟩
  refine regW.of ?_
  simp only [seval, SE, w_none, w_eq, fld_31_1, sz_29, ENMB]
  refine regA.two (j := 0) (k := 5) (by kernel_rfl) rfl rfl ?_ ?_
  refine regW.of ?_
  simp only [seval, SE, w_none, w_eq, ENMB]
  refine regA.two (j := 1) (k := 5) (by kernel_rfl) rfl rfl ?_ ?_
  refine regW.of ?_
  simp only [seval, SE, w_none, w_eq, ENMB]
  refine regA.two (j := 2) (k := 5) (by kernel_rfl) rfl rfl ?_ ?_
  refine regW.of ?_
  simp only [seval, SE, w_none, w_eq, ENMB]
  refine SpecS.by (r46_word_spec hy299) (by simp only [seval, SF, ENMB]) ?_
  simp only [seval, SE, w_none, w_eq, ENMB]
  refine regA.two (j := 3) (k := 5) (by kernel_rfl) rfl rfl ?_ ?_
  refine regW.alt 0 rfl ?_
  simp only [seval, SE, w_none, w_eq, ENMB]
  refine alt_litOwn (es := List.map encApiWord [y302]) app_29 (by simp only [seval, SE, und_29, sz_77, zero_77, (nr rfl : okLen 2 = true), ENMB]) (by decide) (regW.of ?_)
  simp only [seval, SE, w_none, w_eq, und_29, sz_77, zero_77, (nr rfl : okLen 2 = true), ENMB]
  refine regA.one (j := 5) (by kernel_rfl) rfl (regW.of ?_)
  simp only [seval, SE, w_none, w_eq, ag_29, sz_29, ENMB]
  refine regA.draw 6 [] (by kernel_rfl) ?_
  simp only [seval, SE, w_none, w_eq, SB, app_29, al_ApiWord, q300, fld_31_1, sz_29, ENMB]
  exact ⟨rfl, rfl⟩
  refine regW.of ?_
  simp only [seval, SE, w_none, w_eq, ag_29, sz_29, ENMB]
  refine regA.one (j := 3) (by kernel_rfl) rfl (regW.alt 0 rfl ?_)
  simp only [seval, SE, w_none, w_eq, ENMB]
  refine alt_litOwn (es := List.map encApiWord [y302]) app_29 (by simp only [seval, SE, und_29, sz_77, zero_77, (nr rfl : okLen 2 = true), ENMB]) (by decide) (regW.of ?_)
  simp only [seval, SE, w_none, w_eq, und_29, sz_77, zero_77, (nr rfl : okLen 2 = true), ENMB]
  refine regA.draw 6 [] (by kernel_rfl) ?_
  simp only [seval, SE, w_none, w_eq, SB, app_29, al_ApiWord, q300, fld_31_1, sz_29, ENMB]
  exact ⟨rfl, rfl⟩
  refine regW.of ?_
  simp only [seval, SE, w_none, w_eq, ag_29, sz_29, ENMB]
  refine regA.one (j := 2) (by kernel_rfl) rfl (regW.of ?_)
  simp only [seval, SE, w_none, w_eq, ENMB]
  refine SpecS.by (r46_word_spec hy299) (by simp only [seval, SF, ENMB]) ?_
  simp only [seval, SE, w_none, w_eq, ENMB]
  refine regA.one (j := 3) (by kernel_rfl) rfl (regW.alt 0 rfl ?_)
  simp only [seval, SE, w_none, w_eq, ENMB]
  refine alt_litOwn (es := List.map encApiWord [y302]) app_29 (by simp only [seval, SE, und_29, sz_77, zero_77, (nr rfl : okLen 2 = true), ENMB]) (by decide) (regW.of ?_)
  simp only [seval, SE, w_none, w_eq, und_29, sz_77, zero_77, (nr rfl : okLen 2 = true), ENMB]
  refine regA.draw 6 [] (by kernel_rfl) ?_
  simp only [seval, SE, w_none, w_eq, SB, app_29, al_ApiWord, q300, fld_31_1, sz_29, ENMB]
  exact ⟨rfl, rfl⟩
  refine regW.of ?_
  simp only [seval, SE, w_none, w_eq, ag_29, sz_29, ENMB]
  refine regA.one (j := 1) (by kernel_rfl) rfl (regW.of ?_)
  simp only [seval, SE, w_none, w_eq, ENMB]
  refine regA.one (j := 2) (by kernel_rfl) rfl (regW.of ?_)
  simp only [seval, SE, w_none, w_eq, ENMB]
  refine SpecS.by (r46_word_spec hy299) (by simp only [seval, SF, ENMB]) ?_
  simp only [seval, SE, w_none, w_eq, ENMB]
  refine regA.one (j := 3) (by kernel_rfl) rfl (regW.alt 0 rfl ?_)
  simp only [seval, SE, w_none, w_eq, ENMB]
  refine alt_litOwn (es := List.map encApiWord [y302]) app_29 (by simp only [seval, SE, und_29, sz_77, zero_77, (nr rfl : okLen 2 = true), ENMB]) (by decide) (regW.of ?_)
  simp only [seval, SE, w_none, w_eq, und_29, sz_77, zero_77, (nr rfl : okLen 2 = true), ENMB]
  refine regA.draw 6 [] (by kernel_rfl) ?_
  simp only [seval, SE, w_none, w_eq, SB, app_29, al_ApiWord, q300, fld_31_1, sz_29, ENMB]
  exact ⟨rfl, rfl⟩
  refine regW.of ?_
  simp only [seval, SE, w_none, w_eq, ag_29, sz_29, ENMB]
  refine regA.one (j := 0) (by kernel_rfl) rfl (regW.of ?_)
  simp only [seval, SE, w_none, w_eq, ENMB]
  refine regA.one (j := 1) (by kernel_rfl) rfl (regW.of ?_)
  simp only [seval, SE, w_none, w_eq, ENMB]
  refine regA.one (j := 2) (by kernel_rfl) rfl (regW.of ?_)
  simp only [seval, SE, w_none, w_eq, ENMB]
  refine SpecS.by (r46_word_spec hy299) (by simp only [seval, SF, ENMB]) ?_
  simp only [seval, SE, w_none, w_eq, ENMB]
  refine regA.one (j := 3) (by kernel_rfl) rfl (regW.alt 0 rfl ?_)
  simp only [seval, SE, w_none, w_eq, ENMB]
  refine alt_litOwn (es := List.map encApiWord [y302]) app_29 (by simp only [seval, SE, und_29, sz_77, zero_77, (nr rfl : okLen 2 = true), ENMB]) (by decide) (regW.of ?_)
  simp only [seval, SE, w_none, w_eq, und_29, sz_77, zero_77, (nr rfl : okLen 2 = true), ENMB]
  refine regA.draw 6 [] (by kernel_rfl) ?_
  simp only [seval, SE, w_none, w_eq, SB, app_29, al_ApiWord, q300, fld_31_1, sz_29, ENMB]
  exact ⟨rfl, rfl⟩
  cases h
  simp only [seval, SF, ENMB, Tryz.results50]
  refine .skip fun e h => ?_
  cases h
  simp only [seval, SF, ENMB, Tryz.results50]
  intro v301
  refine Mir.toK (.guard fun q301 => .region fun e h => ?_)
  simp only [seval, SE, ag_31, sz_31, und_39, zero_31, (nr rfl : okLen 3 = true), app_39, al_ApiBlock, q301, ENMB]
  refine mU e ?_ h
  refine .region fun e h => ?_
  simp only [seval, SE, ENMB]
  cases h
  simp only [seval, SF, ENMB, Tryz.results50, qr279]
  intro v289 qd280
  refine .seqK (.seqK (.region fun e h => ?_))
  simp only [seval, SE, und_39, qd280, ENMB]
  refine mU e ?_ h
  refine .condF rfl (.exit fun e h => ?_)
  cases h
  simp only [seval, SF, ENMB, Tryz.results50]
  intro v240
  refine Mir.toK (.seqK (.region fun e h => ?_))
  simp only [seval, SE, ENMB]
  refine mU e ?_ h
  refine .ret fun e h => ?_
  cases h
  simp only [seval, SF, ENMB, Tryz.results50]

def r46_Blocks (a0 : (List ApiStage)) (a1 : ApiPos) (a2 : R46Options) : Option ((List ApiBlock) × Int) :=
  bindO (r46_Plain a0 a1 a2) fun (y101 : (List ApiBlock) × Int) =>
  if (y101.2 != 0) = true then
    some ([], y101.2)
  else
    bindO (if a2.Compress = true then
          bindO (r42_New ) fun (y105 : R42State) =>
          bindO (r42_Compress y105 y101.1) fun (y106 : (List ApiBlock) × Int) =>
          some y106.1
        else
          some y101.1) fun (v104 : (List ApiBlock)) =>
    bindO (if (decide (a2.Fold > 0)) = true then
          bindO (r43_Fold v104 1000 a2.Fold) fun (y110 : R43Program × Int) =>
          bindO (r43_Join y110.1) fun (y111 : (List ApiBlock)) =>
          some y111
        else
          some v104) fun (v109 : (List ApiBlock)) =>
    bindO (if (decide (a2.Numbers > 0)) = true then
          bindO (r46_numbered v109 a2.Numbers) fun (y114 : (List ApiBlock)) =>
          some y114
        else
          some v109) fun (v113 : (List ApiBlock)) =>
    if (decide ((v113.length : Int) > 20000)) = true then
      some ([], 3)
    else
      some (v113, 0)
theorem r46_Blocks_spec {a0 : (List ApiStage)} {a1 : ApiPos} {a2 : R46Options} {y : (List ApiBlock) × Int} (h : r46_Blocks a0 a1 a2 = some y) : Spec gP 20 [.d (.list (List.map encApiStage a0)), .agg [.d (.int .i64 a1.X), .d (.int .i64 a1.Y), .d (.int .i64 a1.Z)], .agg [.d (.int .i64 a2.Work), .d (.bool a2.Compress), .d (.int .i64 a2.Numbers), .d (.int .i64 a2.Fold)]] (.tuple [.d (.list (List.map encApiBlock y.1)), .d (.int .i64 y.2)]) := by
  refine spec_mir Tryz.func20 rfl (by kernel_rfl) (by kernel_rfl) (fun y : (List ApiBlock) × Int => .tuple [.d (.list (List.map encApiBlock y.1)), .d (.int .i64 y.2)]) ?_ h
  unfold r46_Blocks
  simp only [List.replicate, List.length, nS, nA, Tryz.ntmps20, SV]
  refine .seqK (.region fun e h => ?_)
  simp only [seval, SE, ENMB]
  refine mU e ?_ h
  refine .seqK (.bind fun y101 hy1 => .region fun e h => ?_)
  simp only [seval, SE, ag_23, sz_23, ag_38, sz_38, ENMB]
  refine SpecS.by (r46_Plain_spec hy1) (by simp only [seval, SF, ENMB]) ?_
  simp only [seval, SE, ENMB]
  refine mU e ?_ h
  refine .seqK (.seqK (.region fun e h => ?_))
  simp only [seval, SE, ENMB]
  refine mU e ?_ h
  refine .cond rfl (fun hb3 => ?_) (fun hb3 => ?_)
  refine .seqK (.region fun e h => ?_)
  simp only [seval, SE, ENMB]
  refine mU e ?_ h
  refine .ret fun e h => ?_
  cases h
  simp only [seval, SF, ENMB, Tryz.results20]
  refine .skip (Mir.toK (.seqK (.seqK (.region fun e h => ?_))))
  simp only [seval, SE, fld_38_1, sz_4, ag_4, ENMB]
  refine mU e ?_ h
  refine Mir.joinO (fun v104 : (List ApiBlock) => (U :: U :: U :: U :: U :: .ptr 1 0 :: U :: U :: .d (.list (List.map encApiBlock v104)) :: us 44)) (fun v104 => ⟨[[.d (.int .i64 a1.X), .d (.int .i64 a1.Y), .d (.int .i64 a1.Z)], [.d (.int .i64 a2.Work), .d (.bool a2.Compress), .d (.int .i64 a2.Numbers), .d (.int .i64 a2.Fold)]], []⟩) (fun _ => rfl) ?_ ?_
  refine .cond rfl (fun hb7 => ?_) (fun hb7 => ?_)
  refine .bind fun y105 hy8 => .bind fun y106 hy9 => .region fun e h => ?_
  simp only [seval, SE, ENMB]
  refine SpecS.by (r42_New_spec hy8) (rfl) ?_
  simp only [seval, SE, ENMB]
  refine SpecS.by (r42_Compress_spec hy9) (by simp only [seval, SF, ENMB]) ?_
  simp only [seval, SE, ENMB]
  cases h
  simp only [seval, SF, ENMB, Tryz.results20]
  refine .skip fun e h => ?_
  cases h
  simp only [seval, SF, ENMB, Tryz.results20]
  intro v104
  refine Mir.toK (.seqK (.seqK (.region fun e h => ?_)))
  simp only [seval, SE, fld_38_3, sz_3, ag_3, ENMB]
  refine mU e ?_ h
  refine Mir.joinO (fun v109 : (List ApiBlock) => (U :: U :: U :: U :: U :: .ptr 1 0 :: U :: U :: .d (.list (List.map encApiBlock v109)) :: us 44)) (fun v109 => ⟨[[.d (.int .i64 a1.X), .d (.int .i64 a1.Y), .d (.int .i64 a1.Z)], [.d (.int .i64 a2.Work), .d (.bool a2.Compress), .d (.int .i64 a2.Numbers), .d (.int .i64 a2.Fold)]], []⟩) (fun _ => rfl) ?_ ?_
  refine .cond rfl (fun hb13 => ?_) (fun hb13 => ?_)
  refine .seqK (.bind fun y110 hy14 => .region fun e h => ?_)
  simp only [seval, SE, fld_38_3, sz_3, ag_3, ENMB]
  refine SpecS.by (r43_Fold_spec hy14) (by simp only [seval, SF, ENMB]) ?_
  simp only [seval, SE, zero_93, sz_93, ENMB]
  refine mU e ?_ h
  refine .bind fun y111 hy15 => .region fun e h => ?_
  simp only [seval, SE, ag_93, sz_93, ENMB]
  refine SpecS.by (r43_Join_spec hy15) (by simp only [seval, SF, ENMB]) ?_
  simp only [seval, SE, ENMB]
  cases h
  simp only [seval, SF, ENMB, Tryz.results20]
  refine .skip fun e h => ?_
  cases h
  simp only [seval, SF, ENMB, Tryz.results20]
  intro v109
  refine Mir.toK (.seqK (.seqK (.region fun e h => ?_)))
  simp only [seval, SE, fld_38_2, sz_2, ag_2, ENMB]
  refine mU e ?_ h
  refine Mir.joinO (fun v113 : (List ApiBlock) => (U :: U :: U :: U :: U :: U :: U :: U :: .d (.list (List.map encApiBlock v113)) :: us 44)) (fun v113 => ⟨[[.d (.int .i64 a1.X), .d (.int .i64 a1.Y), .d (.int .i64 a1.Z)], [.d (.int .i64 a2.Work), .d (.bool a2.Compress), .d (.int .i64 a2.Numbers), .d (.int .i64 a2.Fold)]], []⟩) (fun _ => rfl) ?_ ?_
  refine .cond rfl (fun hb18 => ?_) (fun hb18 => ?_)
  refine .bind fun y114 hy19 => .region fun e h => ?_
  simp only [seval, SE, fld_38_2, sz_2, ag_2, ENMB]
  refine SpecS.by (r46_numbered_spec hy19) (by simp only [seval, SF, ENMB]) ?_
  simp only [seval, SE, ENMB]
  cases h
  simp only [seval, SF, ENMB, Tryz.results20]
  refine .skip fun e h => ?_
  cases h
  simp only [seval, SF, ENMB, Tryz.results20]
  intro v113
  refine Mir.toK (.seqK (.seqK (.region fun e h => ?_)))
  simp only [seval, SE, und_39, ENMB]
  refine mU e ?_ h
  refine .cond rfl (fun hb21 => ?_) (fun hb21 => ?_)
  refine .seqK (.region fun e h => ?_)
  simp only [seval, SE, ENMB]
  refine mU e ?_ h
  refine .ret fun e h => ?_
  cases h
  simp only [seval, SF, ENMB, Tryz.results20]
  refine .skip (Mir.toK (.seqK (.region fun e h => ?_)))
  simp only [seval, SE, ENMB]
  refine mU e ?_ h
  refine .ret fun e h => ?_
  cases h
  simp only [seval, SF, ENMB, Tryz.results20]

def po_Lines (a0 : (List ApiStage)) (a1 : ApiPos) (a2 : PostOptions) : Option (Int × Int) :=
  bindO (po_Blocks a0 a1 a2) fun (y101 : (List ApiBlock) × Int) =>
  some ((y101.1.length : Int), y101.2)
theorem po_Lines_spec {a0 : (List ApiStage)} {a1 : ApiPos} {a2 : PostOptions} {y : Int × Int} (h : po_Lines a0 a1 a2 = some y) : Spec gP 21 [.d (.list (List.map encApiStage a0)), .agg [.d (.int .i64 a1.X), .d (.int .i64 a1.Y), .d (.int .i64 a1.Z)], .agg [.d (.int .i64 a2.Work), .d (.bool a2.Compress), .d (.int .i64 a2.Numbers), .d (.int .i64 a2.Fold)]] (.tuple [.d (.int .i64 y.1), .d (.int .i64 y.2)]) := by
  refine spec_mir Tryz.func21 rfl (by kernel_rfl) (by kernel_rfl) (fun y : Int × Int => .tuple [.d (.int .i64 y.1), .d (.int .i64 y.2)]) ?_ h
  unfold po_Lines
  simp only [List.replicate, List.length, nS, nA, Tryz.ntmps21, SV]
  refine .seqK (.region fun e h => ?_)
  simp only [seval, SE, ENMB]
  refine mU e ?_ h
  refine .seqK (.bind fun y101 hy1 => .region fun e h => ?_)
  simp only [seval, SE, ag_23, sz_23, ag_44, sz_44, ENMB]
  refine SpecS.by (po_Blocks_spec hy1) (by simp only [seval, SF, ENMB]) ?_
  simp only [seval, SE, ENMB]
  refine mU e ?_ h
  refine .seqK (.region fun e h => ?_)
  simp only [seval, SE, und_39, ENMB]
  refine mU e ?_ h
  refine .ret fun e h => ?_
  cases h
  simp only [seval, SF, ENMB, Tryz.results21]

end Go.Proofs.YtejknolljjpodaaGreatDoor
