/-
  Mirrors of functions, written by wip/mir.py.
-/
import Derived.Test.YtiiglghanajfcaaDoorMBa
namespace Go.Proofs.YtiiglghanajfcaaDoor
open Go.RowKit
open Nat renaming reduceAdd → nA, reduceSub → nS, reduceMul → nM, reduceEqDiff → nE, reduceLeDiff → nL, reduceLT → nT, reduceBEq → nB
open Int renaming reduceLT → iT, reduceToNat → iN, reduceEq → iE
set_option linter.unusedVariables false
set_option linter.unusedSimpArgs false
set_option maxRecDepth 100000

def tb_Format (a0 : TableTable) : Option ((List UInt8) × Int) :=
  bindO (tb_Valid a0) fun (y101 : Int) =>
  if (y101 != 0) = true then
    some ([], y101)
  else
    bindO (bindO (if ((a0.Work.e0.X == 0) && ((a0.Work.e0.Y == 0) && (a0.Work.e0.Z == 0))) = true then
              some []
            else
              bindO (strconv_Itoa 54) fun (y292 : (List UInt8)) =>
              guardO (okStr [119, 111, 114, 107, 32, 71] y292) (
              guardO (okLen (([119, 111, 114, 107, 32, 71] ++ y292).length)) (
              bindO (bindO (dc_Millimetres a0.Work.e0.X) fun (y301 : (List UInt8)) =>
                  guardO (okStr [32] y301) (
                  guardO (okLen (([119, 111, 114, 107, 32, 71] ++ y292).length + ([32] ++ y301).length)) (
                  bindO (dc_Millimetres a0.Work.e0.Y) fun (y303 : (List UInt8)) =>
                  guardO (okStr [32] y303) (
                  guardO (okLen (([119, 111, 114, 107, 32, 71] ++ y292 ++ ([32] ++ y301)).length + ([32] ++ y303).length)) (
                  bindO (dc_Millimetres a0.Work.e0.Z) fun (y305 : (List UInt8)) =>
                  guardO (okStr [32] y305) (
                  guardO (okLen (([119, 111, 114, 107, 32, 71] ++ y292 ++ ([32] ++ y301) ++ ([32] ++ y303)).length + ([32] ++ y305).length)) (
                  some ([119, 111, 114, 107, 32, 71] ++ y292 ++ ([32] ++ y301) ++ ([32] ++ y303) ++ ([32] ++ y305))))))))) fun (v299 : (List UInt8)) =>
              guardO (okLen (v299.length + 1)) (
              some (v299 ++ [10]))))) fun (v291 : (List UInt8)) =>
        bindO (if ((a0.Work.e1.X == 0) && ((a0.Work.e1.Y == 0) && (a0.Work.e1.Z == 0))) = true then
              some v291
            else
              bindO (strconv_Itoa 55) fun (y321 : (List UInt8)) =>
              guardO (okStr [119, 111, 114, 107, 32, 71] y321) (
              guardO (okLen (v291.length + ([119, 111, 114, 107, 32, 71] ++ y321).length)) (
              bindO (bindO (dc_Millimetres a0.Work.e1.X) fun (y330 : (List UInt8)) =>
                  guardO (okStr [32] y330) (
                  guardO (okLen ((v291 ++ ([119, 111, 114, 107, 32, 71] ++ y321)).length + ([32] ++ y330).length)) (
                  bindO (dc_Millimetres a0.Work.e1.Y) fun (y332 : (List UInt8)) =>
                  guardO (okStr [32] y332) (
                  guardO (okLen ((v291 ++ ([119, 111, 114, 107, 32, 71] ++ y321) ++ ([32] ++ y330)).length + ([32] ++ y332).length)) (
                  bindO (dc_Millimetres a0.Work.e1.Z) fun (y334 : (List UInt8)) =>
                  guardO (okStr [32] y334) (
                  guardO (okLen ((v291 ++ ([119, 111, 114, 107, 32, 71] ++ y321) ++ ([32] ++ y330) ++ ([32] ++ y332)).length + ([32] ++ y334).length)) (
                  some (v291 ++ ([119, 111, 114, 107, 32, 71] ++ y321) ++ ([32] ++ y330) ++ ([32] ++ y332) ++ ([32] ++ y334))))))))) fun (v328 : (List UInt8)) =>
              guardO (okLen (v328.length + 1)) (
              some (v328 ++ [10]))))) fun (v320 : (List UInt8)) =>
        bindO (if ((a0.Work.e2.X == 0) && ((a0.Work.e2.Y == 0) && (a0.Work.e2.Z == 0))) = true then
              some v320
            else
              bindO (strconv_Itoa 56) fun (y350 : (List UInt8)) =>
              guardO (okStr [119, 111, 114, 107, 32, 71] y350) (
              guardO (okLen (v320.length + ([119, 111, 114, 107, 32, 71] ++ y350).length)) (
              bindO (bindO (dc_Millimetres a0.Work.e2.X) fun (y359 : (List UInt8)) =>
                  guardO (okStr [32] y359) (
                  guardO (okLen ((v320 ++ ([119, 111, 114, 107, 32, 71] ++ y350)).length + ([32] ++ y359).length)) (
                  bindO (dc_Millimetres a0.Work.e2.Y) fun (y361 : (List UInt8)) =>
                  guardO (okStr [32] y361) (
                  guardO (okLen ((v320 ++ ([119, 111, 114, 107, 32, 71] ++ y350) ++ ([32] ++ y359)).length + ([32] ++ y361).length)) (
                  bindO (dc_Millimetres a0.Work.e2.Z) fun (y363 : (List UInt8)) =>
                  guardO (okStr [32] y363) (
                  guardO (okLen ((v320 ++ ([119, 111, 114, 107, 32, 71] ++ y350) ++ ([32] ++ y359) ++ ([32] ++ y361)).length + ([32] ++ y363).length)) (
                  some (v320 ++ ([119, 111, 114, 107, 32, 71] ++ y350) ++ ([32] ++ y359) ++ ([32] ++ y361) ++ ([32] ++ y363))))))))) fun (v357 : (List UInt8)) =>
              guardO (okLen (v357.length + 1)) (
              some (v357 ++ [10]))))) fun (v349 : (List UInt8)) =>
        bindO (if ((a0.Work.e3.X == 0) && ((a0.Work.e3.Y == 0) && (a0.Work.e3.Z == 0))) = true then
              some v349
            else
              bindO (strconv_Itoa 57) fun (y379 : (List UInt8)) =>
              guardO (okStr [119, 111, 114, 107, 32, 71] y379) (
              guardO (okLen (v349.length + ([119, 111, 114, 107, 32, 71] ++ y379).length)) (
              bindO (bindO (dc_Millimetres a0.Work.e3.X) fun (y388 : (List UInt8)) =>
                  guardO (okStr [32] y388) (
                  guardO (okLen ((v349 ++ ([119, 111, 114, 107, 32, 71] ++ y379)).length + ([32] ++ y388).length)) (
                  bindO (dc_Millimetres a0.Work.e3.Y) fun (y390 : (List UInt8)) =>
                  guardO (okStr [32] y390) (
                  guardO (okLen ((v349 ++ ([119, 111, 114, 107, 32, 71] ++ y379) ++ ([32] ++ y388)).length + ([32] ++ y390).length)) (
                  bindO (dc_Millimetres a0.Work.e3.Z) fun (y392 : (List UInt8)) =>
                  guardO (okStr [32] y392) (
                  guardO (okLen ((v349 ++ ([119, 111, 114, 107, 32, 71] ++ y379) ++ ([32] ++ y388) ++ ([32] ++ y390)).length + ([32] ++ y392).length)) (
                  some (v349 ++ ([119, 111, 114, 107, 32, 71] ++ y379) ++ ([32] ++ y388) ++ ([32] ++ y390) ++ ([32] ++ y392))))))))) fun (v386 : (List UInt8)) =>
              guardO (okLen (v386.length + 1)) (
              some (v386 ++ [10]))))) fun (v378 : (List UInt8)) =>
        bindO (if ((a0.Work.e4.X == 0) && ((a0.Work.e4.Y == 0) && (a0.Work.e4.Z == 0))) = true then
              some v378
            else
              bindO (strconv_Itoa 58) fun (y408 : (List UInt8)) =>
              guardO (okStr [119, 111, 114, 107, 32, 71] y408) (
              guardO (okLen (v378.length + ([119, 111, 114, 107, 32, 71] ++ y408).length)) (
              bindO (bindO (dc_Millimetres a0.Work.e4.X) fun (y417 : (List UInt8)) =>
                  guardO (okStr [32] y417) (
                  guardO (okLen ((v378 ++ ([119, 111, 114, 107, 32, 71] ++ y408)).length + ([32] ++ y417).length)) (
                  bindO (dc_Millimetres a0.Work.e4.Y) fun (y419 : (List UInt8)) =>
                  guardO (okStr [32] y419) (
                  guardO (okLen ((v378 ++ ([119, 111, 114, 107, 32, 71] ++ y408) ++ ([32] ++ y417)).length + ([32] ++ y419).length)) (
                  bindO (dc_Millimetres a0.Work.e4.Z) fun (y421 : (List UInt8)) =>
                  guardO (okStr [32] y421) (
                  guardO (okLen ((v378 ++ ([119, 111, 114, 107, 32, 71] ++ y408) ++ ([32] ++ y417) ++ ([32] ++ y419)).length + ([32] ++ y421).length)) (
                  some (v378 ++ ([119, 111, 114, 107, 32, 71] ++ y408) ++ ([32] ++ y417) ++ ([32] ++ y419) ++ ([32] ++ y421))))))))) fun (v415 : (List UInt8)) =>
              guardO (okLen (v415.length + 1)) (
              some (v415 ++ [10]))))) fun (v407 : (List UInt8)) =>
        bindO (if ((a0.Work.e5.X == 0) && ((a0.Work.e5.Y == 0) && (a0.Work.e5.Z == 0))) = true then
              some v407
            else
              bindO (strconv_Itoa 59) fun (y437 : (List UInt8)) =>
              guardO (okStr [119, 111, 114, 107, 32, 71] y437) (
              guardO (okLen (v407.length + ([119, 111, 114, 107, 32, 71] ++ y437).length)) (
              bindO (bindO (dc_Millimetres a0.Work.e5.X) fun (y446 : (List UInt8)) =>
                  guardO (okStr [32] y446) (
                  guardO (okLen ((v407 ++ ([119, 111, 114, 107, 32, 71] ++ y437)).length + ([32] ++ y446).length)) (
                  bindO (dc_Millimetres a0.Work.e5.Y) fun (y448 : (List UInt8)) =>
                  guardO (okStr [32] y448) (
                  guardO (okLen ((v407 ++ ([119, 111, 114, 107, 32, 71] ++ y437) ++ ([32] ++ y446)).length + ([32] ++ y448).length)) (
                  bindO (dc_Millimetres a0.Work.e5.Z) fun (y450 : (List UInt8)) =>
                  guardO (okStr [32] y450) (
                  guardO (okLen ((v407 ++ ([119, 111, 114, 107, 32, 71] ++ y437) ++ ([32] ++ y446) ++ ([32] ++ y448)).length + ([32] ++ y450).length)) (
                  some (v407 ++ ([119, 111, 114, 107, 32, 71] ++ y437) ++ ([32] ++ y446) ++ ([32] ++ y448) ++ ([32] ++ y450))))))))) fun (v444 : (List UInt8)) =>
              guardO (okLen (v444.length + 1)) (
              some (v444 ++ [10]))))) fun (v436 : (List UInt8)) =>
        some v436) fun (v276 : (List UInt8)) =>
    bindO (guardO (okIdx a0.Lengths) (
        rangeX (fun (i505 : Nat) (e507 : TableLength) (v506 : (List UInt8)) =>
          bindO (strconv_FormatInt e507.Number 10) fun (y510 : (List UInt8)) =>
          guardO (okStr [108, 101, 110, 103, 116, 104, 32] y510) (
          guardO (okStr ([108, 101, 110, 103, 116, 104, 32] ++ y510) [32]) (
          bindO (dc_Millimetres e507.Length) fun (y511 : (List UInt8)) =>
          guardO (okStr (([108, 101, 110, 103, 116, 104, 32] ++ y510) ++ [32]) y511) (
          guardO (okStr ((([108, 101, 110, 103, 116, 104, 32] ++ y510) ++ [32]) ++ y511) [10]) (
          guardO (okLen (v506.length + (((([108, 101, 110, 103, 116, 104, 32] ++ y510) ++ [32]) ++ y511) ++ [10]).length)) (
          some (.go (v506 ++ (((([108, 101, 110, 103, 116, 104, 32] ++ y510) ++ [32]) ++ y511) ++ [10]))))))))) (fun (v506 : (List UInt8)) => some v506) a0.Lengths 0 v276)) fun (v481 : (List UInt8)) =>
    some (v481, 0)
set_option maxHeartbeats 8000000 in
theorem tb_Format_spec {a0 : TableTable} {y : (List UInt8) × Int} (h : tb_Format a0 = some y) : Spec gP 23 [.agg [.d (.int .i64 a0.Work.e0.X), .d (.int .i64 a0.Work.e0.Y), .d (.int .i64 a0.Work.e0.Z), .d (.int .i64 a0.Work.e1.X), .d (.int .i64 a0.Work.e1.Y), .d (.int .i64 a0.Work.e1.Z), .d (.int .i64 a0.Work.e2.X), .d (.int .i64 a0.Work.e2.Y), .d (.int .i64 a0.Work.e2.Z), .d (.int .i64 a0.Work.e3.X), .d (.int .i64 a0.Work.e3.Y), .d (.int .i64 a0.Work.e3.Z), .d (.int .i64 a0.Work.e4.X), .d (.int .i64 a0.Work.e4.Y), .d (.int .i64 a0.Work.e4.Z), .d (.int .i64 a0.Work.e5.X), .d (.int .i64 a0.Work.e5.Y), .d (.int .i64 a0.Work.e5.Z), .d (.list (List.map encTableLength a0.Lengths))]] (.tuple [.d (.str y.1), .d (.int .i64 y.2)]) := by
  refine spec_mir Tryd.func23 rfl (by kernel_rfl) (by kernel_rfl) (fun y : (List UInt8) × Int => .tuple [.d (.str y.1), .d (.int .i64 y.2)]) ?_ h
  unfold tb_Format
  simp only [List.replicate, List.length, nS, nA, Tryd.ntmps23, SV]
  refine Mir.seqK (Mir.region fun e h => ?_)
  simp only [↓reduceIte, reduceCtorEq, nA, nS, nM, nE, nL, nT, nB, iT, iN, iE, and_self, SR, SV, ENMB, eInt]
  refine Mir.use (e := e) ?_ h
  refine Mir.seqK (Mir.seqK (Mir.bind fun y101 hy1 => Mir.region fun e h => ?_))
  simp only [↓reduceIte, reduceCtorEq, nA, nS, nM, nE, nL, nT, nB, iT, iN, iE, and_self, SR, SV, ag_33, sz_33, ENMB, eInt]
  refine SpecS.by (tb_Valid_spec hy1) (by simp only [↓reduceIte, reduceCtorEq, nA, nE, nL, and_self, and_true, true_and, SL, ENMB, eInt]) ?_
  simp only [↓reduceIte, reduceCtorEq, nA, nS, nM, nE, nL, nT, nB, iT, iN, iE, and_self, SR, SV, ENMB, eInt]
  refine Mir.use (e := e) ?_ h
  refine Mir.seqK (Mir.region fun e h => ?_)
  simp only [↓reduceIte, reduceCtorEq, nA, nS, nM, nE, nL, nT, nB, iT, iN, iE, and_self, SR, SV, ENMB, eInt]
  refine Mir.use (e := e) ?_ h
  refine Mir.cond rfl (fun hb3 => ?_) (fun hb3 => ?_)
  ·refine Mir.seqK (Mir.region fun e h => ?_)
   simp only [↓reduceIte, reduceCtorEq, nA, nS, nM, nE, nL, nT, nB, iT, iN, iE, and_self, SR, SV, ENMB]
   refine Mir.use (e := e) ?_ h
   refine Mir.ret fun e h => ?_
   cases h
   simp only [↓reduceIte, reduceCtorEq, nA, nE, nL, and_self, and_true, true_and, SL, ENMB, Tryd.results23]
  ·refine Mir.skip (Mir.toK (Mir.seqK (Mir.regionW fun e h => regW.alt 0 rfl ?_)))
   simp only [↓reduceIte, reduceCtorEq, nA, nS, nM, nE, nL, nT, nB, iT, iN, iE, and_self, SR, SV, w_none, w_eq, and_true, true_and, tkS, tk0, tkN, dpS, dp0, ENMB, eInt]
   refine alt_allocB (e := 5) (zv := .agg #[.pointer none, .slice none 0 0]) rfl (by kernel_rfl) rfl (regW.of ?_)
   simp only [↓reduceIte, reduceCtorEq, nA, nS, nM, nE, nL, nT, nB, iT, iN, iE, and_self, SR, SV, w_none, w_eq, and_true, true_and, tkS, tk0, tkN, dpS, dp0, ENMB, eInt]
   refine Mir.use (e := e) ?_ h
   refine Mir.seqK (Mir.seqK (Mir.region fun e h => ?_))
   simp only [↓reduceIte, reduceCtorEq, nA, nS, nM, nE, nL, nT, nB, iT, iN, iE, and_self, SR, SV, fld_33_0, sz_24, ag_24, ENMB, eInt]
   refine Mir.use (e := e) ?_ h
   refine Mir.joinO (fun v276 : (List UInt8) => [U, .ptr 0 0, U, U, U, .ptr 1 0, U, U, U, U, U, U, U, U, U, U, U, U, U, U, U, U, U, U, U, U, U, U, U, U, U, U, U, U, U, U, U, U, U, U, U, U, U, U, U, U, U, U, U, U, U, U, U, U, U, U, U, U, U, U, U, U, U, U, U, U, U, U, U, U]) (fun v276 : (List UInt8) => ⟨[[.d (.int .i64 a0.Work.e0.X), .d (.int .i64 a0.Work.e0.Y), .d (.int .i64 a0.Work.e0.Z), .d (.int .i64 a0.Work.e1.X), .d (.int .i64 a0.Work.e1.Y), .d (.int .i64 a0.Work.e1.Z), .d (.int .i64 a0.Work.e2.X), .d (.int .i64 a0.Work.e2.Y), .d (.int .i64 a0.Work.e2.Z), .d (.int .i64 a0.Work.e3.X), .d (.int .i64 a0.Work.e3.Y), .d (.int .i64 a0.Work.e3.Z), .d (.int .i64 a0.Work.e4.X), .d (.int .i64 a0.Work.e4.Y), .d (.int .i64 a0.Work.e4.Z), .d (.int .i64 a0.Work.e5.X), .d (.int .i64 a0.Work.e5.Y), .d (.int .i64 a0.Work.e5.Z), .d (.list (List.map encTableLength a0.Lengths))], [.adr 1, .own 0 (List.map byteE v276)]], [(5, v276.length)]⟩) (fun _ => rfl) ?_ ?_
   ·refine Mir.block (Mir.loopR 15 (Mir.seqK (Mir.region fun e h => ?_)))
    simp only [↓reduceIte, reduceCtorEq, nA, nS, nM, nE, nL, nT, nB, iT, iN, iE, and_self, SR, SV, ENMB, eInt]
    refine Mir.use (e := e) ?_ h
    refine Mir.seqK (Mir.condT rfl (Mir.skip (Mir.toK (Mir.seqK (Mir.joinO (fun v291 : (List UInt8) => [U, .ptr 0 0, U, U, U, .ptr 1 0, U, U, U, U, U, U, U, U, U, U, U, U, .agg [.d (.int .i64 a0.Work.e0.X), .d (.int .i64 a0.Work.e0.Y), .d (.int .i64 a0.Work.e0.Z), .d (.int .i64 a0.Work.e1.X), .d (.int .i64 a0.Work.e1.Y), .d (.int .i64 a0.Work.e1.Z), .d (.int .i64 a0.Work.e2.X), .d (.int .i64 a0.Work.e2.Y), .d (.int .i64 a0.Work.e2.Z), .d (.int .i64 a0.Work.e3.X), .d (.int .i64 a0.Work.e3.Y), .d (.int .i64 a0.Work.e3.Z), .d (.int .i64 a0.Work.e4.X), .d (.int .i64 a0.Work.e4.Y), .d (.int .i64 a0.Work.e4.Z), .d (.int .i64 a0.Work.e5.X), .d (.int .i64 a0.Work.e5.Y), .d (.int .i64 a0.Work.e5.Z)], .d (.int .i64 0), U, U, U, U, U, U, U, U, U, U, U, U, U, U, U, U, U, U, U, U, U, U, U, U, U, U, U, U, U, U, U, U, U, U, U, U, U, U, U, U, U, U, U, U, U, U, U, U, U, U]) (fun v291 : (List UInt8) => ⟨[[.d (.int .i64 a0.Work.e0.X), .d (.int .i64 a0.Work.e0.Y), .d (.int .i64 a0.Work.e0.Z), .d (.int .i64 a0.Work.e1.X), .d (.int .i64 a0.Work.e1.Y), .d (.int .i64 a0.Work.e1.Z), .d (.int .i64 a0.Work.e2.X), .d (.int .i64 a0.Work.e2.Y), .d (.int .i64 a0.Work.e2.Z), .d (.int .i64 a0.Work.e3.X), .d (.int .i64 a0.Work.e3.Y), .d (.int .i64 a0.Work.e3.Z), .d (.int .i64 a0.Work.e4.X), .d (.int .i64 a0.Work.e4.Y), .d (.int .i64 a0.Work.e4.Z), .d (.int .i64 a0.Work.e5.X), .d (.int .i64 a0.Work.e5.Y), .d (.int .i64 a0.Work.e5.Z), .d (.list (List.map encTableLength a0.Lengths))], [.adr 1, .own 0 (List.map byteE v291)]], [(5, v291.length)]⟩) (fun _ => rfl) ?_ ?_)))))
    ·refine Mir.block (Mir.seqK (Mir.region fun e h => ?_))
     simp only [↓reduceIte, reduceCtorEq, nA, nS, nM, nE, nL, nT, nB, iT, iN, iE, and_self, SR, SV, und_24, sz_23, ag_23, zero_23, ENMB, eInt]
     refine Mir.use (e := e) ?_ h
     refine Mir.seqK (Mir.seqK (Mir.region fun e h => ?_))
     simp only [↓reduceIte, reduceCtorEq, nA, nS, nM, nE, nL, nT, nB, iT, iN, iE, and_self, SR, SV, ag_23, sz_23, zero_23, pl_23, gE_23, ENMB, eInt]
     refine Mir.use (e := e) ?_ h
     refine Mir.cond rfl (fun hb551 => ?_) (fun hb551 => ?_)
     ·refine Mir.exit fun e h => ?_
      cases h
      simp only [↓reduceIte, reduceCtorEq, nA, nE, nL, and_self, and_true, true_and, SL, ENMB, eInt, Tryd.results23]
     ·refine Mir.skip (Mir.toK (Mir.seqK (Mir.bind fun y292 hy552 => Mir.guard fun q553 => ?_)))
      replace q553 := okStr_ok q553
      try simp only [lm, xNA, xCA, xAN, xLC, xLN, xAC, xAL, nA, Nat.zero_add] at q553
      refine Mir.guard fun q554 => Mir.region fun e h => ?_
      simp only [↓reduceIte, reduceCtorEq, nA, nS, nM, nE, nL, nT, nB, iT, iN, iE, and_self, SR, SV, (nr rfl : IntKind.i64.wrap (54 + 0) = 54), ENMB, eInt]
      refine SpecS.by (strconv_Itoa_spec hy552) (by simp only [↓reduceIte, reduceCtorEq, nA, nE, nL, and_self, and_true, true_and, SL, ENMB, eInt]) ?_
      simp only [↓reduceIte, reduceCtorEq, nA, nS, nM, nE, nL, nT, nB, iT, iN, iE, and_self, SR, SV, q553, ENMB, eInt]
      refine specS_wsN (n := ([119, 111, 114, 107, 32, 71] ++ y292).length) rfl (lns_at (by simp only [List.length_map, List.length_append, List.length_nil, List.length_cons, List.map_nil, List.map_cons, xOS, xON] <;> omega)) (ok2z q554 (by simp only [List.length_map, List.length_append, List.length_nil, List.length_cons, List.map_nil, List.map_cons, xOS, xON] <;> omega) rfl) (by simp only [List.length_map, List.length_append, List.length_nil, List.length_cons, List.map_nil, List.map_cons, xOS, xON] <;> omega) ?_
      simp only [↓reduceIte, reduceCtorEq, nA, nS, nM, nE, nL, nT, nB, iT, iN, iE, and_self, SR, SV, ENMB, eInt]
      refine Mir.use (e := e) ?_ h
      refine Mir.seqK (Mir.seqK (Mir.region fun e h => ?_))
      simp only [↓reduceIte, reduceCtorEq, nA, nS, nM, nE, nL, nT, nB, iT, iN, iE, and_self, SR, SV, fld_23_0, sz_2, ag_2, fld_23_1, fld_23_2, und_82, zero_2, (nr rfl : okLen 3 = true), (nr rfl : ((3 : Nat) : Int) = 3), ENMB, eInt]
      refine Mir.use (e := e) ?_ h
      refine Mir.joinO (fun v299 : (List UInt8) => [U, .ptr 0 0, U, U, U, .ptr 1 0, U, U, U, U, U, U, U, U, U, U, U, U, .agg [.d (.int .i64 a0.Work.e0.X), .d (.int .i64 a0.Work.e0.Y), .d (.int .i64 a0.Work.e0.Z), .d (.int .i64 a0.Work.e1.X), .d (.int .i64 a0.Work.e1.Y), .d (.int .i64 a0.Work.e1.Z), .d (.int .i64 a0.Work.e2.X), .d (.int .i64 a0.Work.e2.Y), .d (.int .i64 a0.Work.e2.Z), .d (.int .i64 a0.Work.e3.X), .d (.int .i64 a0.Work.e3.Y), .d (.int .i64 a0.Work.e3.Z), .d (.int .i64 a0.Work.e4.X), .d (.int .i64 a0.Work.e4.Y), .d (.int .i64 a0.Work.e4.Z), .d (.int .i64 a0.Work.e5.X), .d (.int .i64 a0.Work.e5.Y), .d (.int .i64 a0.Work.e5.Z)], .d (.int .i64 0), U, U, U, U, U, U, U, U, U, U, U, U, U, U, U, U, U, U, U, U, U, U, U, U, U, U, U, U, U, U, U, U, U, U, U, U, U, U, U, U, U, U, U, U, U, U, U, U, U, U]) (fun v299 : (List UInt8) => ⟨[[.d (.int .i64 a0.Work.e0.X), .d (.int .i64 a0.Work.e0.Y), .d (.int .i64 a0.Work.e0.Z), .d (.int .i64 a0.Work.e1.X), .d (.int .i64 a0.Work.e1.Y), .d (.int .i64 a0.Work.e1.Z), .d (.int .i64 a0.Work.e2.X), .d (.int .i64 a0.Work.e2.Y), .d (.int .i64 a0.Work.e2.Z), .d (.int .i64 a0.Work.e3.X), .d (.int .i64 a0.Work.e3.Y), .d (.int .i64 a0.Work.e3.Z), .d (.int .i64 a0.Work.e4.X), .d (.int .i64 a0.Work.e4.Y), .d (.int .i64 a0.Work.e4.Z), .d (.int .i64 a0.Work.e5.X), .d (.int .i64 a0.Work.e5.Y), .d (.int .i64 a0.Work.e5.Z), .d (.list (List.map encTableLength a0.Lengths))], [.adr 1, .own 0 (List.map byteE v299)], [.d (.int .i64 a0.Work.e0.X), .d (.int .i64 a0.Work.e0.Y), .d (.int .i64 a0.Work.e0.Z)]], [(5, v299.length)]⟩) (fun _ => rfl) ?_ ?_
      ·refine Mir.block (Mir.loopR 15 (Mir.seqK (Mir.region fun e h => ?_)))
       simp only [↓reduceIte, reduceCtorEq, nA, nS, nM, nE, nL, nT, nB, iT, iN, iE, and_self, SR, SV, ENMB, eInt]
       refine Mir.use (e := e) ?_ h
       refine Mir.seqK (Mir.condT rfl (Mir.skip (Mir.toK (Mir.seqK (Mir.block (Mir.seqK (Mir.region fun e h => ?_)))))))
       simp only [↓reduceIte, reduceCtorEq, nA, nS, nM, nE, nL, nT, nB, iT, iN, iE, and_self, SR, SV, und_82, sz_2, ag_2, ENMB, eInt]
       refine Mir.use (e := e) ?_ h
       refine Mir.bind fun y301 hy576 => Mir.guard fun q577 => ?_
       replace q577 := okStr_ok q577
       try simp only [lm, xNA, xCA, xAN, xLC, xLN, xAC, xAL, nA, Nat.zero_add] at q577
       refine Mir.guard fun q578 => Mir.region fun e h => ?_
       simp only [↓reduceIte, reduceCtorEq, nA, nS, nM, nE, nL, nT, nB, iT, iN, iE, and_self, SR, SV, ENMB, eInt]
       refine SpecS.by (dc_Millimetres_spec hy576) (by simp only [↓reduceIte, reduceCtorEq, nA, nE, nL, and_self, and_true, true_and, SL, ENMB, eInt]) ?_
       simp only [↓reduceIte, reduceCtorEq, nA, nS, nM, nE, nL, nT, nB, iT, iN, iE, and_self, SR, SV, q577, ENMB, eInt]
       refine specS_wsN (n := ([119, 111, 114, 107, 32, 71] ++ y292 ++ ([32] ++ y301)).length) rfl (lns_at (by simp only [List.length_map, List.length_append, List.length_nil, List.length_cons, List.map_nil, List.map_cons, xOS, xON] <;> omega)) (ok2 q578 (by simp only [List.length_map, List.length_append, List.length_nil, List.length_cons, List.map_nil, List.map_cons, xOS, xON] <;> omega) rfl) (by simp only [List.length_map, List.length_append, List.length_nil, List.length_cons, List.map_nil, List.map_cons, xOS, xON] <;> omega) ?_
       simp only [↓reduceIte, reduceCtorEq, nA, nS, nM, nE, nL, nT, nB, iT, iN, iE, and_self, SR, SV, ENMB, eInt]
       refine Mir.use (e := e) ?_ h
       refine Mir.region fun e h => ?_
       simp only [↓reduceIte, reduceCtorEq, nA, nS, nM, nE, nL, nT, nB, iT, iN, iE, and_self, SR, SV, (nr rfl : IntKind.i64.wrap (0 + 1) = 1), ENMB, eInt]
       refine Mir.useN (e := e) ?_ h
       refine Mir.seqK (Mir.region fun e h => ?_)
       simp only [↓reduceIte, reduceCtorEq, nA, nS, nM, nE, nL, nT, nB, iT, iN, iE, and_self, SR, SV, ENMB, eInt]
       refine Mir.use (e := e) ?_ h
       refine Mir.seqK (Mir.condT rfl (Mir.skip (Mir.toK (Mir.seqK (Mir.block (Mir.seqK (Mir.region fun e h => ?_)))))))
       simp only [↓reduceIte, reduceCtorEq, nA, nS, nM, nE, nL, nT, nB, iT, iN, iE, and_self, SR, SV, und_82, sz_2, ag_2, ENMB, eInt]
       refine Mir.use (e := e) ?_ h
       refine Mir.bind fun y303 hy582 => Mir.guard fun q583 => ?_
       replace q583 := okStr_ok q583
       try simp only [lm, xNA, xCA, xAN, xLC, xLN, xAC, xAL, nA, Nat.zero_add] at q583
       refine Mir.guard fun q584 => Mir.region fun e h => ?_
       simp only [↓reduceIte, reduceCtorEq, nA, nS, nM, nE, nL, nT, nB, iT, iN, iE, and_self, SR, SV, ENMB, eInt]
       refine SpecS.by (dc_Millimetres_spec hy582) (by simp only [↓reduceIte, reduceCtorEq, nA, nE, nL, and_self, and_true, true_and, SL, ENMB, eInt]) ?_
       simp only [↓reduceIte, reduceCtorEq, nA, nS, nM, nE, nL, nT, nB, iT, iN, iE, and_self, SR, SV, q583, ENMB, eInt]
       refine specS_wsN (n := ([119, 111, 114, 107, 32, 71] ++ y292 ++ ([32] ++ y301) ++ ([32] ++ y303)).length) rfl (lns_at (by simp only [List.length_map, List.length_append, List.length_nil, List.length_cons, List.map_nil, List.map_cons, xOS, xON] <;> omega)) (ok2 q584 (by simp only [List.length_map, List.length_append, List.length_nil, List.length_cons, List.map_nil, List.map_cons, xOS, xON] <;> omega) rfl) (by simp only [List.length_map, List.length_append, List.length_nil, List.length_cons, List.map_nil, List.map_cons, xOS, xON] <;> omega) ?_
       simp only [↓reduceIte, reduceCtorEq, nA, nS, nM, nE, nL, nT, nB, iT, iN, iE, and_self, SR, SV, ENMB, eInt]
       refine Mir.use (e := e) ?_ h
       refine Mir.region fun e h => ?_
       simp only [↓reduceIte, reduceCtorEq, nA, nS, nM, nE, nL, nT, nB, iT, iN, iE, and_self, SR, SV, (nr rfl : IntKind.i64.wrap (1 + 1) = 2), ENMB, eInt]
       refine Mir.useN (e := e) ?_ h
       refine Mir.seqK (Mir.region fun e h => ?_)
       simp only [↓reduceIte, reduceCtorEq, nA, nS, nM, nE, nL, nT, nB, iT, iN, iE, and_self, SR, SV, ENMB, eInt]
       refine Mir.use (e := e) ?_ h
       refine Mir.seqK (Mir.condT rfl (Mir.skip (Mir.toK (Mir.seqK (Mir.block (Mir.seqK (Mir.region fun e h => ?_)))))))
       simp only [↓reduceIte, reduceCtorEq, nA, nS, nM, nE, nL, nT, nB, iT, iN, iE, and_self, SR, SV, und_82, sz_2, ag_2, ENMB, eInt]
       refine Mir.use (e := e) ?_ h
       refine Mir.bind fun y305 hy588 => Mir.guard fun q589 => ?_
       replace q589 := okStr_ok q589
       try simp only [lm, xNA, xCA, xAN, xLC, xLN, xAC, xAL, nA, Nat.zero_add] at q589
       refine Mir.guard fun q590 => Mir.region fun e h => ?_
       simp only [↓reduceIte, reduceCtorEq, nA, nS, nM, nE, nL, nT, nB, iT, iN, iE, and_self, SR, SV, ENMB, eInt]
       refine SpecS.by (dc_Millimetres_spec hy588) (by simp only [↓reduceIte, reduceCtorEq, nA, nE, nL, and_self, and_true, true_and, SL, ENMB, eInt]) ?_
       simp only [↓reduceIte, reduceCtorEq, nA, nS, nM, nE, nL, nT, nB, iT, iN, iE, and_self, SR, SV, q589, ENMB, eInt]
       refine specS_wsN (n := ([119, 111, 114, 107, 32, 71] ++ y292 ++ ([32] ++ y301) ++ ([32] ++ y303) ++ ([32] ++ y305)).length) rfl (lns_at (by simp only [List.length_map, List.length_append, List.length_nil, List.length_cons, List.map_nil, List.map_cons, xOS, xON] <;> omega)) (ok2 q590 (by simp only [List.length_map, List.length_append, List.length_nil, List.length_cons, List.map_nil, List.map_cons, xOS, xON] <;> omega) rfl) (by simp only [List.length_map, List.length_append, List.length_nil, List.length_cons, List.map_nil, List.map_cons, xOS, xON] <;> omega) ?_
       simp only [↓reduceIte, reduceCtorEq, nA, nS, nM, nE, nL, nT, nB, iT, iN, iE, and_self, SR, SV, ENMB, eInt]
       refine Mir.use (e := e) ?_ h
       refine Mir.region fun e h => ?_
       simp only [↓reduceIte, reduceCtorEq, nA, nS, nM, nE, nL, nT, nB, iT, iN, iE, and_self, SR, SV, (nr rfl : IntKind.i64.wrap (2 + 1) = 3), ENMB, eInt]
       refine Mir.useN (e := e) ?_ h
       refine Mir.seqK (Mir.region fun e h => ?_)
       simp only [↓reduceIte, reduceCtorEq, nA, nS, nM, nE, nL, nT, nB, iT, iN, iE, and_self, SR, SV, ENMB, eInt]
       refine Mir.use (e := e) ?_ h
       refine Mir.seqK (Mir.condF rfl (Mir.exit fun e h => ?_))
       cases h
       simp only [↓reduceIte, reduceCtorEq, nA, nE, nL, and_self, and_true, true_and, SL, ENMB, eInt, Tryd.results23]
      ·intro v299
       refine Mir.toK (Mir.guard fun q591 => Mir.region fun e h => ?_)
       simp only [↓reduceIte, reduceCtorEq, nA, nS, nM, nE, nL, nT, nB, iT, iN, iE, and_self, SR, SV, ENMB, eInt]
       refine specS_wbN (b := 10) (n := (v299 ++ [10]).length) rfl rfl (lns_at (by simp only [List.length_map, List.length_append, List.length_nil, List.length_cons, List.map_nil, List.map_cons, xOS, xON] <;> omega)) (ok2 q591 (by simp only [List.length_map, List.length_append, List.length_nil, List.length_cons, List.map_nil, List.map_cons, xOS, xON] <;> omega) rfl) (by simp only [List.length_map, List.length_append, List.length_nil, List.length_cons, List.map_nil, List.map_cons, xOS, xON] <;> omega) ?_
       simp only [↓reduceIte, reduceCtorEq, nA, nS, nM, nE, nL, nT, nB, iT, iN, iE, and_self, SR, SV, ENMB, eInt]
       cases h
       simp only [↓reduceIte, reduceCtorEq, nA, nE, nL, and_self, and_true, true_and, SL, ENMB, eInt, Tryd.results23]
    ·intro v291
     refine Mir.toK (Mir.region fun e h => ?_)
     simp only [↓reduceIte, reduceCtorEq, nA, nS, nM, nE, nL, nT, nB, iT, iN, iE, and_self, SR, SV, (nr rfl : IntKind.i64.wrap (0 + 1) = 1), ENMB, eInt]
     refine Mir.useN (e := e) ?_ h
     refine Mir.seqK (Mir.region fun e h => ?_)
     simp only [↓reduceIte, reduceCtorEq, nA, nS, nM, nE, nL, nT, nB, iT, iN, iE, and_self, SR, SV, ENMB, eInt]
     refine Mir.use (e := e) ?_ h
     refine Mir.seqK (Mir.condT rfl (Mir.skip (Mir.toK (Mir.seqK (Mir.joinO (fun v320 : (List UInt8) => [U, .ptr 0 0, U, U, U, .ptr 1 0, U, U, U, U, U, U, U, U, U, U, U, U, .agg [.d (.int .i64 a0.Work.e0.X), .d (.int .i64 a0.Work.e0.Y), .d (.int .i64 a0.Work.e0.Z), .d (.int .i64 a0.Work.e1.X), .d (.int .i64 a0.Work.e1.Y), .d (.int .i64 a0.Work.e1.Z), .d (.int .i64 a0.Work.e2.X), .d (.int .i64 a0.Work.e2.Y), .d (.int .i64 a0.Work.e2.Z), .d (.int .i64 a0.Work.e3.X), .d (.int .i64 a0.Work.e3.Y), .d (.int .i64 a0.Work.e3.Z), .d (.int .i64 a0.Work.e4.X), .d (.int .i64 a0.Work.e4.Y), .d (.int .i64 a0.Work.e4.Z), .d (.int .i64 a0.Work.e5.X), .d (.int .i64 a0.Work.e5.Y), .d (.int .i64 a0.Work.e5.Z)], .d (.int .i64 1), U, U, U, U, U, U, U, U, U, U, U, U, U, U, U, U, U, U, U, U, U, U, U, U, U, U, U, U, U, U, U, U, U, U, U, U, U, U, U, U, U, U, U, U, U, U, U, U, U, U]) (fun v320 : (List UInt8) => ⟨[[.d (.int .i64 a0.Work.e0.X), .d (.int .i64 a0.Work.e0.Y), .d (.int .i64 a0.Work.e0.Z), .d (.int .i64 a0.Work.e1.X), .d (.int .i64 a0.Work.e1.Y), .d (.int .i64 a0.Work.e1.Z), .d (.int .i64 a0.Work.e2.X), .d (.int .i64 a0.Work.e2.Y), .d (.int .i64 a0.Work.e2.Z), .d (.int .i64 a0.Work.e3.X), .d (.int .i64 a0.Work.e3.Y), .d (.int .i64 a0.Work.e3.Z), .d (.int .i64 a0.Work.e4.X), .d (.int .i64 a0.Work.e4.Y), .d (.int .i64 a0.Work.e4.Z), .d (.int .i64 a0.Work.e5.X), .d (.int .i64 a0.Work.e5.Y), .d (.int .i64 a0.Work.e5.Z), .d (.list (List.map encTableLength a0.Lengths))], [.adr 1, .own 0 (List.map byteE v320)]], [(5, v320.length)]⟩) (fun _ => rfl) ?_ ?_)))))
     ·refine Mir.block (Mir.seqK (Mir.region fun e h => ?_))
      simp only [↓reduceIte, reduceCtorEq, nA, nS, nM, nE, nL, nT, nB, iT, iN, iE, and_self, SR, SV, und_24, sz_23, ag_23, zero_23, ENMB, eInt]
      refine Mir.use (e := e) ?_ h
      refine Mir.seqK (Mir.seqK (Mir.region fun e h => ?_))
      simp only [↓reduceIte, reduceCtorEq, nA, nS, nM, nE, nL, nT, nB, iT, iN, iE, and_self, SR, SV, ag_23, sz_23, zero_23, pl_23, gE_23, ENMB, eInt]
      refine Mir.use (e := e) ?_ h
      refine Mir.cond rfl (fun hb635 => ?_) (fun hb635 => ?_)
      ·refine Mir.exit fun e h => ?_
       cases h
       simp only [↓reduceIte, reduceCtorEq, nA, nE, nL, and_self, and_true, true_and, SL, ENMB, eInt, Tryd.results23]
      ·refine Mir.skip (Mir.toK (Mir.seqK (Mir.bind fun y321 hy636 => Mir.guard fun q637 => ?_)))
       replace q637 := okStr_ok q637
       try simp only [lm, xNA, xCA, xAN, xLC, xLN, xAC, xAL, nA, Nat.zero_add] at q637
       refine Mir.guard fun q638 => Mir.region fun e h => ?_
       simp only [↓reduceIte, reduceCtorEq, nA, nS, nM, nE, nL, nT, nB, iT, iN, iE, and_self, SR, SV, (nr rfl : IntKind.i64.wrap (54 + 1) = 55), ENMB, eInt]
       refine SpecS.by (strconv_Itoa_spec hy636) (by simp only [↓reduceIte, reduceCtorEq, nA, nE, nL, and_self, and_true, true_and, SL, ENMB, eInt]) ?_
       simp only [↓reduceIte, reduceCtorEq, nA, nS, nM, nE, nL, nT, nB, iT, iN, iE, and_self, SR, SV, q637, ENMB, eInt]
       refine specS_wsN (n := (v291 ++ ([119, 111, 114, 107, 32, 71] ++ y321)).length) rfl (lns_at (by simp only [List.length_map, List.length_append, List.length_nil, List.length_cons, List.map_nil, List.map_cons, xOS, xON] <;> omega)) (ok2 q638 (by simp only [List.length_map, List.length_append, List.length_nil, List.length_cons, List.map_nil, List.map_cons, xOS, xON] <;> omega) rfl) (by simp only [List.length_map, List.length_append, List.length_nil, List.length_cons, List.map_nil, List.map_cons, xOS, xON] <;> omega) ?_
       simp only [↓reduceIte, reduceCtorEq, nA, nS, nM, nE, nL, nT, nB, iT, iN, iE, and_self, SR, SV, ENMB, eInt]
       refine Mir.use (e := e) ?_ h
       refine Mir.seqK (Mir.seqK (Mir.region fun e h => ?_))
       simp only [↓reduceIte, reduceCtorEq, nA, nS, nM, nE, nL, nT, nB, iT, iN, iE, and_self, SR, SV, fld_23_0, sz_2, ag_2, fld_23_1, fld_23_2, und_82, zero_2, (nr rfl : okLen 3 = true), (nr rfl : ((3 : Nat) : Int) = 3), ENMB, eInt]
       refine Mir.use (e := e) ?_ h
       refine Mir.joinO (fun v328 : (List UInt8) => [U, .ptr 0 0, U, U, U, .ptr 1 0, U, U, U, U, U, U, U, U, U, U, U, U, .agg [.d (.int .i64 a0.Work.e0.X), .d (.int .i64 a0.Work.e0.Y), .d (.int .i64 a0.Work.e0.Z), .d (.int .i64 a0.Work.e1.X), .d (.int .i64 a0.Work.e1.Y), .d (.int .i64 a0.Work.e1.Z), .d (.int .i64 a0.Work.e2.X), .d (.int .i64 a0.Work.e2.Y), .d (.int .i64 a0.Work.e2.Z), .d (.int .i64 a0.Work.e3.X), .d (.int .i64 a0.Work.e3.Y), .d (.int .i64 a0.Work.e3.Z), .d (.int .i64 a0.Work.e4.X), .d (.int .i64 a0.Work.e4.Y), .d (.int .i64 a0.Work.e4.Z), .d (.int .i64 a0.Work.e5.X), .d (.int .i64 a0.Work.e5.Y), .d (.int .i64 a0.Work.e5.Z)], .d (.int .i64 1), U, U, U, U, U, U, U, U, U, U, U, U, U, U, U, U, U, U, U, U, U, U, U, U, U, U, U, U, U, U, U, U, U, U, U, U, U, U, U, U, U, U, U, U, U, U, U, U, U, U]) (fun v328 : (List UInt8) => ⟨[[.d (.int .i64 a0.Work.e0.X), .d (.int .i64 a0.Work.e0.Y), .d (.int .i64 a0.Work.e0.Z), .d (.int .i64 a0.Work.e1.X), .d (.int .i64 a0.Work.e1.Y), .d (.int .i64 a0.Work.e1.Z), .d (.int .i64 a0.Work.e2.X), .d (.int .i64 a0.Work.e2.Y), .d (.int .i64 a0.Work.e2.Z), .d (.int .i64 a0.Work.e3.X), .d (.int .i64 a0.Work.e3.Y), .d (.int .i64 a0.Work.e3.Z), .d (.int .i64 a0.Work.e4.X), .d (.int .i64 a0.Work.e4.Y), .d (.int .i64 a0.Work.e4.Z), .d (.int .i64 a0.Work.e5.X), .d (.int .i64 a0.Work.e5.Y), .d (.int .i64 a0.Work.e5.Z), .d (.list (List.map encTableLength a0.Lengths))], [.adr 1, .own 0 (List.map byteE v328)], [.d (.int .i64 a0.Work.e1.X), .d (.int .i64 a0.Work.e1.Y), .d (.int .i64 a0.Work.e1.Z)]], [(5, v328.length)]⟩) (fun _ => rfl) ?_ ?_
       ·refine Mir.block (Mir.loopR 15 (Mir.seqK (Mir.region fun e h => ?_)))
        simp only [↓reduceIte, reduceCtorEq, nA, nS, nM, nE, nL, nT, nB, iT, iN, iE, and_self, SR, SV, ENMB, eInt]
        refine Mir.use (e := e) ?_ h
        refine Mir.seqK (Mir.condT rfl (Mir.skip (Mir.toK (Mir.seqK (Mir.block (Mir.seqK (Mir.region fun e h => ?_)))))))
        simp only [↓reduceIte, reduceCtorEq, nA, nS, nM, nE, nL, nT, nB, iT, iN, iE, and_self, SR, SV, und_82, sz_2, ag_2, ENMB, eInt]
        refine Mir.use (e := e) ?_ h
        refine Mir.bind fun y330 hy660 => Mir.guard fun q661 => ?_
        replace q661 := okStr_ok q661
        try simp only [lm, xNA, xCA, xAN, xLC, xLN, xAC, xAL, nA, Nat.zero_add] at q661
        refine Mir.guard fun q662 => Mir.region fun e h => ?_
        simp only [↓reduceIte, reduceCtorEq, nA, nS, nM, nE, nL, nT, nB, iT, iN, iE, and_self, SR, SV, ENMB, eInt]
        refine SpecS.by (dc_Millimetres_spec hy660) (by simp only [↓reduceIte, reduceCtorEq, nA, nE, nL, and_self, and_true, true_and, SL, ENMB, eInt]) ?_
        simp only [↓reduceIte, reduceCtorEq, nA, nS, nM, nE, nL, nT, nB, iT, iN, iE, and_self, SR, SV, q661, ENMB, eInt]
        refine specS_wsN (n := (v291 ++ ([119, 111, 114, 107, 32, 71] ++ y321) ++ ([32] ++ y330)).length) rfl (lns_at (by simp only [List.length_map, List.length_append, List.length_nil, List.length_cons, List.map_nil, List.map_cons, xOS, xON] <;> omega)) (ok2 q662 (by simp only [List.length_map, List.length_append, List.length_nil, List.length_cons, List.map_nil, List.map_cons, xOS, xON] <;> omega) rfl) (by simp only [List.length_map, List.length_append, List.length_nil, List.length_cons, List.map_nil, List.map_cons, xOS, xON] <;> omega) ?_
        simp only [↓reduceIte, reduceCtorEq, nA, nS, nM, nE, nL, nT, nB, iT, iN, iE, and_self, SR, SV, ENMB, eInt]
        refine Mir.use (e := e) ?_ h
        refine Mir.region fun e h => ?_
        simp only [↓reduceIte, reduceCtorEq, nA, nS, nM, nE, nL, nT, nB, iT, iN, iE, and_self, SR, SV, (nr rfl : IntKind.i64.wrap (0 + 1) = 1), ENMB, eInt]
        refine Mir.useN (e := e) ?_ h
        refine Mir.seqK (Mir.region fun e h => ?_)
        simp only [↓reduceIte, reduceCtorEq, nA, nS, nM, nE, nL, nT, nB, iT, iN, iE, and_self, SR, SV, ENMB, eInt]
        refine Mir.use (e := e) ?_ h
        refine Mir.seqK (Mir.condT rfl (Mir.skip (Mir.toK (Mir.seqK (Mir.block (Mir.seqK (Mir.region fun e h => ?_)))))))
        simp only [↓reduceIte, reduceCtorEq, nA, nS, nM, nE, nL, nT, nB, iT, iN, iE, and_self, SR, SV, und_82, sz_2, ag_2, ENMB, eInt]
        refine Mir.use (e := e) ?_ h
        refine Mir.bind fun y332 hy666 => Mir.guard fun q667 => ?_
        replace q667 := okStr_ok q667
        try simp only [lm, xNA, xCA, xAN, xLC, xLN, xAC, xAL, nA, Nat.zero_add] at q667
        refine Mir.guard fun q668 => Mir.region fun e h => ?_
        simp only [↓reduceIte, reduceCtorEq, nA, nS, nM, nE, nL, nT, nB, iT, iN, iE, and_self, SR, SV, ENMB, eInt]
        refine SpecS.by (dc_Millimetres_spec hy666) (by simp only [↓reduceIte, reduceCtorEq, nA, nE, nL, and_self, and_true, true_and, SL, ENMB, eInt]) ?_
        simp only [↓reduceIte, reduceCtorEq, nA, nS, nM, nE, nL, nT, nB, iT, iN, iE, and_self, SR, SV, q667, ENMB, eInt]
        refine specS_wsN (n := (v291 ++ ([119, 111, 114, 107, 32, 71] ++ y321) ++ ([32] ++ y330) ++ ([32] ++ y332)).length) rfl (lns_at (by simp only [List.length_map, List.length_append, List.length_nil, List.length_cons, List.map_nil, List.map_cons, xOS, xON] <;> omega)) (ok2 q668 (by simp only [List.length_map, List.length_append, List.length_nil, List.length_cons, List.map_nil, List.map_cons, xOS, xON] <;> omega) rfl) (by simp only [List.length_map, List.length_append, List.length_nil, List.length_cons, List.map_nil, List.map_cons, xOS, xON] <;> omega) ?_
        simp only [↓reduceIte, reduceCtorEq, nA, nS, nM, nE, nL, nT, nB, iT, iN, iE, and_self, SR, SV, ENMB, eInt]
        refine Mir.use (e := e) ?_ h
        refine Mir.region fun e h => ?_
        simp only [↓reduceIte, reduceCtorEq, nA, nS, nM, nE, nL, nT, nB, iT, iN, iE, and_self, SR, SV, (nr rfl : IntKind.i64.wrap (1 + 1) = 2), ENMB, eInt]
        refine Mir.useN (e := e) ?_ h
        refine Mir.seqK (Mir.region fun e h => ?_)
        simp only [↓reduceIte, reduceCtorEq, nA, nS, nM, nE, nL, nT, nB, iT, iN, iE, and_self, SR, SV, ENMB, eInt]
        refine Mir.use (e := e) ?_ h
        refine Mir.seqK (Mir.condT rfl (Mir.skip (Mir.toK (Mir.seqK (Mir.block (Mir.seqK (Mir.region fun e h => ?_)))))))
        simp only [↓reduceIte, reduceCtorEq, nA, nS, nM, nE, nL, nT, nB, iT, iN, iE, and_self, SR, SV, und_82, sz_2, ag_2, ENMB, eInt]
        refine Mir.use (e := e) ?_ h
        refine Mir.bind fun y334 hy672 => Mir.guard fun q673 => ?_
        replace q673 := okStr_ok q673
        try simp only [lm, xNA, xCA, xAN, xLC, xLN, xAC, xAL, nA, Nat.zero_add] at q673
        refine Mir.guard fun q674 => Mir.region fun e h => ?_
        simp only [↓reduceIte, reduceCtorEq, nA, nS, nM, nE, nL, nT, nB, iT, iN, iE, and_self, SR, SV, ENMB, eInt]
        refine SpecS.by (dc_Millimetres_spec hy672) (by simp only [↓reduceIte, reduceCtorEq, nA, nE, nL, and_self, and_true, true_and, SL, ENMB, eInt]) ?_
        simp only [↓reduceIte, reduceCtorEq, nA, nS, nM, nE, nL, nT, nB, iT, iN, iE, and_self, SR, SV, q673, ENMB, eInt]
        refine specS_wsN (n := (v291 ++ ([119, 111, 114, 107, 32, 71] ++ y321) ++ ([32] ++ y330) ++ ([32] ++ y332) ++ ([32] ++ y334)).length) rfl (lns_at (by simp only [List.length_map, List.length_append, List.length_nil, List.length_cons, List.map_nil, List.map_cons, xOS, xON] <;> omega)) (ok2 q674 (by simp only [List.length_map, List.length_append, List.length_nil, List.length_cons, List.map_nil, List.map_cons, xOS, xON] <;> omega) rfl) (by simp only [List.length_map, List.length_append, List.length_nil, List.length_cons, List.map_nil, List.map_cons, xOS, xON] <;> omega) ?_
        simp only [↓reduceIte, reduceCtorEq, nA, nS, nM, nE, nL, nT, nB, iT, iN, iE, and_self, SR, SV, ENMB, eInt]
        refine Mir.use (e := e) ?_ h
        refine Mir.region fun e h => ?_
        simp only [↓reduceIte, reduceCtorEq, nA, nS, nM, nE, nL, nT, nB, iT, iN, iE, and_self, SR, SV, (nr rfl : IntKind.i64.wrap (2 + 1) = 3), ENMB, eInt]
        refine Mir.useN (e := e) ?_ h
        refine Mir.seqK (Mir.region fun e h => ?_)
        simp only [↓reduceIte, reduceCtorEq, nA, nS, nM, nE, nL, nT, nB, iT, iN, iE, and_self, SR, SV, ENMB, eInt]
        refine Mir.use (e := e) ?_ h
        refine Mir.seqK (Mir.condF rfl (Mir.exit fun e h => ?_))
        cases h
        simp only [↓reduceIte, reduceCtorEq, nA, nE, nL, and_self, and_true, true_and, SL, ENMB, eInt, Tryd.results23]
       ·intro v328
        refine Mir.toK (Mir.guard fun q675 => Mir.region fun e h => ?_)
        simp only [↓reduceIte, reduceCtorEq, nA, nS, nM, nE, nL, nT, nB, iT, iN, iE, and_self, SR, SV, ENMB, eInt]
        refine specS_wbN (b := 10) (n := (v328 ++ [10]).length) rfl rfl (lns_at (by simp only [List.length_map, List.length_append, List.length_nil, List.length_cons, List.map_nil, List.map_cons, xOS, xON] <;> omega)) (ok2 q675 (by simp only [List.length_map, List.length_append, List.length_nil, List.length_cons, List.map_nil, List.map_cons, xOS, xON] <;> omega) rfl) (by simp only [List.length_map, List.length_append, List.length_nil, List.length_cons, List.map_nil, List.map_cons, xOS, xON] <;> omega) ?_
        simp only [↓reduceIte, reduceCtorEq, nA, nS, nM, nE, nL, nT, nB, iT, iN, iE, and_self, SR, SV, ENMB, eInt]
        cases h
        simp only [↓reduceIte, reduceCtorEq, nA, nE, nL, and_self, and_true, true_and, SL, ENMB, eInt, Tryd.results23]
     ·intro v320
      refine Mir.toK (Mir.region fun e h => ?_)
      simp only [↓reduceIte, reduceCtorEq, nA, nS, nM, nE, nL, nT, nB, iT, iN, iE, and_self, SR, SV, (nr rfl : IntKind.i64.wrap (1 + 1) = 2), ENMB, eInt]
      refine Mir.useN (e := e) ?_ h
      refine Mir.seqK (Mir.region fun e h => ?_)
      simp only [↓reduceIte, reduceCtorEq, nA, nS, nM, nE, nL, nT, nB, iT, iN, iE, and_self, SR, SV, ENMB, eInt]
      refine Mir.use (e := e) ?_ h
      refine Mir.seqK (Mir.condT rfl (Mir.skip (Mir.toK (Mir.seqK (Mir.joinO (fun v349 : (List UInt8) => [U, .ptr 0 0, U, U, U, .ptr 1 0, U, U, U, U, U, U, U, U, U, U, U, U, .agg [.d (.int .i64 a0.Work.e0.X), .d (.int .i64 a0.Work.e0.Y), .d (.int .i64 a0.Work.e0.Z), .d (.int .i64 a0.Work.e1.X), .d (.int .i64 a0.Work.e1.Y), .d (.int .i64 a0.Work.e1.Z), .d (.int .i64 a0.Work.e2.X), .d (.int .i64 a0.Work.e2.Y), .d (.int .i64 a0.Work.e2.Z), .d (.int .i64 a0.Work.e3.X), .d (.int .i64 a0.Work.e3.Y), .d (.int .i64 a0.Work.e3.Z), .d (.int .i64 a0.Work.e4.X), .d (.int .i64 a0.Work.e4.Y), .d (.int .i64 a0.Work.e4.Z), .d (.int .i64 a0.Work.e5.X), .d (.int .i64 a0.Work.e5.Y), .d (.int .i64 a0.Work.e5.Z)], .d (.int .i64 2), U, U, U, U, U, U, U, U, U, U, U, U, U, U, U, U, U, U, U, U, U, U, U, U, U, U, U, U, U, U, U, U, U, U, U, U, U, U, U, U, U, U, U, U, U, U, U, U, U, U]) (fun v349 : (List UInt8) => ⟨[[.d (.int .i64 a0.Work.e0.X), .d (.int .i64 a0.Work.e0.Y), .d (.int .i64 a0.Work.e0.Z), .d (.int .i64 a0.Work.e1.X), .d (.int .i64 a0.Work.e1.Y), .d (.int .i64 a0.Work.e1.Z), .d (.int .i64 a0.Work.e2.X), .d (.int .i64 a0.Work.e2.Y), .d (.int .i64 a0.Work.e2.Z), .d (.int .i64 a0.Work.e3.X), .d (.int .i64 a0.Work.e3.Y), .d (.int .i64 a0.Work.e3.Z), .d (.int .i64 a0.Work.e4.X), .d (.int .i64 a0.Work.e4.Y), .d (.int .i64 a0.Work.e4.Z), .d (.int .i64 a0.Work.e5.X), .d (.int .i64 a0.Work.e5.Y), .d (.int .i64 a0.Work.e5.Z), .d (.list (List.map encTableLength a0.Lengths))], [.adr 1, .own 0 (List.map byteE v349)]], [(5, v349.length)]⟩) (fun _ => rfl) ?_ ?_)))))
      ·refine Mir.block (Mir.seqK (Mir.region fun e h => ?_))
       simp only [↓reduceIte, reduceCtorEq, nA, nS, nM, nE, nL, nT, nB, iT, iN, iE, and_self, SR, SV, und_24, sz_23, ag_23, zero_23, ENMB, eInt]
       refine Mir.use (e := e) ?_ h
       refine Mir.seqK (Mir.seqK (Mir.region fun e h => ?_))
       simp only [↓reduceIte, reduceCtorEq, nA, nS, nM, nE, nL, nT, nB, iT, iN, iE, and_self, SR, SV, ag_23, sz_23, zero_23, pl_23, gE_23, ENMB, eInt]
       refine Mir.use (e := e) ?_ h
       refine Mir.cond rfl (fun hb719 => ?_) (fun hb719 => ?_)
       ·refine Mir.exit fun e h => ?_
        cases h
        simp only [↓reduceIte, reduceCtorEq, nA, nE, nL, and_self, and_true, true_and, SL, ENMB, eInt, Tryd.results23]
       ·refine Mir.skip (Mir.toK (Mir.seqK (Mir.bind fun y350 hy720 => Mir.guard fun q721 => ?_)))
        replace q721 := okStr_ok q721
        try simp only [lm, xNA, xCA, xAN, xLC, xLN, xAC, xAL, nA, Nat.zero_add] at q721
        refine Mir.guard fun q722 => Mir.region fun e h => ?_
        simp only [↓reduceIte, reduceCtorEq, nA, nS, nM, nE, nL, nT, nB, iT, iN, iE, and_self, SR, SV, (nr rfl : IntKind.i64.wrap (54 + 2) = 56), ENMB, eInt]
        refine SpecS.by (strconv_Itoa_spec hy720) (by simp only [↓reduceIte, reduceCtorEq, nA, nE, nL, and_self, and_true, true_and, SL, ENMB, eInt]) ?_
        simp only [↓reduceIte, reduceCtorEq, nA, nS, nM, nE, nL, nT, nB, iT, iN, iE, and_self, SR, SV, q721, ENMB, eInt]
        refine specS_wsN (n := (v320 ++ ([119, 111, 114, 107, 32, 71] ++ y350)).length) rfl (lns_at (by simp only [List.length_map, List.length_append, List.length_nil, List.length_cons, List.map_nil, List.map_cons, xOS, xON] <;> omega)) (ok2 q722 (by simp only [List.length_map, List.length_append, List.length_nil, List.length_cons, List.map_nil, List.map_cons, xOS, xON] <;> omega) rfl) (by simp only [List.length_map, List.length_append, List.length_nil, List.length_cons, List.map_nil, List.map_cons, xOS, xON] <;> omega) ?_
        simp only [↓reduceIte, reduceCtorEq, nA, nS, nM, nE, nL, nT, nB, iT, iN, iE, and_self, SR, SV, ENMB, eInt]
        refine Mir.use (e := e) ?_ h
        refine Mir.seqK (Mir.seqK (Mir.region fun e h => ?_))
        simp only [↓reduceIte, reduceCtorEq, nA, nS, nM, nE, nL, nT, nB, iT, iN, iE, and_self, SR, SV, fld_23_0, sz_2, ag_2, fld_23_1, fld_23_2, und_82, zero_2, (nr rfl : okLen 3 = true), (nr rfl : ((3 : Nat) : Int) = 3), ENMB, eInt]
        refine Mir.use (e := e) ?_ h
        refine Mir.joinO (fun v357 : (List UInt8) => [U, .ptr 0 0, U, U, U, .ptr 1 0, U, U, U, U, U, U, U, U, U, U, U, U, .agg [.d (.int .i64 a0.Work.e0.X), .d (.int .i64 a0.Work.e0.Y), .d (.int .i64 a0.Work.e0.Z), .d (.int .i64 a0.Work.e1.X), .d (.int .i64 a0.Work.e1.Y), .d (.int .i64 a0.Work.e1.Z), .d (.int .i64 a0.Work.e2.X), .d (.int .i64 a0.Work.e2.Y), .d (.int .i64 a0.Work.e2.Z), .d (.int .i64 a0.Work.e3.X), .d (.int .i64 a0.Work.e3.Y), .d (.int .i64 a0.Work.e3.Z), .d (.int .i64 a0.Work.e4.X), .d (.int .i64 a0.Work.e4.Y), .d (.int .i64 a0.Work.e4.Z), .d (.int .i64 a0.Work.e5.X), .d (.int .i64 a0.Work.e5.Y), .d (.int .i64 a0.Work.e5.Z)], .d (.int .i64 2), U, U, U, U, U, U, U, U, U, U, U, U, U, U, U, U, U, U, U, U, U, U, U, U, U, U, U, U, U, U, U, U, U, U, U, U, U, U, U, U, U, U, U, U, U, U, U, U, U, U]) (fun v357 : (List UInt8) => ⟨[[.d (.int .i64 a0.Work.e0.X), .d (.int .i64 a0.Work.e0.Y), .d (.int .i64 a0.Work.e0.Z), .d (.int .i64 a0.Work.e1.X), .d (.int .i64 a0.Work.e1.Y), .d (.int .i64 a0.Work.e1.Z), .d (.int .i64 a0.Work.e2.X), .d (.int .i64 a0.Work.e2.Y), .d (.int .i64 a0.Work.e2.Z), .d (.int .i64 a0.Work.e3.X), .d (.int .i64 a0.Work.e3.Y), .d (.int .i64 a0.Work.e3.Z), .d (.int .i64 a0.Work.e4.X), .d (.int .i64 a0.Work.e4.Y), .d (.int .i64 a0.Work.e4.Z), .d (.int .i64 a0.Work.e5.X), .d (.int .i64 a0.Work.e5.Y), .d (.int .i64 a0.Work.e5.Z), .d (.list (List.map encTableLength a0.Lengths))], [.adr 1, .own 0 (List.map byteE v357)], [.d (.int .i64 a0.Work.e2.X), .d (.int .i64 a0.Work.e2.Y), .d (.int .i64 a0.Work.e2.Z)]], [(5, v357.length)]⟩) (fun _ => rfl) ?_ ?_
        ·refine Mir.block (Mir.loopR 15 (Mir.seqK (Mir.region fun e h => ?_)))
         simp only [↓reduceIte, reduceCtorEq, nA, nS, nM, nE, nL, nT, nB, iT, iN, iE, and_self, SR, SV, ENMB, eInt]
         refine Mir.use (e := e) ?_ h
         refine Mir.seqK (Mir.condT rfl (Mir.skip (Mir.toK (Mir.seqK (Mir.block (Mir.seqK (Mir.region fun e h => ?_)))))))
         simp only [↓reduceIte, reduceCtorEq, nA, nS, nM, nE, nL, nT, nB, iT, iN, iE, and_self, SR, SV, und_82, sz_2, ag_2, ENMB, eInt]
         refine Mir.use (e := e) ?_ h
         refine Mir.bind fun y359 hy744 => Mir.guard fun q745 => ?_
         replace q745 := okStr_ok q745
         try simp only [lm, xNA, xCA, xAN, xLC, xLN, xAC, xAL, nA, Nat.zero_add] at q745
         refine Mir.guard fun q746 => Mir.region fun e h => ?_
         simp only [↓reduceIte, reduceCtorEq, nA, nS, nM, nE, nL, nT, nB, iT, iN, iE, and_self, SR, SV, ENMB, eInt]
         refine SpecS.by (dc_Millimetres_spec hy744) (by simp only [↓reduceIte, reduceCtorEq, nA, nE, nL, and_self, and_true, true_and, SL, ENMB, eInt]) ?_
         simp only [↓reduceIte, reduceCtorEq, nA, nS, nM, nE, nL, nT, nB, iT, iN, iE, and_self, SR, SV, q745, ENMB, eInt]
         refine specS_wsN (n := (v320 ++ ([119, 111, 114, 107, 32, 71] ++ y350) ++ ([32] ++ y359)).length) rfl (lns_at (by simp only [List.length_map, List.length_append, List.length_nil, List.length_cons, List.map_nil, List.map_cons, xOS, xON] <;> omega)) (ok2 q746 (by simp only [List.length_map, List.length_append, List.length_nil, List.length_cons, List.map_nil, List.map_cons, xOS, xON] <;> omega) rfl) (by simp only [List.length_map, List.length_append, List.length_nil, List.length_cons, List.map_nil, List.map_cons, xOS, xON] <;> omega) ?_
         simp only [↓reduceIte, reduceCtorEq, nA, nS, nM, nE, nL, nT, nB, iT, iN, iE, and_self, SR, SV, ENMB, eInt]
         refine Mir.use (e := e) ?_ h
         refine Mir.region fun e h => ?_
         simp only [↓reduceIte, reduceCtorEq, nA, nS, nM, nE, nL, nT, nB, iT, iN, iE, and_self, SR, SV, (nr rfl : IntKind.i64.wrap (0 + 1) = 1), ENMB, eInt]
         refine Mir.useN (e := e) ?_ h
         refine Mir.seqK (Mir.region fun e h => ?_)
         simp only [↓reduceIte, reduceCtorEq, nA, nS, nM, nE, nL, nT, nB, iT, iN, iE, and_self, SR, SV, ENMB, eInt]
         refine Mir.use (e := e) ?_ h
         refine Mir.seqK (Mir.condT rfl (Mir.skip (Mir.toK (Mir.seqK (Mir.block (Mir.seqK (Mir.region fun e h => ?_)))))))
         simp only [↓reduceIte, reduceCtorEq, nA, nS, nM, nE, nL, nT, nB, iT, iN, iE, and_self, SR, SV, und_82, sz_2, ag_2, ENMB, eInt]
         refine Mir.use (e := e) ?_ h
         refine Mir.bind fun y361 hy750 => Mir.guard fun q751 => ?_
         replace q751 := okStr_ok q751
         try simp only [lm, xNA, xCA, xAN, xLC, xLN, xAC, xAL, nA, Nat.zero_add] at q751
         refine Mir.guard fun q752 => Mir.region fun e h => ?_
         simp only [↓reduceIte, reduceCtorEq, nA, nS, nM, nE, nL, nT, nB, iT, iN, iE, and_self, SR, SV, ENMB, eInt]
         refine SpecS.by (dc_Millimetres_spec hy750) (by simp only [↓reduceIte, reduceCtorEq, nA, nE, nL, and_self, and_true, true_and, SL, ENMB, eInt]) ?_
         simp only [↓reduceIte, reduceCtorEq, nA, nS, nM, nE, nL, nT, nB, iT, iN, iE, and_self, SR, SV, q751, ENMB, eInt]
         refine specS_wsN (n := (v320 ++ ([119, 111, 114, 107, 32, 71] ++ y350) ++ ([32] ++ y359) ++ ([32] ++ y361)).length) rfl (lns_at (by simp only [List.length_map, List.length_append, List.length_nil, List.length_cons, List.map_nil, List.map_cons, xOS, xON] <;> omega)) (ok2 q752 (by simp only [List.length_map, List.length_append, List.length_nil, List.length_cons, List.map_nil, List.map_cons, xOS, xON] <;> omega) rfl) (by simp only [List.length_map, List.length_append, List.length_nil, List.length_cons, List.map_nil, List.map_cons, xOS, xON] <;> omega) ?_
         simp only [↓reduceIte, reduceCtorEq, nA, nS, nM, nE, nL, nT, nB, iT, iN, iE, and_self, SR, SV, ENMB, eInt]
         refine Mir.use (e := e) ?_ h
         refine Mir.region fun e h => ?_
         simp only [↓reduceIte, reduceCtorEq, nA, nS, nM, nE, nL, nT, nB, iT, iN, iE, and_self, SR, SV, (nr rfl : IntKind.i64.wrap (1 + 1) = 2), ENMB, eInt]
         refine Mir.useN (e := e) ?_ h
         refine Mir.seqK (Mir.region fun e h => ?_)
         simp only [↓reduceIte, reduceCtorEq, nA, nS, nM, nE, nL, nT, nB, iT, iN, iE, and_self, SR, SV, ENMB, eInt]
         refine Mir.use (e := e) ?_ h
         refine Mir.seqK (Mir.condT rfl (Mir.skip (Mir.toK (Mir.seqK (Mir.block (Mir.seqK (Mir.region fun e h => ?_)))))))
         simp only [↓reduceIte, reduceCtorEq, nA, nS, nM, nE, nL, nT, nB, iT, iN, iE, and_self, SR, SV, und_82, sz_2, ag_2, ENMB, eInt]
         refine Mir.use (e := e) ?_ h
         refine Mir.bind fun y363 hy756 => Mir.guard fun q757 => ?_
         replace q757 := okStr_ok q757
         try simp only [lm, xNA, xCA, xAN, xLC, xLN, xAC, xAL, nA, Nat.zero_add] at q757
         refine Mir.guard fun q758 => Mir.region fun e h => ?_
         simp only [↓reduceIte, reduceCtorEq, nA, nS, nM, nE, nL, nT, nB, iT, iN, iE, and_self, SR, SV, ENMB, eInt]
         refine SpecS.by (dc_Millimetres_spec hy756) (by simp only [↓reduceIte, reduceCtorEq, nA, nE, nL, and_self, and_true, true_and, SL, ENMB, eInt]) ?_
         simp only [↓reduceIte, reduceCtorEq, nA, nS, nM, nE, nL, nT, nB, iT, iN, iE, and_self, SR, SV, q757, ENMB, eInt]
         refine specS_wsN (n := (v320 ++ ([119, 111, 114, 107, 32, 71] ++ y350) ++ ([32] ++ y359) ++ ([32] ++ y361) ++ ([32] ++ y363)).length) rfl (lns_at (by simp only [List.length_map, List.length_append, List.length_nil, List.length_cons, List.map_nil, List.map_cons, xOS, xON] <;> omega)) (ok2 q758 (by simp only [List.length_map, List.length_append, List.length_nil, List.length_cons, List.map_nil, List.map_cons, xOS, xON] <;> omega) rfl) (by simp only [List.length_map, List.length_append, List.length_nil, List.length_cons, List.map_nil, List.map_cons, xOS, xON] <;> omega) ?_
         simp only [↓reduceIte, reduceCtorEq, nA, nS, nM, nE, nL, nT, nB, iT, iN, iE, and_self, SR, SV, ENMB, eInt]
         refine Mir.use (e := e) ?_ h
         refine Mir.region fun e h => ?_
         simp only [↓reduceIte, reduceCtorEq, nA, nS, nM, nE, nL, nT, nB, iT, iN, iE, and_self, SR, SV, (nr rfl : IntKind.i64.wrap (2 + 1) = 3), ENMB, eInt]
         refine Mir.useN (e := e) ?_ h
         refine Mir.seqK (Mir.region fun e h => ?_)
         simp only [↓reduceIte, reduceCtorEq, nA, nS, nM, nE, nL, nT, nB, iT, iN, iE, and_self, SR, SV, ENMB, eInt]
         refine Mir.use (e := e) ?_ h
         refine Mir.seqK (Mir.condF rfl (Mir.exit fun e h => ?_))
         cases h
         simp only [↓reduceIte, reduceCtorEq, nA, nE, nL, and_self, and_true, true_and, SL, ENMB, eInt, Tryd.results23]
        ·intro v357
         refine Mir.toK (Mir.guard fun q759 => Mir.region fun e h => ?_)
         simp only [↓reduceIte, reduceCtorEq, nA, nS, nM, nE, nL, nT, nB, iT, iN, iE, and_self, SR, SV, ENMB, eInt]
         refine specS_wbN (b := 10) (n := (v357 ++ [10]).length) rfl rfl (lns_at (by simp only [List.length_map, List.length_append, List.length_nil, List.length_cons, List.map_nil, List.map_cons, xOS, xON] <;> omega)) (ok2 q759 (by simp only [List.length_map, List.length_append, List.length_nil, List.length_cons, List.map_nil, List.map_cons, xOS, xON] <;> omega) rfl) (by simp only [List.length_map, List.length_append, List.length_nil, List.length_cons, List.map_nil, List.map_cons, xOS, xON] <;> omega) ?_
         simp only [↓reduceIte, reduceCtorEq, nA, nS, nM, nE, nL, nT, nB, iT, iN, iE, and_self, SR, SV, ENMB, eInt]
         cases h
         simp only [↓reduceIte, reduceCtorEq, nA, nE, nL, and_self, and_true, true_and, SL, ENMB, eInt, Tryd.results23]
      ·intro v349
       refine Mir.toK (Mir.region fun e h => ?_)
       simp only [↓reduceIte, reduceCtorEq, nA, nS, nM, nE, nL, nT, nB, iT, iN, iE, and_self, SR, SV, (nr rfl : IntKind.i64.wrap (2 + 1) = 3), ENMB, eInt]
       refine Mir.useN (e := e) ?_ h
       refine Mir.seqK (Mir.region fun e h => ?_)
       simp only [↓reduceIte, reduceCtorEq, nA, nS, nM, nE, nL, nT, nB, iT, iN, iE, and_self, SR, SV, ENMB, eInt]
       refine Mir.use (e := e) ?_ h
       refine Mir.seqK (Mir.condT rfl (Mir.skip (Mir.toK (Mir.seqK (Mir.joinO (fun v378 : (List UInt8) => [U, .ptr 0 0, U, U, U, .ptr 1 0, U, U, U, U, U, U, U, U, U, U, U, U, .agg [.d (.int .i64 a0.Work.e0.X), .d (.int .i64 a0.Work.e0.Y), .d (.int .i64 a0.Work.e0.Z), .d (.int .i64 a0.Work.e1.X), .d (.int .i64 a0.Work.e1.Y), .d (.int .i64 a0.Work.e1.Z), .d (.int .i64 a0.Work.e2.X), .d (.int .i64 a0.Work.e2.Y), .d (.int .i64 a0.Work.e2.Z), .d (.int .i64 a0.Work.e3.X), .d (.int .i64 a0.Work.e3.Y), .d (.int .i64 a0.Work.e3.Z), .d (.int .i64 a0.Work.e4.X), .d (.int .i64 a0.Work.e4.Y), .d (.int .i64 a0.Work.e4.Z), .d (.int .i64 a0.Work.e5.X), .d (.int .i64 a0.Work.e5.Y), .d (.int .i64 a0.Work.e5.Z)], .d (.int .i64 3), U, U, U, U, U, U, U, U, U, U, U, U, U, U, U, U, U, U, U, U, U, U, U, U, U, U, U, U, U, U, U, U, U, U, U, U, U, U, U, U, U, U, U, U, U, U, U, U, U, U]) (fun v378 : (List UInt8) => ⟨[[.d (.int .i64 a0.Work.e0.X), .d (.int .i64 a0.Work.e0.Y), .d (.int .i64 a0.Work.e0.Z), .d (.int .i64 a0.Work.e1.X), .d (.int .i64 a0.Work.e1.Y), .d (.int .i64 a0.Work.e1.Z), .d (.int .i64 a0.Work.e2.X), .d (.int .i64 a0.Work.e2.Y), .d (.int .i64 a0.Work.e2.Z), .d (.int .i64 a0.Work.e3.X), .d (.int .i64 a0.Work.e3.Y), .d (.int .i64 a0.Work.e3.Z), .d (.int .i64 a0.Work.e4.X), .d (.int .i64 a0.Work.e4.Y), .d (.int .i64 a0.Work.e4.Z), .d (.int .i64 a0.Work.e5.X), .d (.int .i64 a0.Work.e5.Y), .d (.int .i64 a0.Work.e5.Z), .d (.list (List.map encTableLength a0.Lengths))], [.adr 1, .own 0 (List.map byteE v378)]], [(5, v378.length)]⟩) (fun _ => rfl) ?_ ?_)))))
       ·refine Mir.block (Mir.seqK (Mir.region fun e h => ?_))
        simp only [↓reduceIte, reduceCtorEq, nA, nS, nM, nE, nL, nT, nB, iT, iN, iE, and_self, SR, SV, und_24, sz_23, ag_23, zero_23, ENMB, eInt]
        refine Mir.use (e := e) ?_ h
        refine Mir.seqK (Mir.seqK (Mir.region fun e h => ?_))
        simp only [↓reduceIte, reduceCtorEq, nA, nS, nM, nE, nL, nT, nB, iT, iN, iE, and_self, SR, SV, ag_23, sz_23, zero_23, pl_23, gE_23, ENMB, eInt]
        refine Mir.use (e := e) ?_ h
        refine Mir.cond rfl (fun hb803 => ?_) (fun hb803 => ?_)
        ·refine Mir.exit fun e h => ?_
         cases h
         simp only [↓reduceIte, reduceCtorEq, nA, nE, nL, and_self, and_true, true_and, SL, ENMB, eInt, Tryd.results23]
        ·refine Mir.skip (Mir.toK (Mir.seqK (Mir.bind fun y379 hy804 => Mir.guard fun q805 => ?_)))
         replace q805 := okStr_ok q805
         try simp only [lm, xNA, xCA, xAN, xLC, xLN, xAC, xAL, nA, Nat.zero_add] at q805
         refine Mir.guard fun q806 => Mir.region fun e h => ?_
         simp only [↓reduceIte, reduceCtorEq, nA, nS, nM, nE, nL, nT, nB, iT, iN, iE, and_self, SR, SV, (nr rfl : IntKind.i64.wrap (54 + 3) = 57), ENMB, eInt]
         refine SpecS.by (strconv_Itoa_spec hy804) (by simp only [↓reduceIte, reduceCtorEq, nA, nE, nL, and_self, and_true, true_and, SL, ENMB, eInt]) ?_
         simp only [↓reduceIte, reduceCtorEq, nA, nS, nM, nE, nL, nT, nB, iT, iN, iE, and_self, SR, SV, q805, ENMB, eInt]
         refine specS_wsN (n := (v349 ++ ([119, 111, 114, 107, 32, 71] ++ y379)).length) rfl (lns_at (by simp only [List.length_map, List.length_append, List.length_nil, List.length_cons, List.map_nil, List.map_cons, xOS, xON] <;> omega)) (ok2 q806 (by simp only [List.length_map, List.length_append, List.length_nil, List.length_cons, List.map_nil, List.map_cons, xOS, xON] <;> omega) rfl) (by simp only [List.length_map, List.length_append, List.length_nil, List.length_cons, List.map_nil, List.map_cons, xOS, xON] <;> omega) ?_
         simp only [↓reduceIte, reduceCtorEq, nA, nS, nM, nE, nL, nT, nB, iT, iN, iE, and_self, SR, SV, ENMB, eInt]
         refine Mir.use (e := e) ?_ h
         refine Mir.seqK (Mir.seqK (Mir.region fun e h => ?_))
         simp only [↓reduceIte, reduceCtorEq, nA, nS, nM, nE, nL, nT, nB, iT, iN, iE, and_self, SR, SV, fld_23_0, sz_2, ag_2, fld_23_1, fld_23_2, und_82, zero_2, (nr rfl : okLen 3 = true), (nr rfl : ((3 : Nat) : Int) = 3), ENMB, eInt]
         refine Mir.use (e := e) ?_ h
         refine Mir.joinO (fun v386 : (List UInt8) => [U, .ptr 0 0, U, U, U, .ptr 1 0, U, U, U, U, U, U, U, U, U, U, U, U, .agg [.d (.int .i64 a0.Work.e0.X), .d (.int .i64 a0.Work.e0.Y), .d (.int .i64 a0.Work.e0.Z), .d (.int .i64 a0.Work.e1.X), .d (.int .i64 a0.Work.e1.Y), .d (.int .i64 a0.Work.e1.Z), .d (.int .i64 a0.Work.e2.X), .d (.int .i64 a0.Work.e2.Y), .d (.int .i64 a0.Work.e2.Z), .d (.int .i64 a0.Work.e3.X), .d (.int .i64 a0.Work.e3.Y), .d (.int .i64 a0.Work.e3.Z), .d (.int .i64 a0.Work.e4.X), .d (.int .i64 a0.Work.e4.Y), .d (.int .i64 a0.Work.e4.Z), .d (.int .i64 a0.Work.e5.X), .d (.int .i64 a0.Work.e5.Y), .d (.int .i64 a0.Work.e5.Z)], .d (.int .i64 3), U, U, U, U, U, U, U, U, U, U, U, U, U, U, U, U, U, U, U, U, U, U, U, U, U, U, U, U, U, U, U, U, U, U, U, U, U, U, U, U, U, U, U, U, U, U, U, U, U, U]) (fun v386 : (List UInt8) => ⟨[[.d (.int .i64 a0.Work.e0.X), .d (.int .i64 a0.Work.e0.Y), .d (.int .i64 a0.Work.e0.Z), .d (.int .i64 a0.Work.e1.X), .d (.int .i64 a0.Work.e1.Y), .d (.int .i64 a0.Work.e1.Z), .d (.int .i64 a0.Work.e2.X), .d (.int .i64 a0.Work.e2.Y), .d (.int .i64 a0.Work.e2.Z), .d (.int .i64 a0.Work.e3.X), .d (.int .i64 a0.Work.e3.Y), .d (.int .i64 a0.Work.e3.Z), .d (.int .i64 a0.Work.e4.X), .d (.int .i64 a0.Work.e4.Y), .d (.int .i64 a0.Work.e4.Z), .d (.int .i64 a0.Work.e5.X), .d (.int .i64 a0.Work.e5.Y), .d (.int .i64 a0.Work.e5.Z), .d (.list (List.map encTableLength a0.Lengths))], [.adr 1, .own 0 (List.map byteE v386)], [.d (.int .i64 a0.Work.e3.X), .d (.int .i64 a0.Work.e3.Y), .d (.int .i64 a0.Work.e3.Z)]], [(5, v386.length)]⟩) (fun _ => rfl) ?_ ?_
         ·refine Mir.block (Mir.loopR 15 (Mir.seqK (Mir.region fun e h => ?_)))
          simp only [↓reduceIte, reduceCtorEq, nA, nS, nM, nE, nL, nT, nB, iT, iN, iE, and_self, SR, SV, ENMB, eInt]
          refine Mir.use (e := e) ?_ h
          refine Mir.seqK (Mir.condT rfl (Mir.skip (Mir.toK (Mir.seqK (Mir.block (Mir.seqK (Mir.region fun e h => ?_)))))))
          simp only [↓reduceIte, reduceCtorEq, nA, nS, nM, nE, nL, nT, nB, iT, iN, iE, and_self, SR, SV, und_82, sz_2, ag_2, ENMB, eInt]
          refine Mir.use (e := e) ?_ h
          refine Mir.bind fun y388 hy828 => Mir.guard fun q829 => ?_
          replace q829 := okStr_ok q829
          try simp only [lm, xNA, xCA, xAN, xLC, xLN, xAC, xAL, nA, Nat.zero_add] at q829
          refine Mir.guard fun q830 => Mir.region fun e h => ?_
          simp only [↓reduceIte, reduceCtorEq, nA, nS, nM, nE, nL, nT, nB, iT, iN, iE, and_self, SR, SV, ENMB, eInt]
          refine SpecS.by (dc_Millimetres_spec hy828) (by simp only [↓reduceIte, reduceCtorEq, nA, nE, nL, and_self, and_true, true_and, SL, ENMB, eInt]) ?_
          simp only [↓reduceIte, reduceCtorEq, nA, nS, nM, nE, nL, nT, nB, iT, iN, iE, and_self, SR, SV, q829, ENMB, eInt]
          refine specS_wsN (n := (v349 ++ ([119, 111, 114, 107, 32, 71] ++ y379) ++ ([32] ++ y388)).length) rfl (lns_at (by simp only [List.length_map, List.length_append, List.length_nil, List.length_cons, List.map_nil, List.map_cons, xOS, xON] <;> omega)) (ok2 q830 (by simp only [List.length_map, List.length_append, List.length_nil, List.length_cons, List.map_nil, List.map_cons, xOS, xON] <;> omega) rfl) (by simp only [List.length_map, List.length_append, List.length_nil, List.length_cons, List.map_nil, List.map_cons, xOS, xON] <;> omega) ?_
          simp only [↓reduceIte, reduceCtorEq, nA, nS, nM, nE, nL, nT, nB, iT, iN, iE, and_self, SR, SV, ENMB, eInt]
          refine Mir.use (e := e) ?_ h
          refine Mir.region fun e h => ?_
          simp only [↓reduceIte, reduceCtorEq, nA, nS, nM, nE, nL, nT, nB, iT, iN, iE, and_self, SR, SV, (nr rfl : IntKind.i64.wrap (0 + 1) = 1), ENMB, eInt]
          refine Mir.useN (e := e) ?_ h
          refine Mir.seqK (Mir.region fun e h => ?_)
          simp only [↓reduceIte, reduceCtorEq, nA, nS, nM, nE, nL, nT, nB, iT, iN, iE, and_self, SR, SV, ENMB, eInt]
          refine Mir.use (e := e) ?_ h
          refine Mir.seqK (Mir.condT rfl (Mir.skip (Mir.toK (Mir.seqK (Mir.block (Mir.seqK (Mir.region fun e h => ?_)))))))
          simp only [↓reduceIte, reduceCtorEq, nA, nS, nM, nE, nL, nT, nB, iT, iN, iE, and_self, SR, SV, und_82, sz_2, ag_2, ENMB, eInt]
          refine Mir.use (e := e) ?_ h
          refine Mir.bind fun y390 hy834 => Mir.guard fun q835 => ?_
          replace q835 := okStr_ok q835
          try simp only [lm, xNA, xCA, xAN, xLC, xLN, xAC, xAL, nA, Nat.zero_add] at q835
          refine Mir.guard fun q836 => Mir.region fun e h => ?_
          simp only [↓reduceIte, reduceCtorEq, nA, nS, nM, nE, nL, nT, nB, iT, iN, iE, and_self, SR, SV, ENMB, eInt]
          refine SpecS.by (dc_Millimetres_spec hy834) (by simp only [↓reduceIte, reduceCtorEq, nA, nE, nL, and_self, and_true, true_and, SL, ENMB, eInt]) ?_
          simp only [↓reduceIte, reduceCtorEq, nA, nS, nM, nE, nL, nT, nB, iT, iN, iE, and_self, SR, SV, q835, ENMB, eInt]
          refine specS_wsN (n := (v349 ++ ([119, 111, 114, 107, 32, 71] ++ y379) ++ ([32] ++ y388) ++ ([32] ++ y390)).length) rfl (lns_at (by simp only [List.length_map, List.length_append, List.length_nil, List.length_cons, List.map_nil, List.map_cons, xOS, xON] <;> omega)) (ok2 q836 (by simp only [List.length_map, List.length_append, List.length_nil, List.length_cons, List.map_nil, List.map_cons, xOS, xON] <;> omega) rfl) (by simp only [List.length_map, List.length_append, List.length_nil, List.length_cons, List.map_nil, List.map_cons, xOS, xON] <;> omega) ?_
          simp only [↓reduceIte, reduceCtorEq, nA, nS, nM, nE, nL, nT, nB, iT, iN, iE, and_self, SR, SV, ENMB, eInt]
          refine Mir.use (e := e) ?_ h
          refine Mir.region fun e h => ?_
          simp only [↓reduceIte, reduceCtorEq, nA, nS, nM, nE, nL, nT, nB, iT, iN, iE, and_self, SR, SV, (nr rfl : IntKind.i64.wrap (1 + 1) = 2), ENMB, eInt]
          refine Mir.useN (e := e) ?_ h
          refine Mir.seqK (Mir.region fun e h => ?_)
          simp only [↓reduceIte, reduceCtorEq, nA, nS, nM, nE, nL, nT, nB, iT, iN, iE, and_self, SR, SV, ENMB, eInt]
          refine Mir.use (e := e) ?_ h
          refine Mir.seqK (Mir.condT rfl (Mir.skip (Mir.toK (Mir.seqK (Mir.block (Mir.seqK (Mir.region fun e h => ?_)))))))
          simp only [↓reduceIte, reduceCtorEq, nA, nS, nM, nE, nL, nT, nB, iT, iN, iE, and_self, SR, SV, und_82, sz_2, ag_2, ENMB, eInt]
          refine Mir.use (e := e) ?_ h
          refine Mir.bind fun y392 hy840 => Mir.guard fun q841 => ?_
          replace q841 := okStr_ok q841
          try simp only [lm, xNA, xCA, xAN, xLC, xLN, xAC, xAL, nA, Nat.zero_add] at q841
          refine Mir.guard fun q842 => Mir.region fun e h => ?_
          simp only [↓reduceIte, reduceCtorEq, nA, nS, nM, nE, nL, nT, nB, iT, iN, iE, and_self, SR, SV, ENMB, eInt]
          refine SpecS.by (dc_Millimetres_spec hy840) (by simp only [↓reduceIte, reduceCtorEq, nA, nE, nL, and_self, and_true, true_and, SL, ENMB, eInt]) ?_
          simp only [↓reduceIte, reduceCtorEq, nA, nS, nM, nE, nL, nT, nB, iT, iN, iE, and_self, SR, SV, q841, ENMB, eInt]
          refine specS_wsN (n := (v349 ++ ([119, 111, 114, 107, 32, 71] ++ y379) ++ ([32] ++ y388) ++ ([32] ++ y390) ++ ([32] ++ y392)).length) rfl (lns_at (by simp only [List.length_map, List.length_append, List.length_nil, List.length_cons, List.map_nil, List.map_cons, xOS, xON] <;> omega)) (ok2 q842 (by simp only [List.length_map, List.length_append, List.length_nil, List.length_cons, List.map_nil, List.map_cons, xOS, xON] <;> omega) rfl) (by simp only [List.length_map, List.length_append, List.length_nil, List.length_cons, List.map_nil, List.map_cons, xOS, xON] <;> omega) ?_
          simp only [↓reduceIte, reduceCtorEq, nA, nS, nM, nE, nL, nT, nB, iT, iN, iE, and_self, SR, SV, ENMB, eInt]
          refine Mir.use (e := e) ?_ h
          refine Mir.region fun e h => ?_
          simp only [↓reduceIte, reduceCtorEq, nA, nS, nM, nE, nL, nT, nB, iT, iN, iE, and_self, SR, SV, (nr rfl : IntKind.i64.wrap (2 + 1) = 3), ENMB, eInt]
          refine Mir.useN (e := e) ?_ h
          refine Mir.seqK (Mir.region fun e h => ?_)
          simp only [↓reduceIte, reduceCtorEq, nA, nS, nM, nE, nL, nT, nB, iT, iN, iE, and_self, SR, SV, ENMB, eInt]
          refine Mir.use (e := e) ?_ h
          refine Mir.seqK (Mir.condF rfl (Mir.exit fun e h => ?_))
          cases h
          simp only [↓reduceIte, reduceCtorEq, nA, nE, nL, and_self, and_true, true_and, SL, ENMB, eInt, Tryd.results23]
         ·intro v386
          refine Mir.toK (Mir.guard fun q843 => Mir.region fun e h => ?_)
          simp only [↓reduceIte, reduceCtorEq, nA, nS, nM, nE, nL, nT, nB, iT, iN, iE, and_self, SR, SV, ENMB, eInt]
          refine specS_wbN (b := 10) (n := (v386 ++ [10]).length) rfl rfl (lns_at (by simp only [List.length_map, List.length_append, List.length_nil, List.length_cons, List.map_nil, List.map_cons, xOS, xON] <;> omega)) (ok2 q843 (by simp only [List.length_map, List.length_append, List.length_nil, List.length_cons, List.map_nil, List.map_cons, xOS, xON] <;> omega) rfl) (by simp only [List.length_map, List.length_append, List.length_nil, List.length_cons, List.map_nil, List.map_cons, xOS, xON] <;> omega) ?_
          simp only [↓reduceIte, reduceCtorEq, nA, nS, nM, nE, nL, nT, nB, iT, iN, iE, and_self, SR, SV, ENMB, eInt]
          cases h
          simp only [↓reduceIte, reduceCtorEq, nA, nE, nL, and_self, and_true, true_and, SL, ENMB, eInt, Tryd.results23]
       ·intro v378
        refine Mir.toK (Mir.region fun e h => ?_)
        simp only [↓reduceIte, reduceCtorEq, nA, nS, nM, nE, nL, nT, nB, iT, iN, iE, and_self, SR, SV, (nr rfl : IntKind.i64.wrap (3 + 1) = 4), ENMB, eInt]
        refine Mir.useN (e := e) ?_ h
        refine Mir.seqK (Mir.region fun e h => ?_)
        simp only [↓reduceIte, reduceCtorEq, nA, nS, nM, nE, nL, nT, nB, iT, iN, iE, and_self, SR, SV, ENMB, eInt]
        refine Mir.use (e := e) ?_ h
        refine Mir.seqK (Mir.condT rfl (Mir.skip (Mir.toK (Mir.seqK (Mir.joinO (fun v407 : (List UInt8) => [U, .ptr 0 0, U, U, U, .ptr 1 0, U, U, U, U, U, U, U, U, U, U, U, U, .agg [.d (.int .i64 a0.Work.e0.X), .d (.int .i64 a0.Work.e0.Y), .d (.int .i64 a0.Work.e0.Z), .d (.int .i64 a0.Work.e1.X), .d (.int .i64 a0.Work.e1.Y), .d (.int .i64 a0.Work.e1.Z), .d (.int .i64 a0.Work.e2.X), .d (.int .i64 a0.Work.e2.Y), .d (.int .i64 a0.Work.e2.Z), .d (.int .i64 a0.Work.e3.X), .d (.int .i64 a0.Work.e3.Y), .d (.int .i64 a0.Work.e3.Z), .d (.int .i64 a0.Work.e4.X), .d (.int .i64 a0.Work.e4.Y), .d (.int .i64 a0.Work.e4.Z), .d (.int .i64 a0.Work.e5.X), .d (.int .i64 a0.Work.e5.Y), .d (.int .i64 a0.Work.e5.Z)], .d (.int .i64 4), U, U, U, U, U, U, U, U, U, U, U, U, U, U, U, U, U, U, U, U, U, U, U, U, U, U, U, U, U, U, U, U, U, U, U, U, U, U, U, U, U, U, U, U, U, U, U, U, U, U]) (fun v407 : (List UInt8) => ⟨[[.d (.int .i64 a0.Work.e0.X), .d (.int .i64 a0.Work.e0.Y), .d (.int .i64 a0.Work.e0.Z), .d (.int .i64 a0.Work.e1.X), .d (.int .i64 a0.Work.e1.Y), .d (.int .i64 a0.Work.e1.Z), .d (.int .i64 a0.Work.e2.X), .d (.int .i64 a0.Work.e2.Y), .d (.int .i64 a0.Work.e2.Z), .d (.int .i64 a0.Work.e3.X), .d (.int .i64 a0.Work.e3.Y), .d (.int .i64 a0.Work.e3.Z), .d (.int .i64 a0.Work.e4.X), .d (.int .i64 a0.Work.e4.Y), .d (.int .i64 a0.Work.e4.Z), .d (.int .i64 a0.Work.e5.X), .d (.int .i64 a0.Work.e5.Y), .d (.int .i64 a0.Work.e5.Z), .d (.list (List.map encTableLength a0.Lengths))], [.adr 1, .own 0 (List.map byteE v407)]], [(5, v407.length)]⟩) (fun _ => rfl) ?_ ?_)))))
        ·refine Mir.block (Mir.seqK (Mir.region fun e h => ?_))
         simp only [↓reduceIte, reduceCtorEq, nA, nS, nM, nE, nL, nT, nB, iT, iN, iE, and_self, SR, SV, und_24, sz_23, ag_23, zero_23, ENMB, eInt]
         refine Mir.use (e := e) ?_ h
         refine Mir.seqK (Mir.seqK (Mir.region fun e h => ?_))
         simp only [↓reduceIte, reduceCtorEq, nA, nS, nM, nE, nL, nT, nB, iT, iN, iE, and_self, SR, SV, ag_23, sz_23, zero_23, pl_23, gE_23, ENMB, eInt]
         refine Mir.use (e := e) ?_ h
         refine Mir.cond rfl (fun hb887 => ?_) (fun hb887 => ?_)
         ·refine Mir.exit fun e h => ?_
          cases h
          simp only [↓reduceIte, reduceCtorEq, nA, nE, nL, and_self, and_true, true_and, SL, ENMB, eInt, Tryd.results23]
         ·refine Mir.skip (Mir.toK (Mir.seqK (Mir.bind fun y408 hy888 => Mir.guard fun q889 => ?_)))
          replace q889 := okStr_ok q889
          try simp only [lm, xNA, xCA, xAN, xLC, xLN, xAC, xAL, nA, Nat.zero_add] at q889
          refine Mir.guard fun q890 => Mir.region fun e h => ?_
          simp only [↓reduceIte, reduceCtorEq, nA, nS, nM, nE, nL, nT, nB, iT, iN, iE, and_self, SR, SV, (nr rfl : IntKind.i64.wrap (54 + 4) = 58), ENMB, eInt]
          refine SpecS.by (strconv_Itoa_spec hy888) (by simp only [↓reduceIte, reduceCtorEq, nA, nE, nL, and_self, and_true, true_and, SL, ENMB, eInt]) ?_
          simp only [↓reduceIte, reduceCtorEq, nA, nS, nM, nE, nL, nT, nB, iT, iN, iE, and_self, SR, SV, q889, ENMB, eInt]
          refine specS_wsN (n := (v378 ++ ([119, 111, 114, 107, 32, 71] ++ y408)).length) rfl (lns_at (by simp only [List.length_map, List.length_append, List.length_nil, List.length_cons, List.map_nil, List.map_cons, xOS, xON] <;> omega)) (ok2 q890 (by simp only [List.length_map, List.length_append, List.length_nil, List.length_cons, List.map_nil, List.map_cons, xOS, xON] <;> omega) rfl) (by simp only [List.length_map, List.length_append, List.length_nil, List.length_cons, List.map_nil, List.map_cons, xOS, xON] <;> omega) ?_
          simp only [↓reduceIte, reduceCtorEq, nA, nS, nM, nE, nL, nT, nB, iT, iN, iE, and_self, SR, SV, ENMB, eInt]
          refine Mir.use (e := e) ?_ h
          refine Mir.seqK (Mir.seqK (Mir.region fun e h => ?_))
          simp only [↓reduceIte, reduceCtorEq, nA, nS, nM, nE, nL, nT, nB, iT, iN, iE, and_self, SR, SV, fld_23_0, sz_2, ag_2, fld_23_1, fld_23_2, und_82, zero_2, (nr rfl : okLen 3 = true), (nr rfl : ((3 : Nat) : Int) = 3), ENMB, eInt]
          refine Mir.use (e := e) ?_ h
          refine Mir.joinO (fun v415 : (List UInt8) => [U, .ptr 0 0, U, U, U, .ptr 1 0, U, U, U, U, U, U, U, U, U, U, U, U, .agg [.d (.int .i64 a0.Work.e0.X), .d (.int .i64 a0.Work.e0.Y), .d (.int .i64 a0.Work.e0.Z), .d (.int .i64 a0.Work.e1.X), .d (.int .i64 a0.Work.e1.Y), .d (.int .i64 a0.Work.e1.Z), .d (.int .i64 a0.Work.e2.X), .d (.int .i64 a0.Work.e2.Y), .d (.int .i64 a0.Work.e2.Z), .d (.int .i64 a0.Work.e3.X), .d (.int .i64 a0.Work.e3.Y), .d (.int .i64 a0.Work.e3.Z), .d (.int .i64 a0.Work.e4.X), .d (.int .i64 a0.Work.e4.Y), .d (.int .i64 a0.Work.e4.Z), .d (.int .i64 a0.Work.e5.X), .d (.int .i64 a0.Work.e5.Y), .d (.int .i64 a0.Work.e5.Z)], .d (.int .i64 4), U, U, U, U, U, U, U, U, U, U, U, U, U, U, U, U, U, U, U, U, U, U, U, U, U, U, U, U, U, U, U, U, U, U, U, U, U, U, U, U, U, U, U, U, U, U, U, U, U, U]) (fun v415 : (List UInt8) => ⟨[[.d (.int .i64 a0.Work.e0.X), .d (.int .i64 a0.Work.e0.Y), .d (.int .i64 a0.Work.e0.Z), .d (.int .i64 a0.Work.e1.X), .d (.int .i64 a0.Work.e1.Y), .d (.int .i64 a0.Work.e1.Z), .d (.int .i64 a0.Work.e2.X), .d (.int .i64 a0.Work.e2.Y), .d (.int .i64 a0.Work.e2.Z), .d (.int .i64 a0.Work.e3.X), .d (.int .i64 a0.Work.e3.Y), .d (.int .i64 a0.Work.e3.Z), .d (.int .i64 a0.Work.e4.X), .d (.int .i64 a0.Work.e4.Y), .d (.int .i64 a0.Work.e4.Z), .d (.int .i64 a0.Work.e5.X), .d (.int .i64 a0.Work.e5.Y), .d (.int .i64 a0.Work.e5.Z), .d (.list (List.map encTableLength a0.Lengths))], [.adr 1, .own 0 (List.map byteE v415)], [.d (.int .i64 a0.Work.e4.X), .d (.int .i64 a0.Work.e4.Y), .d (.int .i64 a0.Work.e4.Z)]], [(5, v415.length)]⟩) (fun _ => rfl) ?_ ?_
          ·refine Mir.block (Mir.loopR 15 (Mir.seqK (Mir.region fun e h => ?_)))
           simp only [↓reduceIte, reduceCtorEq, nA, nS, nM, nE, nL, nT, nB, iT, iN, iE, and_self, SR, SV, ENMB, eInt]
           refine Mir.use (e := e) ?_ h
           refine Mir.seqK (Mir.condT rfl (Mir.skip (Mir.toK (Mir.seqK (Mir.block (Mir.seqK (Mir.region fun e h => ?_)))))))
           simp only [↓reduceIte, reduceCtorEq, nA, nS, nM, nE, nL, nT, nB, iT, iN, iE, and_self, SR, SV, und_82, sz_2, ag_2, ENMB, eInt]
           refine Mir.use (e := e) ?_ h
           refine Mir.bind fun y417 hy912 => Mir.guard fun q913 => ?_
           replace q913 := okStr_ok q913
           try simp only [lm, xNA, xCA, xAN, xLC, xLN, xAC, xAL, nA, Nat.zero_add] at q913
           refine Mir.guard fun q914 => Mir.region fun e h => ?_
           simp only [↓reduceIte, reduceCtorEq, nA, nS, nM, nE, nL, nT, nB, iT, iN, iE, and_self, SR, SV, ENMB, eInt]
           refine SpecS.by (dc_Millimetres_spec hy912) (by simp only [↓reduceIte, reduceCtorEq, nA, nE, nL, and_self, and_true, true_and, SL, ENMB, eInt]) ?_
           simp only [↓reduceIte, reduceCtorEq, nA, nS, nM, nE, nL, nT, nB, iT, iN, iE, and_self, SR, SV, q913, ENMB, eInt]
           refine specS_wsN (n := (v378 ++ ([119, 111, 114, 107, 32, 71] ++ y408) ++ ([32] ++ y417)).length) rfl (lns_at (by simp only [List.length_map, List.length_append, List.length_nil, List.length_cons, List.map_nil, List.map_cons, xOS, xON] <;> omega)) (ok2 q914 (by simp only [List.length_map, List.length_append, List.length_nil, List.length_cons, List.map_nil, List.map_cons, xOS, xON] <;> omega) rfl) (by simp only [List.length_map, List.length_append, List.length_nil, List.length_cons, List.map_nil, List.map_cons, xOS, xON] <;> omega) ?_
           simp only [↓reduceIte, reduceCtorEq, nA, nS, nM, nE, nL, nT, nB, iT, iN, iE, and_self, SR, SV, ENMB, eInt]
           refine Mir.use (e := e) ?_ h
           refine Mir.region fun e h => ?_
           simp only [↓reduceIte, reduceCtorEq, nA, nS, nM, nE, nL, nT, nB, iT, iN, iE, and_self, SR, SV, (nr rfl : IntKind.i64.wrap (0 + 1) = 1), ENMB, eInt]
           refine Mir.useN (e := e) ?_ h
           refine Mir.seqK (Mir.region fun e h => ?_)
           simp only [↓reduceIte, reduceCtorEq, nA, nS, nM, nE, nL, nT, nB, iT, iN, iE, and_self, SR, SV, ENMB, eInt]
           refine Mir.use (e := e) ?_ h
           refine Mir.seqK (Mir.condT rfl (Mir.skip (Mir.toK (Mir.seqK (Mir.block (Mir.seqK (Mir.region fun e h => ?_)))))))
           simp only [↓reduceIte, reduceCtorEq, nA, nS, nM, nE, nL, nT, nB, iT, iN, iE, and_self, SR, SV, und_82, sz_2, ag_2, ENMB, eInt]
           refine Mir.use (e := e) ?_ h
           refine Mir.bind fun y419 hy918 => Mir.guard fun q919 => ?_
           replace q919 := okStr_ok q919
           try simp only [lm, xNA, xCA, xAN, xLC, xLN, xAC, xAL, nA, Nat.zero_add] at q919
           refine Mir.guard fun q920 => Mir.region fun e h => ?_
           simp only [↓reduceIte, reduceCtorEq, nA, nS, nM, nE, nL, nT, nB, iT, iN, iE, and_self, SR, SV, ENMB, eInt]
           refine SpecS.by (dc_Millimetres_spec hy918) (by simp only [↓reduceIte, reduceCtorEq, nA, nE, nL, and_self, and_true, true_and, SL, ENMB, eInt]) ?_
           simp only [↓reduceIte, reduceCtorEq, nA, nS, nM, nE, nL, nT, nB, iT, iN, iE, and_self, SR, SV, q919, ENMB, eInt]
           refine specS_wsN (n := (v378 ++ ([119, 111, 114, 107, 32, 71] ++ y408) ++ ([32] ++ y417) ++ ([32] ++ y419)).length) rfl (lns_at (by simp only [List.length_map, List.length_append, List.length_nil, List.length_cons, List.map_nil, List.map_cons, xOS, xON] <;> omega)) (ok2 q920 (by simp only [List.length_map, List.length_append, List.length_nil, List.length_cons, List.map_nil, List.map_cons, xOS, xON] <;> omega) rfl) (by simp only [List.length_map, List.length_append, List.length_nil, List.length_cons, List.map_nil, List.map_cons, xOS, xON] <;> omega) ?_
           simp only [↓reduceIte, reduceCtorEq, nA, nS, nM, nE, nL, nT, nB, iT, iN, iE, and_self, SR, SV, ENMB, eInt]
           refine Mir.use (e := e) ?_ h
           refine Mir.region fun e h => ?_
           simp only [↓reduceIte, reduceCtorEq, nA, nS, nM, nE, nL, nT, nB, iT, iN, iE, and_self, SR, SV, (nr rfl : IntKind.i64.wrap (1 + 1) = 2), ENMB, eInt]
           refine Mir.useN (e := e) ?_ h
           refine Mir.seqK (Mir.region fun e h => ?_)
           simp only [↓reduceIte, reduceCtorEq, nA, nS, nM, nE, nL, nT, nB, iT, iN, iE, and_self, SR, SV, ENMB, eInt]
           refine Mir.use (e := e) ?_ h
           refine Mir.seqK (Mir.condT rfl (Mir.skip (Mir.toK (Mir.seqK (Mir.block (Mir.seqK (Mir.region fun e h => ?_)))))))
           simp only [↓reduceIte, reduceCtorEq, nA, nS, nM, nE, nL, nT, nB, iT, iN, iE, and_self, SR, SV, und_82, sz_2, ag_2, ENMB, eInt]
           refine Mir.use (e := e) ?_ h
           refine Mir.bind fun y421 hy924 => Mir.guard fun q925 => ?_
           replace q925 := okStr_ok q925
           try simp only [lm, xNA, xCA, xAN, xLC, xLN, xAC, xAL, nA, Nat.zero_add] at q925
           refine Mir.guard fun q926 => Mir.region fun e h => ?_
           simp only [↓reduceIte, reduceCtorEq, nA, nS, nM, nE, nL, nT, nB, iT, iN, iE, and_self, SR, SV, ENMB, eInt]
           refine SpecS.by (dc_Millimetres_spec hy924) (by simp only [↓reduceIte, reduceCtorEq, nA, nE, nL, and_self, and_true, true_and, SL, ENMB, eInt]) ?_
           simp only [↓reduceIte, reduceCtorEq, nA, nS, nM, nE, nL, nT, nB, iT, iN, iE, and_self, SR, SV, q925, ENMB, eInt]
           refine specS_wsN (n := (v378 ++ ([119, 111, 114, 107, 32, 71] ++ y408) ++ ([32] ++ y417) ++ ([32] ++ y419) ++ ([32] ++ y421)).length) rfl (lns_at (by simp only [List.length_map, List.length_append, List.length_nil, List.length_cons, List.map_nil, List.map_cons, xOS, xON] <;> omega)) (ok2 q926 (by simp only [List.length_map, List.length_append, List.length_nil, List.length_cons, List.map_nil, List.map_cons, xOS, xON] <;> omega) rfl) (by simp only [List.length_map, List.length_append, List.length_nil, List.length_cons, List.map_nil, List.map_cons, xOS, xON] <;> omega) ?_
           simp only [↓reduceIte, reduceCtorEq, nA, nS, nM, nE, nL, nT, nB, iT, iN, iE, and_self, SR, SV, ENMB, eInt]
           refine Mir.use (e := e) ?_ h
           refine Mir.region fun e h => ?_
           simp only [↓reduceIte, reduceCtorEq, nA, nS, nM, nE, nL, nT, nB, iT, iN, iE, and_self, SR, SV, (nr rfl : IntKind.i64.wrap (2 + 1) = 3), ENMB, eInt]
           refine Mir.useN (e := e) ?_ h
           refine Mir.seqK (Mir.region fun e h => ?_)
           simp only [↓reduceIte, reduceCtorEq, nA, nS, nM, nE, nL, nT, nB, iT, iN, iE, and_self, SR, SV, ENMB, eInt]
           refine Mir.use (e := e) ?_ h
           refine Mir.seqK (Mir.condF rfl (Mir.exit fun e h => ?_))
           cases h
           simp only [↓reduceIte, reduceCtorEq, nA, nE, nL, and_self, and_true, true_and, SL, ENMB, eInt, Tryd.results23]
          ·intro v415
           refine Mir.toK (Mir.guard fun q927 => Mir.region fun e h => ?_)
           simp only [↓reduceIte, reduceCtorEq, nA, nS, nM, nE, nL, nT, nB, iT, iN, iE, and_self, SR, SV, ENMB, eInt]
           refine specS_wbN (b := 10) (n := (v415 ++ [10]).length) rfl rfl (lns_at (by simp only [List.length_map, List.length_append, List.length_nil, List.length_cons, List.map_nil, List.map_cons, xOS, xON] <;> omega)) (ok2 q927 (by simp only [List.length_map, List.length_append, List.length_nil, List.length_cons, List.map_nil, List.map_cons, xOS, xON] <;> omega) rfl) (by simp only [List.length_map, List.length_append, List.length_nil, List.length_cons, List.map_nil, List.map_cons, xOS, xON] <;> omega) ?_
           simp only [↓reduceIte, reduceCtorEq, nA, nS, nM, nE, nL, nT, nB, iT, iN, iE, and_self, SR, SV, ENMB, eInt]
           cases h
           simp only [↓reduceIte, reduceCtorEq, nA, nE, nL, and_self, and_true, true_and, SL, ENMB, eInt, Tryd.results23]
        ·intro v407
         refine Mir.toK (Mir.region fun e h => ?_)
         simp only [↓reduceIte, reduceCtorEq, nA, nS, nM, nE, nL, nT, nB, iT, iN, iE, and_self, SR, SV, (nr rfl : IntKind.i64.wrap (4 + 1) = 5), ENMB, eInt]
         refine Mir.useN (e := e) ?_ h
         refine Mir.seqK (Mir.region fun e h => ?_)
         simp only [↓reduceIte, reduceCtorEq, nA, nS, nM, nE, nL, nT, nB, iT, iN, iE, and_self, SR, SV, ENMB, eInt]
         refine Mir.use (e := e) ?_ h
         refine Mir.seqK (Mir.condT rfl (Mir.skip (Mir.toK (Mir.seqK (Mir.joinO (fun v436 : (List UInt8) => [U, .ptr 0 0, U, U, U, .ptr 1 0, U, U, U, U, U, U, U, U, U, U, U, U, .agg [.d (.int .i64 a0.Work.e0.X), .d (.int .i64 a0.Work.e0.Y), .d (.int .i64 a0.Work.e0.Z), .d (.int .i64 a0.Work.e1.X), .d (.int .i64 a0.Work.e1.Y), .d (.int .i64 a0.Work.e1.Z), .d (.int .i64 a0.Work.e2.X), .d (.int .i64 a0.Work.e2.Y), .d (.int .i64 a0.Work.e2.Z), .d (.int .i64 a0.Work.e3.X), .d (.int .i64 a0.Work.e3.Y), .d (.int .i64 a0.Work.e3.Z), .d (.int .i64 a0.Work.e4.X), .d (.int .i64 a0.Work.e4.Y), .d (.int .i64 a0.Work.e4.Z), .d (.int .i64 a0.Work.e5.X), .d (.int .i64 a0.Work.e5.Y), .d (.int .i64 a0.Work.e5.Z)], .d (.int .i64 5), U, U, U, U, U, U, U, U, U, U, U, U, U, U, U, U, U, U, U, U, U, U, U, U, U, U, U, U, U, U, U, U, U, U, U, U, U, U, U, U, U, U, U, U, U, U, U, U, U, U]) (fun v436 : (List UInt8) => ⟨[[.d (.int .i64 a0.Work.e0.X), .d (.int .i64 a0.Work.e0.Y), .d (.int .i64 a0.Work.e0.Z), .d (.int .i64 a0.Work.e1.X), .d (.int .i64 a0.Work.e1.Y), .d (.int .i64 a0.Work.e1.Z), .d (.int .i64 a0.Work.e2.X), .d (.int .i64 a0.Work.e2.Y), .d (.int .i64 a0.Work.e2.Z), .d (.int .i64 a0.Work.e3.X), .d (.int .i64 a0.Work.e3.Y), .d (.int .i64 a0.Work.e3.Z), .d (.int .i64 a0.Work.e4.X), .d (.int .i64 a0.Work.e4.Y), .d (.int .i64 a0.Work.e4.Z), .d (.int .i64 a0.Work.e5.X), .d (.int .i64 a0.Work.e5.Y), .d (.int .i64 a0.Work.e5.Z), .d (.list (List.map encTableLength a0.Lengths))], [.adr 1, .own 0 (List.map byteE v436)]], [(5, v436.length)]⟩) (fun _ => rfl) ?_ ?_)))))
         ·refine Mir.block (Mir.seqK (Mir.region fun e h => ?_))
          simp only [↓reduceIte, reduceCtorEq, nA, nS, nM, nE, nL, nT, nB, iT, iN, iE, and_self, SR, SV, und_24, sz_23, ag_23, zero_23, ENMB, eInt]
          refine Mir.use (e := e) ?_ h
          refine Mir.seqK (Mir.seqK (Mir.region fun e h => ?_))
          simp only [↓reduceIte, reduceCtorEq, nA, nS, nM, nE, nL, nT, nB, iT, iN, iE, and_self, SR, SV, ag_23, sz_23, zero_23, pl_23, gE_23, ENMB, eInt]
          refine Mir.use (e := e) ?_ h
          refine Mir.cond rfl (fun hb971 => ?_) (fun hb971 => ?_)
          ·refine Mir.exit fun e h => ?_
           cases h
           simp only [↓reduceIte, reduceCtorEq, nA, nE, nL, and_self, and_true, true_and, SL, ENMB, eInt, Tryd.results23]
          ·refine Mir.skip (Mir.toK (Mir.seqK (Mir.bind fun y437 hy972 => Mir.guard fun q973 => ?_)))
           replace q973 := okStr_ok q973
           try simp only [lm, xNA, xCA, xAN, xLC, xLN, xAC, xAL, nA, Nat.zero_add] at q973
           refine Mir.guard fun q974 => Mir.region fun e h => ?_
           simp only [↓reduceIte, reduceCtorEq, nA, nS, nM, nE, nL, nT, nB, iT, iN, iE, and_self, SR, SV, (nr rfl : IntKind.i64.wrap (54 + 5) = 59), ENMB, eInt]
           refine SpecS.by (strconv_Itoa_spec hy972) (by simp only [↓reduceIte, reduceCtorEq, nA, nE, nL, and_self, and_true, true_and, SL, ENMB, eInt]) ?_
           simp only [↓reduceIte, reduceCtorEq, nA, nS, nM, nE, nL, nT, nB, iT, iN, iE, and_self, SR, SV, q973, ENMB, eInt]
           refine specS_wsN (n := (v407 ++ ([119, 111, 114, 107, 32, 71] ++ y437)).length) rfl (lns_at (by simp only [List.length_map, List.length_append, List.length_nil, List.length_cons, List.map_nil, List.map_cons, xOS, xON] <;> omega)) (ok2 q974 (by simp only [List.length_map, List.length_append, List.length_nil, List.length_cons, List.map_nil, List.map_cons, xOS, xON] <;> omega) rfl) (by simp only [List.length_map, List.length_append, List.length_nil, List.length_cons, List.map_nil, List.map_cons, xOS, xON] <;> omega) ?_
           simp only [↓reduceIte, reduceCtorEq, nA, nS, nM, nE, nL, nT, nB, iT, iN, iE, and_self, SR, SV, ENMB, eInt]
           refine Mir.use (e := e) ?_ h
           refine Mir.seqK (Mir.seqK (Mir.region fun e h => ?_))
           simp only [↓reduceIte, reduceCtorEq, nA, nS, nM, nE, nL, nT, nB, iT, iN, iE, and_self, SR, SV, fld_23_0, sz_2, ag_2, fld_23_1, fld_23_2, und_82, zero_2, (nr rfl : okLen 3 = true), (nr rfl : ((3 : Nat) : Int) = 3), ENMB, eInt]
           refine Mir.use (e := e) ?_ h
           refine Mir.joinO (fun v444 : (List UInt8) => [U, .ptr 0 0, U, U, U, .ptr 1 0, U, U, U, U, U, U, U, U, U, U, U, U, .agg [.d (.int .i64 a0.Work.e0.X), .d (.int .i64 a0.Work.e0.Y), .d (.int .i64 a0.Work.e0.Z), .d (.int .i64 a0.Work.e1.X), .d (.int .i64 a0.Work.e1.Y), .d (.int .i64 a0.Work.e1.Z), .d (.int .i64 a0.Work.e2.X), .d (.int .i64 a0.Work.e2.Y), .d (.int .i64 a0.Work.e2.Z), .d (.int .i64 a0.Work.e3.X), .d (.int .i64 a0.Work.e3.Y), .d (.int .i64 a0.Work.e3.Z), .d (.int .i64 a0.Work.e4.X), .d (.int .i64 a0.Work.e4.Y), .d (.int .i64 a0.Work.e4.Z), .d (.int .i64 a0.Work.e5.X), .d (.int .i64 a0.Work.e5.Y), .d (.int .i64 a0.Work.e5.Z)], .d (.int .i64 5), U, U, U, U, U, U, U, U, U, U, U, U, U, U, U, U, U, U, U, U, U, U, U, U, U, U, U, U, U, U, U, U, U, U, U, U, U, U, U, U, U, U, U, U, U, U, U, U, U, U]) (fun v444 : (List UInt8) => ⟨[[.d (.int .i64 a0.Work.e0.X), .d (.int .i64 a0.Work.e0.Y), .d (.int .i64 a0.Work.e0.Z), .d (.int .i64 a0.Work.e1.X), .d (.int .i64 a0.Work.e1.Y), .d (.int .i64 a0.Work.e1.Z), .d (.int .i64 a0.Work.e2.X), .d (.int .i64 a0.Work.e2.Y), .d (.int .i64 a0.Work.e2.Z), .d (.int .i64 a0.Work.e3.X), .d (.int .i64 a0.Work.e3.Y), .d (.int .i64 a0.Work.e3.Z), .d (.int .i64 a0.Work.e4.X), .d (.int .i64 a0.Work.e4.Y), .d (.int .i64 a0.Work.e4.Z), .d (.int .i64 a0.Work.e5.X), .d (.int .i64 a0.Work.e5.Y), .d (.int .i64 a0.Work.e5.Z), .d (.list (List.map encTableLength a0.Lengths))], [.adr 1, .own 0 (List.map byteE v444)], [.d (.int .i64 a0.Work.e5.X), .d (.int .i64 a0.Work.e5.Y), .d (.int .i64 a0.Work.e5.Z)]], [(5, v444.length)]⟩) (fun _ => rfl) ?_ ?_
           ·refine Mir.block (Mir.loopR 15 (Mir.seqK (Mir.region fun e h => ?_)))
            simp only [↓reduceIte, reduceCtorEq, nA, nS, nM, nE, nL, nT, nB, iT, iN, iE, and_self, SR, SV, ENMB, eInt]
            refine Mir.use (e := e) ?_ h
            refine Mir.seqK (Mir.condT rfl (Mir.skip (Mir.toK (Mir.seqK (Mir.block (Mir.seqK (Mir.region fun e h => ?_)))))))
            simp only [↓reduceIte, reduceCtorEq, nA, nS, nM, nE, nL, nT, nB, iT, iN, iE, and_self, SR, SV, und_82, sz_2, ag_2, ENMB, eInt]
            refine Mir.use (e := e) ?_ h
            refine Mir.bind fun y446 hy996 => Mir.guard fun q997 => ?_
            replace q997 := okStr_ok q997
            try simp only [lm, xNA, xCA, xAN, xLC, xLN, xAC, xAL, nA, Nat.zero_add] at q997
            refine Mir.guard fun q998 => Mir.region fun e h => ?_
            simp only [↓reduceIte, reduceCtorEq, nA, nS, nM, nE, nL, nT, nB, iT, iN, iE, and_self, SR, SV, ENMB, eInt]
            refine SpecS.by (dc_Millimetres_spec hy996) (by simp only [↓reduceIte, reduceCtorEq, nA, nE, nL, and_self, and_true, true_and, SL, ENMB, eInt]) ?_
            simp only [↓reduceIte, reduceCtorEq, nA, nS, nM, nE, nL, nT, nB, iT, iN, iE, and_self, SR, SV, q997, ENMB, eInt]
            refine specS_wsN (n := (v407 ++ ([119, 111, 114, 107, 32, 71] ++ y437) ++ ([32] ++ y446)).length) rfl (lns_at (by simp only [List.length_map, List.length_append, List.length_nil, List.length_cons, List.map_nil, List.map_cons, xOS, xON] <;> omega)) (ok2 q998 (by simp only [List.length_map, List.length_append, List.length_nil, List.length_cons, List.map_nil, List.map_cons, xOS, xON] <;> omega) rfl) (by simp only [List.length_map, List.length_append, List.length_nil, List.length_cons, List.map_nil, List.map_cons, xOS, xON] <;> omega) ?_
            simp only [↓reduceIte, reduceCtorEq, nA, nS, nM, nE, nL, nT, nB, iT, iN, iE, and_self, SR, SV, ENMB, eInt]
            refine Mir.use (e := e) ?_ h
            refine Mir.region fun e h => ?_
            simp only [↓reduceIte, reduceCtorEq, nA, nS, nM, nE, nL, nT, nB, iT, iN, iE, and_self, SR, SV, (nr rfl : IntKind.i64.wrap (0 + 1) = 1), ENMB, eInt]
            refine Mir.useN (e := e) ?_ h
            refine Mir.seqK (Mir.region fun e h => ?_)
            simp only [↓reduceIte, reduceCtorEq, nA, nS, nM, nE, nL, nT, nB, iT, iN, iE, and_self, SR, SV, ENMB, eInt]
            refine Mir.use (e := e) ?_ h
            refine Mir.seqK (Mir.condT rfl (Mir.skip (Mir.toK (Mir.seqK (Mir.block (Mir.seqK (Mir.region fun e h => ?_)))))))
            simp only [↓reduceIte, reduceCtorEq, nA, nS, nM, nE, nL, nT, nB, iT, iN, iE, and_self, SR, SV, und_82, sz_2, ag_2, ENMB, eInt]
            refine Mir.use (e := e) ?_ h
            refine Mir.bind fun y448 hy1002 => Mir.guard fun q1003 => ?_
            replace q1003 := okStr_ok q1003
            try simp only [lm, xNA, xCA, xAN, xLC, xLN, xAC, xAL, nA, Nat.zero_add] at q1003
            refine Mir.guard fun q1004 => Mir.region fun e h => ?_
            simp only [↓reduceIte, reduceCtorEq, nA, nS, nM, nE, nL, nT, nB, iT, iN, iE, and_self, SR, SV, ENMB, eInt]
            refine SpecS.by (dc_Millimetres_spec hy1002) (by simp only [↓reduceIte, reduceCtorEq, nA, nE, nL, and_self, and_true, true_and, SL, ENMB, eInt]) ?_
            simp only [↓reduceIte, reduceCtorEq, nA, nS, nM, nE, nL, nT, nB, iT, iN, iE, and_self, SR, SV, q1003, ENMB, eInt]
            refine specS_wsN (n := (v407 ++ ([119, 111, 114, 107, 32, 71] ++ y437) ++ ([32] ++ y446) ++ ([32] ++ y448)).length) rfl (lns_at (by simp only [List.length_map, List.length_append, List.length_nil, List.length_cons, List.map_nil, List.map_cons, xOS, xON] <;> omega)) (ok2 q1004 (by simp only [List.length_map, List.length_append, List.length_nil, List.length_cons, List.map_nil, List.map_cons, xOS, xON] <;> omega) rfl) (by simp only [List.length_map, List.length_append, List.length_nil, List.length_cons, List.map_nil, List.map_cons, xOS, xON] <;> omega) ?_
            simp only [↓reduceIte, reduceCtorEq, nA, nS, nM, nE, nL, nT, nB, iT, iN, iE, and_self, SR, SV, ENMB, eInt]
            refine Mir.use (e := e) ?_ h
            refine Mir.region fun e h => ?_
            simp only [↓reduceIte, reduceCtorEq, nA, nS, nM, nE, nL, nT, nB, iT, iN, iE, and_self, SR, SV, (nr rfl : IntKind.i64.wrap (1 + 1) = 2), ENMB, eInt]
            refine Mir.useN (e := e) ?_ h
            refine Mir.seqK (Mir.region fun e h => ?_)
            simp only [↓reduceIte, reduceCtorEq, nA, nS, nM, nE, nL, nT, nB, iT, iN, iE, and_self, SR, SV, ENMB, eInt]
            refine Mir.use (e := e) ?_ h
            refine Mir.seqK (Mir.condT rfl (Mir.skip (Mir.toK (Mir.seqK (Mir.block (Mir.seqK (Mir.region fun e h => ?_)))))))
            simp only [↓reduceIte, reduceCtorEq, nA, nS, nM, nE, nL, nT, nB, iT, iN, iE, and_self, SR, SV, und_82, sz_2, ag_2, ENMB, eInt]
            refine Mir.use (e := e) ?_ h
            refine Mir.bind fun y450 hy1008 => Mir.guard fun q1009 => ?_
            replace q1009 := okStr_ok q1009
            try simp only [lm, xNA, xCA, xAN, xLC, xLN, xAC, xAL, nA, Nat.zero_add] at q1009
            refine Mir.guard fun q1010 => Mir.region fun e h => ?_
            simp only [↓reduceIte, reduceCtorEq, nA, nS, nM, nE, nL, nT, nB, iT, iN, iE, and_self, SR, SV, ENMB, eInt]
            refine SpecS.by (dc_Millimetres_spec hy1008) (by simp only [↓reduceIte, reduceCtorEq, nA, nE, nL, and_self, and_true, true_and, SL, ENMB, eInt]) ?_
            simp only [↓reduceIte, reduceCtorEq, nA, nS, nM, nE, nL, nT, nB, iT, iN, iE, and_self, SR, SV, q1009, ENMB, eInt]
            refine specS_wsN (n := (v407 ++ ([119, 111, 114, 107, 32, 71] ++ y437) ++ ([32] ++ y446) ++ ([32] ++ y448) ++ ([32] ++ y450)).length) rfl (lns_at (by simp only [List.length_map, List.length_append, List.length_nil, List.length_cons, List.map_nil, List.map_cons, xOS, xON] <;> omega)) (ok2 q1010 (by simp only [List.length_map, List.length_append, List.length_nil, List.length_cons, List.map_nil, List.map_cons, xOS, xON] <;> omega) rfl) (by simp only [List.length_map, List.length_append, List.length_nil, List.length_cons, List.map_nil, List.map_cons, xOS, xON] <;> omega) ?_
            simp only [↓reduceIte, reduceCtorEq, nA, nS, nM, nE, nL, nT, nB, iT, iN, iE, and_self, SR, SV, ENMB, eInt]
            refine Mir.use (e := e) ?_ h
            refine Mir.region fun e h => ?_
            simp only [↓reduceIte, reduceCtorEq, nA, nS, nM, nE, nL, nT, nB, iT, iN, iE, and_self, SR, SV, (nr rfl : IntKind.i64.wrap (2 + 1) = 3), ENMB, eInt]
            refine Mir.useN (e := e) ?_ h
            refine Mir.seqK (Mir.region fun e h => ?_)
            simp only [↓reduceIte, reduceCtorEq, nA, nS, nM, nE, nL, nT, nB, iT, iN, iE, and_self, SR, SV, ENMB, eInt]
            refine Mir.use (e := e) ?_ h
            refine Mir.seqK (Mir.condF rfl (Mir.exit fun e h => ?_))
            cases h
            simp only [↓reduceIte, reduceCtorEq, nA, nE, nL, and_self, and_true, true_and, SL, ENMB, eInt, Tryd.results23]
           ·intro v444
            refine Mir.toK (Mir.guard fun q1011 => Mir.region fun e h => ?_)
            simp only [↓reduceIte, reduceCtorEq, nA, nS, nM, nE, nL, nT, nB, iT, iN, iE, and_self, SR, SV, ENMB, eInt]
            refine specS_wbN (b := 10) (n := (v444 ++ [10]).length) rfl rfl (lns_at (by simp only [List.length_map, List.length_append, List.length_nil, List.length_cons, List.map_nil, List.map_cons, xOS, xON] <;> omega)) (ok2 q1011 (by simp only [List.length_map, List.length_append, List.length_nil, List.length_cons, List.map_nil, List.map_cons, xOS, xON] <;> omega) rfl) (by simp only [List.length_map, List.length_append, List.length_nil, List.length_cons, List.map_nil, List.map_cons, xOS, xON] <;> omega) ?_
            simp only [↓reduceIte, reduceCtorEq, nA, nS, nM, nE, nL, nT, nB, iT, iN, iE, and_self, SR, SV, ENMB, eInt]
            cases h
            simp only [↓reduceIte, reduceCtorEq, nA, nE, nL, and_self, and_true, true_and, SL, ENMB, eInt, Tryd.results23]
         ·intro v436
          refine Mir.toK (Mir.region fun e h => ?_)
          simp only [↓reduceIte, reduceCtorEq, nA, nS, nM, nE, nL, nT, nB, iT, iN, iE, and_self, SR, SV, (nr rfl : IntKind.i64.wrap (5 + 1) = 6), ENMB, eInt]
          refine Mir.useN (e := e) ?_ h
          refine Mir.seqK (Mir.region fun e h => ?_)
          simp only [↓reduceIte, reduceCtorEq, nA, nS, nM, nE, nL, nT, nB, iT, iN, iE, and_self, SR, SV, ENMB, eInt]
          refine Mir.use (e := e) ?_ h
          refine Mir.seqK (Mir.condF rfl (Mir.exit fun e h => ?_))
          cases h
          simp only [↓reduceIte, reduceCtorEq, nA, nE, nL, and_self, and_true, true_and, SL, ENMB, eInt, Tryd.results23]
   ·intro v276
    refine Mir.toK (Mir.seqK (Mir.seqK (Mir.region fun e h => ?_)))
    simp only [↓reduceIte, reduceCtorEq, nA, nS, nM, nE, nL, nT, nB, iT, iN, iE, and_self, SR, SV, fld_33_1, sz_31, ag_31, und_31, ENMB, eInt]
    refine Mir.use (e := e) ?_ h
    refine Mir.joinO (fun v481 : (List UInt8) => [U, U, U, U, U, .ptr 1 0, U, U, U, U, U, U, U, U, U, U, U, U, U, U, U, U, U, U, U, U, U, U, U, U, U, U, U, U, U, U, U, U, U, U, U, U, U, U, U, U, U, U, U, U, U, U, U, U, U, U, U, U, U, U, U, U, U, U, U, U, U, U, U, U]) (fun v481 : (List UInt8) => ⟨[[.d (.int .i64 a0.Work.e0.X), .d (.int .i64 a0.Work.e0.Y), .d (.int .i64 a0.Work.e0.Z), .d (.int .i64 a0.Work.e1.X), .d (.int .i64 a0.Work.e1.Y), .d (.int .i64 a0.Work.e1.Z), .d (.int .i64 a0.Work.e2.X), .d (.int .i64 a0.Work.e2.Y), .d (.int .i64 a0.Work.e2.Z), .d (.int .i64 a0.Work.e3.X), .d (.int .i64 a0.Work.e3.Y), .d (.int .i64 a0.Work.e3.Z), .d (.int .i64 a0.Work.e4.X), .d (.int .i64 a0.Work.e4.Y), .d (.int .i64 a0.Work.e4.Z), .d (.int .i64 a0.Work.e5.X), .d (.int .i64 a0.Work.e5.Y), .d (.int .i64 a0.Work.e5.Z), .d (.list (List.map encTableLength a0.Lengths))], [.adr 1, .own 0 (List.map byteE v481)]], [(5, v481.length)]⟩) (fun _ => rfl) ?_ ?_
    ·refine Mir.block (Mir.guard fun qg1139 => Mir.range (fun (i505 : Nat) (v506 : (List UInt8)) => [U, U, U, U, U, .ptr 1 0, U, U, U, U, U, U, U, U, U, U, U, U, U, U, U, U, U, U, U, U, U, U, U, U, U, U, U, U, U, U, U, U, U, U, U, U, U, U, U, U, U, U, U, U, U, .d (.list (List.map encTableLength a0.Lengths)), .d (.int .i64 (a0.Lengths.length : Int)), .d (.int .i64 (i505 : Int)), U, U, U, U, U, U, U, U, U, U, U, U, U, U, U, U]) (fun (i505 : Nat) (v506 : (List UInt8)) => ⟨[[.d (.int .i64 a0.Work.e0.X), .d (.int .i64 a0.Work.e0.Y), .d (.int .i64 a0.Work.e0.Z), .d (.int .i64 a0.Work.e1.X), .d (.int .i64 a0.Work.e1.Y), .d (.int .i64 a0.Work.e1.Z), .d (.int .i64 a0.Work.e2.X), .d (.int .i64 a0.Work.e2.Y), .d (.int .i64 a0.Work.e2.Z), .d (.int .i64 a0.Work.e3.X), .d (.int .i64 a0.Work.e3.Y), .d (.int .i64 a0.Work.e3.Z), .d (.int .i64 a0.Work.e4.X), .d (.int .i64 a0.Work.e4.Y), .d (.int .i64 a0.Work.e4.Z), .d (.int .i64 a0.Work.e5.X), .d (.int .i64 a0.Work.e5.Y), .d (.int .i64 a0.Work.e5.Z), .d (.list (List.map encTableLength a0.Lengths))], [.adr 1, .own 0 (List.map byteE v506)]], [(5, v506.length)]⟩) qg1139 (fun _ _ => rfl) (by simp only [↓reduceIte, reduceCtorEq, nA, nE, nL, and_self, and_true, true_and, SL, ENMB, eInt, (nr rfl : ((0 : Nat) : Int) = 0)]) (by simp only [↓reduceIte, reduceCtorEq, nA, nE, nL, and_self, and_true, true_and, SL, ENMB, eInt, (nr rfl : ((0 : Nat) : Int) = 0)]) ?_ ?_)
     ·intro i505 e507 v506 qr1137
      refine Mir.seqK (Mir.region fun e h => ?_)
      simp only [↓reduceIte, reduceCtorEq, nA, nS, nM, nE, nL, nT, nB, iT, iN, iE, and_self, SR, SV, qr1137, ENMB, eInt]
      refine Mir.use (e := e) ?_ h
      refine Mir.seqK (Mir.condT rfl (Mir.skip (Mir.toK (Mir.seqK (Mir.block (Mir.seqK (Mir.region fun e h => ?_)))))))
      simp only [↓reduceIte, reduceCtorEq, nA, nS, nM, nE, nL, nT, nB, iT, iN, iE, and_self, SR, SV, und_31, sz_48, qr1137, Int.toNat_natCast, ag_48, zero_48, ENMB, eInt]
      refine Mir.use (e := e) ?_ h
      refine Mir.bind fun y510 hy1147 => Mir.guard fun q1148 => ?_
      replace q1148 := okStr_ok q1148
      try simp only [lm, xNA, xCA, xAN, xLC, xLN, xAC, xAL, nA, Nat.zero_add] at q1148
      refine Mir.guard fun q1149 => ?_
      replace q1149 := okStr_ok q1149
      try simp only [lm, xNA, xCA, xAN, xLC, xLN, xAC, xAL, nA, Nat.zero_add] at q1149
      refine Mir.bind fun y511 hy1150 => Mir.guard fun q1151 => ?_
      replace q1151 := okStr_ok q1151
      try simp only [lm, xNA, xCA, xAN, xLC, xLN, xAC, xAL, nA, Nat.zero_add] at q1151
      refine Mir.guard fun q1152 => ?_
      replace q1152 := okStr_ok q1152
      try simp only [lm, xNA, xCA, xAN, xLC, xLN, xAC, xAL, nA, Nat.zero_add] at q1152
      refine Mir.guard fun q1153 => Mir.regionT 8 [] (by kernel_rfl) fun e h => ?_
      simp only [↓reduceIte, reduceCtorEq, nA, nS, nM, nE, nL, nT, nB, iT, iN, iE, and_self, SR, SV, w_none, w_eq, and_true, true_and, tkS, tk0, tkN, dpS, dp0, sepL_nil, sepL_cons, sepV_ne, sepV_d, sepV_i, true_and, Bool.and_self, fld_48_0, sz_2, ag_2, ENMB, eInt]
      refine Spec.by (strconv_FormatInt_spec hy1147) (by simp only [↓reduceIte, reduceCtorEq, nA, nE, nL, and_self, and_true, true_and, SL, ENMB, eInt]) ?_
      simp only [↓reduceIte, reduceCtorEq, nA, nS, nM, nE, nL, nT, nB, iT, iN, iE, and_self, SR, SV, w_none, w_eq, and_true, true_and, tkS, tk0, tkN, dpS, dp0, sepL_nil, sepL_cons, sepV_ne, sepV_d, sepV_i, true_and, Bool.and_self, q1148, q1149, fld_48_1, sz_2, ag_2, ENMB, eInt]
      refine Spec.by (dc_Millimetres_spec hy1150) (by simp only [↓reduceIte, reduceCtorEq, nA, nE, nL, and_self, and_true, true_and, SL, ENMB, eInt]) ?_
      simp only [↓reduceIte, reduceCtorEq, nA, nS, nM, nE, nL, nT, nB, iT, iN, iE, and_self, SR, SV, w_none, w_eq, and_true, true_and, tkS, tk0, tkN, dpS, dp0, sepL_nil, sepL_cons, sepV_ne, sepV_d, sepV_i, true_and, Bool.and_self, ENMB, eInt]
      refine regW.of ?_
      simp only [↓reduceIte, reduceCtorEq, nA, nS, nM, nE, nL, nT, nB, iT, iN, iE, and_self, SR, SV, w_none, w_eq, and_true, true_and, tkS, tk0, tkN, dpS, dp0, q1151, q1152, ENMB, eInt]
      refine specS_wsN (n := (v506 ++ (((([108, 101, 110, 103, 116, 104, 32] ++ y510) ++ [32]) ++ y511) ++ [10])).length) rfl (lns_at (by simp only [List.length_map, List.length_append, List.length_nil, List.length_cons, List.map_nil, List.map_cons, xOS, xON] <;> omega)) (ok2 q1153 (by simp only [List.length_map, List.length_append, List.length_nil, List.length_cons, List.map_nil, List.map_cons, xOS, xON] <;> omega) rfl) (by simp only [List.length_map, List.length_append, List.length_nil, List.length_cons, List.map_nil, List.map_cons, xOS, xON] <;> omega) ?_
      simp only [↓reduceIte, reduceCtorEq, nA, nS, nM, nE, nL, nT, nB, iT, iN, iE, and_self, SR, SV, w_none, w_eq, and_true, true_and, tkS, tk0, tkN, dpS, dp0, ENMB, eInt]
      refine Mir.use (e := e) ?_ h
      refine Mir.region fun e h => ?_
      simp only [↓reduceIte, reduceCtorEq, nA, nS, nM, nE, nL, nT, nB, iT, iN, iE, and_self, SR, SV, ENMB, eInt]
      cases h
      simp only [↓reduceIte, reduceCtorEq, nA, nE, nL, and_self, and_true, true_and, SL, ENMB, eInt, Tryd.results23, qr1137]
     ·intro v506 qd1138
      refine Mir.seqK (Mir.region fun e h => ?_)
      simp only [↓reduceIte, reduceCtorEq, nA, nS, nM, nE, nL, nT, nB, iT, iN, iE, and_self, SR, SV, qd1138, ENMB, eInt]
      refine Mir.use (e := e) ?_ h
      refine Mir.seqK (Mir.condF rfl (Mir.exit fun e h => ?_))
      cases h
      simp only [↓reduceIte, reduceCtorEq, nA, nE, nL, and_self, and_true, true_and, SL, ENMB, eInt, Tryd.results23]
    ·intro v481
     refine Mir.toK (Mir.seqK (Mir.region fun e h => ?_))
     simp only [↓reduceIte, reduceCtorEq, nA, nS, nM, nE, nL, nT, nB, iT, iN, iE, and_self, SR, SV, ENMB, eInt]
     refine specS_st rfl (lns_at (by simp only [List.length_map, List.length_append, List.length_nil, List.length_cons, List.map_nil, List.map_cons, xOS, xON] <;> omega)) ?_
     simp only [↓reduceIte, reduceCtorEq, nA, nS, nM, nE, nL, nT, nB, iT, iN, iE, and_self, SR, SV, ENMB, eInt]
     refine Mir.use (e := e) ?_ h
     refine Mir.ret fun e h => ?_
     cases h
     simp only [↓reduceIte, reduceCtorEq, nA, nE, nL, and_self, and_true, true_and, SL, ENMB, eInt, Tryd.results23]

def l45_awake  : Option Bool :=
  bindO (tb_SetWork (TableTable.mk (Arr6ApiPos.mk (ApiPos.mk 0 0 0) (ApiPos.mk 0 0 0) (ApiPos.mk 0 0 0) (ApiPos.mk 0 0 0) (ApiPos.mk 0 0 0) (ApiPos.mk 0 0 0)) []) 55000 (ApiPos.mk 1000 2000 (-500))) fun (y101 : TableTable × Int) =>
  bindO (tb_SetLength y101.1 3 75000) fun (y102 : TableTable × Int) =>
  bindO (tb_Machine y102.1 55000 3 (ApiPos.mk 0 0 0)) fun (y103 : ApiPos × Int) =>
  bindO (tb_Format y102.1) fun (y104 : (List UInt8) × Int) =>
  some ((y101.2 == 0) && ((y102.2 == 0) && ((y103.2 == 0) && ((y104.2 == 0) && (((y103.1.X == 1000) && ((y103.1.Y == 2000) && (y103.1.Z == 74500))) && (y104.1 == [119, 111, 114, 107, 32, 71, 53, 53, 32, 49, 32, 50, 32, 45, 48, 46, 53, 10, 108, 101, 110, 103, 116, 104, 32, 51, 32, 55, 53, 10]))))))
theorem l45_awake_spec  {y : Bool} (h : l45_awake = some y) : Spec gP 8 [] (.d (.bool y)) := by
  refine spec_mir Tryd.func8 rfl (by kernel_rfl) (by kernel_rfl) (fun y : Bool => .d (.bool y)) ?_ h
  unfold l45_awake
  simp only [List.replicate, List.length, nS, nA, Tryd.ntmps8, SV]
  refine Mir.seqK (Mir.region fun e h => ?_)
  simp only [↓reduceIte, reduceCtorEq, nA, nS, nM, nE, nL, nT, nB, iT, iN, iE, and_self, SR, SV]
  refine Mir.use (e := e) ?_ h
  refine Mir.seqK (Mir.bind fun y101 hy1 => Mir.region fun e h => ?_)
  simp only [↓reduceIte, reduceCtorEq, nA, nS, nM, nE, nL, nT, nB, iT, iN, iE, and_self, SR, SV, zero_33, pl_33, zero_23, pl_23]
  refine SpecS.by (tb_SetWork_spec hy1) (by simp only [↓reduceIte, reduceCtorEq, nA, nE, nL, and_self, and_true, true_and, SL]) ?_
  simp only [↓reduceIte, reduceCtorEq, nA, nS, nM, nE, nL, nT, nB, iT, iN, iE, and_self, SR, SV, zero_33, sz_33]
  refine Mir.use (e := e) ?_ h
  refine Mir.seqK (Mir.bind fun y102 hy2 => Mir.region fun e h => ?_)
  simp only [↓reduceIte, reduceCtorEq, nA, nS, nM, nE, nL, nT, nB, iT, iN, iE, and_self, SR, SV, ag_33, sz_33]
  refine SpecS.by (tb_SetLength_spec hy2) (by simp only [↓reduceIte, reduceCtorEq, nA, nE, nL, and_self, and_true, true_and, SL]) ?_
  simp only [↓reduceIte, reduceCtorEq, nA, nS, nM, nE, nL, nT, nB, iT, iN, iE, and_self, SR, SV, zero_33, sz_33]
  refine Mir.use (e := e) ?_ h
  refine Mir.seqK (Mir.bind fun y103 hy3 => Mir.region fun e h => ?_)
  simp only [↓reduceIte, reduceCtorEq, nA, nS, nM, nE, nL, nT, nB, iT, iN, iE, and_self, SR, SV, ag_33, sz_33, zero_23, pl_23]
  refine SpecS.by (tb_Machine_spec hy3) (by simp only [↓reduceIte, reduceCtorEq, nA, nE, nL, and_self, and_true, true_and, SL]) ?_
  simp only [↓reduceIte, reduceCtorEq, nA, nS, nM, nE, nL, nT, nB, iT, iN, iE, and_self, SR, SV, zero_23, sz_23]
  refine Mir.use (e := e) ?_ h
  refine Mir.seqK (Mir.bind fun y104 hy4 => Mir.region fun e h => ?_)
  simp only [↓reduceIte, reduceCtorEq, nA, nS, nM, nE, nL, nT, nB, iT, iN, iE, and_self, SR, SV, ag_33, sz_33]
  refine SpecS.by (tb_Format_spec hy4) (by simp only [↓reduceIte, reduceCtorEq, nA, nE, nL, and_self, and_true, true_and, SL]) ?_
  simp only [↓reduceIte, reduceCtorEq, nA, nS, nM, nE, nL, nT, nB, iT, iN, iE, and_self, SR, SV]
  refine Mir.use (e := e) ?_ h
  refine Mir.seqK (Mir.joinV [.d (.bool ((y101.2 == 0) && ((y102.2 == 0) && ((y103.2 == 0) && ((y104.2 == 0) && (((y103.1.X == 1000) && ((y103.1.Y == 2000) && (y103.1.Z == 74500))) && (y104.1 == [119, 111, 114, 107, 32, 71, 53, 53, 32, 49, 32, 50, 32, 45, 48, 46, 53, 10, 108, 101, 110, 103, 116, 104, 32, 51, 32, 55, 53, 10]))))))), U, U, U, U, U, U, U, U, U, U, U, U, U, U, U, U, U, U, U, U, U, U, U, U, U, U, U, U, U, U, U, U, U, U, U, U, U, U, U, U, U, U, U, U, U, U, U, U, U, U, U, U, U] ⟨[[.d (.int .i64 y101.1.Work.e0.X), .d (.int .i64 y101.1.Work.e0.Y), .d (.int .i64 y101.1.Work.e0.Z), .d (.int .i64 y101.1.Work.e1.X), .d (.int .i64 y101.1.Work.e1.Y), .d (.int .i64 y101.1.Work.e1.Z), .d (.int .i64 y101.1.Work.e2.X), .d (.int .i64 y101.1.Work.e2.Y), .d (.int .i64 y101.1.Work.e2.Z), .d (.int .i64 y101.1.Work.e3.X), .d (.int .i64 y101.1.Work.e3.Y), .d (.int .i64 y101.1.Work.e3.Z), .d (.int .i64 y101.1.Work.e4.X), .d (.int .i64 y101.1.Work.e4.Y), .d (.int .i64 y101.1.Work.e4.Z), .d (.int .i64 y101.1.Work.e5.X), .d (.int .i64 y101.1.Work.e5.Y), .d (.int .i64 y101.1.Work.e5.Z), .d (.list (List.map encTableLength y101.1.Lengths))], [.d (.int .i64 y102.1.Work.e0.X), .d (.int .i64 y102.1.Work.e0.Y), .d (.int .i64 y102.1.Work.e0.Z), .d (.int .i64 y102.1.Work.e1.X), .d (.int .i64 y102.1.Work.e1.Y), .d (.int .i64 y102.1.Work.e1.Z), .d (.int .i64 y102.1.Work.e2.X), .d (.int .i64 y102.1.Work.e2.Y), .d (.int .i64 y102.1.Work.e2.Z), .d (.int .i64 y102.1.Work.e3.X), .d (.int .i64 y102.1.Work.e3.Y), .d (.int .i64 y102.1.Work.e3.Z), .d (.int .i64 y102.1.Work.e4.X), .d (.int .i64 y102.1.Work.e4.Y), .d (.int .i64 y102.1.Work.e4.Z), .d (.int .i64 y102.1.Work.e5.X), .d (.int .i64 y102.1.Work.e5.Y), .d (.int .i64 y102.1.Work.e5.Z), .d (.list (List.map encTableLength y102.1.Lengths))], [.d (.int .i64 y103.1.X), .d (.int .i64 y103.1.Y), .d (.int .i64 y103.1.Z)]], []⟩ rfl ?_ ?_)
  ·refine SWs.region ?_
   rcases Bool.eq_false_or_eq_true (y101.2 == 0) with hb5 | hb5
   ·rcases Bool.eq_false_or_eq_true (y102.2 == 0) with hb6 | hb6
    ·rcases Bool.eq_false_or_eq_true (y103.2 == 0) with hb7 | hb7
     ·rcases Bool.eq_false_or_eq_true (y104.2 == 0) with hb8 | hb8
      ·rcases Bool.eq_false_or_eq_true ((y103.1.X == 1000) && ((y103.1.Y == 2000) && (y103.1.Z == 74500))) with hb9 | hb9
       ·simp only [↓reduceIte, reduceCtorEq, nA, nS, nM, nE, nL, nT, nB, iT, iN, iE, and_self, SR, SV, SL, PB, ag_23, sz_23, zero_23, pl_23, gE_23, hb5, hb6, hb7, hb8, hb9]
       ·simp only [↓reduceIte, reduceCtorEq, nA, nS, nM, nE, nL, nT, nB, iT, iN, iE, and_self, SR, SV, SL, PB, ag_23, sz_23, zero_23, pl_23, gE_23, hb5, hb6, hb7, hb8, hb9]
      ·simp only [↓reduceIte, reduceCtorEq, nA, nS, nM, nE, nL, nT, nB, iT, iN, iE, and_self, SR, SV, SL, PB, hb5, hb6, hb7, hb8]
     ·simp only [↓reduceIte, reduceCtorEq, nA, nS, nM, nE, nL, nT, nB, iT, iN, iE, and_self, SR, SV, SL, PB, hb5, hb6, hb7]
    ·simp only [↓reduceIte, reduceCtorEq, nA, nS, nM, nE, nL, nT, nB, iT, iN, iE, and_self, SR, SV, SL, PB, hb5, hb6]
   ·simp only [↓reduceIte, reduceCtorEq, nA, nS, nM, nE, nL, nT, nB, iT, iN, iE, and_self, SR, SV, SL, PB, hb5]
  ·refine Mir.toK (Mir.ret fun e h => ?_)
   cases h
   simp only [↓reduceIte, reduceCtorEq, nA, nE, nL, and_self, and_true, true_and, SL, Tryd.results8]

end Go.Proofs.YtiiglghanajfcaaDoor
