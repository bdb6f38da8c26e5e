/-
  Mirrors of functions, written by wip/mir.py.
-/
import Derived.Test.YtlcfgpjgjdjpoaaDoorMBa
namespace Go.Proofs.YtlcfgpjgjdjpoaaDoor
open Go.RowKit
open Nat renaming reduceAdd → nA, reduceSub → nS, reduceMul → nM, reduceEqDiff → nE, reduceLeDiff → nL, reduceLT → nT, reduceBEq → nB
open Int renaming reduceLT → iT, reduceToNat → iN, reduceEq → iE
set_option linter.unusedVariables false
set_option linter.unusedSimpArgs false
set_option maxRecDepth 100000

def cy_Read (a0 : ApiBlock) (a1 : Int) (a2 : Int) (a3 : Int) (a4 : Bool) (a5 : CycleCycle) : Option (CycleCycle × Int) :=
  bindO (cy_Read_c1 82 a5.R a0) fun (y101 : Int) =>
  bindO (cy_Read_c1 90 a5.Z a0) fun (y102 : Int) =>
  bindO (cy_Read_c1 81 a5.Q a0) fun (y103 : Int) =>
  bindO (cy_Read_c1 70 a2 a0) fun (y104 : Int) =>
  bindO (cy_Valid (CycleCycle.mk a1 y101 y102 y103 y104 a3 a4)) fun (y105 : Int) =>
  if (y105 != 0) = true then
    some (CycleCycle.mk 0 0 0 0 0 0 false, y105)
  else
    some (CycleCycle.mk a1 y101 y102 y103 y104 a3 a4, 0)
theorem cy_Read_spec {a0 : ApiBlock} {a1 : Int} {a2 : Int} {a3 : Int} {a4 : Bool} {a5 : CycleCycle} {y : CycleCycle × Int} (h : cy_Read a0 a1 a2 a3 a4 a5 = some y) : Spec gP 86 [.agg [.d (.bool a0.Skip), .d (.list (List.map encApiWord a0.Words)), .d (.str a0.Comment)], .d (.int .i64 a1), .d (.int .i64 a2), .d (.int .i64 a3), .d (.bool a4), .agg [.d (.int .i64 a5.Code), .d (.int .i64 a5.R), .d (.int .i64 a5.Z), .d (.int .i64 a5.Q), .d (.int .i64 a5.Rate), .d (.int .i64 a5.Initial), .d (.bool a5.High)]] (.tuple [.agg [.d (.int .i64 y.1.Code), .d (.int .i64 y.1.R), .d (.int .i64 y.1.Z), .d (.int .i64 y.1.Q), .d (.int .i64 y.1.Rate), .d (.int .i64 y.1.Initial), .d (.bool y.1.High)], .d (.int .i64 y.2)]) := by
  refine spec_mir Tryd.func86 rfl (by kernel_rfl) (by kernel_rfl) (fun y : CycleCycle × Int => .tuple [.agg [.d (.int .i64 y.1.Code), .d (.int .i64 y.1.R), .d (.int .i64 y.1.Z), .d (.int .i64 y.1.Q), .d (.int .i64 y.1.Rate), .d (.int .i64 y.1.Initial), .d (.bool y.1.High)], .d (.int .i64 y.2)]) ?_ h
  unfold cy_Read
  simp only [List.replicate, List.length, nS, nA, Tryd.ntmps86, SV]
  refine Mir.seqK ?_
  refine Mir.regionW fun e h => ?_
  refine regW.alt 0 rfl ?_
  simp only [↓reduceIte, reduceCtorEq, nA, nS, nM, nE, nL, nT, nB, iT, iN, iE, and_self, SR, SV, w_none, w_eq, and_true, true_and, tkS, tk0, tkN, dpS, dp0, encApiWord]
  refine alt_boxF [.bool a0.Skip, .list (List.map encApiWord a0.Words), .str a0.Comment] _ rfl rfl ?_
  refine regW.of ?_
  simp only [↓reduceIte, reduceCtorEq, nA, nS, nM, nE, nL, nT, nB, iT, iN, iE, and_self, SR, SV, w_none, w_eq, and_true, true_and, tkS, tk0, tkN, dpS, dp0, zero_68, encApiWord]
  refine Mir.use (e := e) ?_ h
  refine Mir.seqK ?_
  refine Mir.region fun e h => ?_
  simp only [↓reduceIte, reduceCtorEq, nA, nS, nM, nE, nL, nT, nB, iT, iN, iE, and_self, SR, SV, encApiWord]
  refine Mir.use (e := e) ?_ h
  refine Mir.seqK ?_
  refine Mir.bind fun y101 hy1 => ?_
  refine Mir.bind fun y102 hy2 => ?_
  refine Mir.bind fun y103 hy3 => ?_
  refine Mir.bind fun y104 hy4 => ?_
  refine Mir.regionD [] (by kernel_rfl) fun e h => ?_
  simp only [↓reduceIte, reduceCtorEq, nA, nS, nM, nE, nL, nT, nB, iT, iN, iE, and_self, SR, SV, sepL_nil, sepL_cons, sepV_ne, sepV_d, sepV_i, true_and, Bool.and_self, fld_68_1, sz_2, ag_2, encApiWord]
  refine Spec.by (cy_Read_c1_spec hy1) (by simp only [↓reduceIte, reduceCtorEq, nA, nE, nL, and_self, and_true, true_and, SL, encApiWord]) ?_
  simp only [↓reduceIte, reduceCtorEq, nA, nS, nM, nE, nL, nT, nB, iT, iN, iE, and_self, SR, SV, sepL_nil, sepL_cons, sepV_ne, sepV_d, sepV_i, true_and, Bool.and_self, fld_68_2, sz_2, ag_2, encApiWord]
  refine Spec.by (cy_Read_c1_spec hy2) (by simp only [↓reduceIte, reduceCtorEq, nA, nE, nL, and_self, and_true, true_and, SL, encApiWord]) ?_
  simp only [↓reduceIte, reduceCtorEq, nA, nS, nM, nE, nL, nT, nB, iT, iN, iE, and_self, SR, SV, sepL_nil, sepL_cons, sepV_ne, sepV_d, sepV_i, true_and, Bool.and_self, fld_68_3, sz_2, ag_2, encApiWord]
  refine Spec.by (cy_Read_c1_spec hy3) (by simp only [↓reduceIte, reduceCtorEq, nA, nE, nL, and_self, and_true, true_and, SL, encApiWord]) ?_
  simp only [↓reduceIte, reduceCtorEq, nA, nS, nM, nE, nL, nT, nB, iT, iN, iE, and_self, SR, SV, sepL_nil, sepL_cons, sepV_ne, sepV_d, sepV_i, true_and, Bool.and_self, encApiWord]
  refine Spec.by (cy_Read_c1_spec hy4) (by simp only [↓reduceIte, reduceCtorEq, nA, nE, nL, and_self, and_true, true_and, SL, encApiWord]) ?_
  simp only [↓reduceIte, reduceCtorEq, nA, nS, nM, nE, nL, nT, nB, iT, iN, iE, and_self, SR, SV, sepL_nil, sepL_cons, sepV_ne, sepV_d, sepV_i, true_and, Bool.and_self, zero_68, pl_68, sz_68, encApiWord]
  refine Mir.use (e := e) ?_ h
  refine Mir.seqK ?_
  refine Mir.seqK ?_
  refine Mir.bind fun y105 hy5 => ?_
  refine Mir.region fun e h => ?_
  simp only [↓reduceIte, reduceCtorEq, nA, nS, nM, nE, nL, nT, nB, iT, iN, iE, and_self, SR, SV, ag_68, sz_68, encApiWord]
  refine SpecS.by (cy_Valid_spec hy5) (by simp only [↓reduceIte, reduceCtorEq, nA, nE, nL, and_self, and_true, true_and, SL, encApiWord]) ?_
  simp only [↓reduceIte, reduceCtorEq, nA, nS, nM, nE, nL, nT, nB, iT, iN, iE, and_self, SR, SV, encApiWord]
  refine Mir.use (e := e) ?_ h
  refine Mir.seqK ?_
  refine Mir.region fun e h => ?_
  simp only [↓reduceIte, reduceCtorEq, nA, nS, nM, nE, nL, nT, nB, iT, iN, iE, and_self, SR, SV, encApiWord]
  refine Mir.use (e := e) ?_ h
  refine Mir.cond rfl (fun hb7 => ?_) (fun hb7 => ?_)
  ·refine Mir.seqK ?_
   refine Mir.region fun e h => ?_
   simp only [↓reduceIte, reduceCtorEq, nA, nS, nM, nE, nL, nT, nB, iT, iN, iE, and_self, SR, SV, zero_68, pl_68, sz_68, encApiWord]
   refine Mir.use (e := e) ?_ h
   refine Mir.ret fun e h => ?_
   cases h
   simp only [↓reduceIte, reduceCtorEq, nA, nE, nL, and_self, and_true, true_and, SL, encApiWord, Tryd.results86, ag_68, sz_68]
  ·refine Mir.skip ?_
   refine Mir.toK ?_
   refine Mir.seqK ?_
   refine Mir.region fun e h => ?_
   simp only [↓reduceIte, reduceCtorEq, nA, nS, nM, nE, nL, nT, nB, iT, iN, iE, and_self, SR, SV, ag_68, sz_68, encApiWord]
   refine Mir.use (e := e) ?_ h
   refine Mir.ret fun e h => ?_
   cases h
   simp only [↓reduceIte, reduceCtorEq, nA, nE, nL, and_self, and_true, true_and, SL, encApiWord, Tryd.results86, ag_68, sz_68]

def cy_Depths (a0 : CycleCycle) : Option ((List Int) × Int) :=
  bindO (cy_Valid a0) fun (y101 : Int) =>
  if (y101 != 0) = true then
    some ([], y101)
  else
    bindO (if (a0.Code == 83000) = true then
          loopX (fun (v121 : (List Int) × Int) =>
            if (decide (v121.2 > a0.Z)) = true then
              guardO (okLen (v121.1.length + 1)) (
              some (.go (v121.1 ++ [v121.2], IntKind.i64.wrap (v121.2 - a0.Q))))
            else
              some (.ret v121.1)) fuel ([], IntKind.i64.wrap (a0.R - a0.Q))
        else
          some []) fun (v115 : (List Int)) =>
    guardO (okLen (v115.length + 1)) (
    some (v115 ++ [a0.Z], 0))
theorem cy_Depths_spec {a0 : CycleCycle} {y : (List Int) × Int} (h : cy_Depths a0 = some y) : Spec gP 98 [.agg [.d (.int .i64 a0.Code), .d (.int .i64 a0.R), .d (.int .i64 a0.Z), .d (.int .i64 a0.Q), .d (.int .i64 a0.Rate), .d (.int .i64 a0.Initial), .d (.bool a0.High)]] (.tuple [.d (.list (List.map (eInt .i64) y.1)), .d (.int .i64 y.2)]) := by
  refine spec_mir Tryd.func98 rfl (by kernel_rfl) (by kernel_rfl) (fun y : (List Int) × Int => .tuple [.d (.list (List.map (eInt .i64) y.1)), .d (.int .i64 y.2)]) ?_ h
  unfold cy_Depths
  simp only [List.replicate, List.length, nS, nA, Tryd.ntmps98, SV]
  refine Mir.seqK ?_
  refine Mir.region fun e h => ?_
  simp only [↓reduceIte, reduceCtorEq, nA, nS, nM, nE, nL, nT, nB, iT, iN, iE, and_self, SR, SV, eInt]
  refine Mir.use (e := e) ?_ h
  refine Mir.seqK ?_
  refine Mir.seqK ?_
  refine Mir.bind fun y101 hy1 => ?_
  refine Mir.region fun e h => ?_
  simp only [↓reduceIte, reduceCtorEq, nA, nS, nM, nE, nL, nT, nB, iT, iN, iE, and_self, SR, SV, ag_68, sz_68, eInt]
  refine SpecS.by (cy_Valid_spec hy1) (by simp only [↓reduceIte, reduceCtorEq, nA, nE, nL, and_self, and_true, true_and, SL, eInt]) ?_
  simp only [↓reduceIte, reduceCtorEq, nA, nS, nM, nE, nL, nT, nB, iT, iN, iE, and_self, SR, SV, eInt]
  refine Mir.use (e := e) ?_ h
  refine Mir.seqK ?_
  refine Mir.region fun e h => ?_
  simp only [↓reduceIte, reduceCtorEq, nA, nS, nM, nE, nL, nT, nB, iT, iN, iE, and_self, SR, SV, eInt]
  refine Mir.use (e := e) ?_ h
  refine Mir.cond rfl (fun hb3 => ?_) (fun hb3 => ?_)
  ·refine Mir.seqK ?_
   refine Mir.region fun e h => ?_
   simp only [↓reduceIte, reduceCtorEq, nA, nS, nM, nE, nL, nT, nB, iT, iN, iE, and_self, SR, SV]
   refine Mir.use (e := e) ?_ h
   refine Mir.ret fun e h => ?_
   cases h
   simp only [↓reduceIte, reduceCtorEq, nA, nE, nL, and_self, and_true, true_and, SL, Tryd.results98]
  ·refine Mir.skip ?_
   refine Mir.toK ?_
   refine Mir.seqK ?_
   refine Mir.region fun e h => ?_
   simp only [↓reduceIte, reduceCtorEq, nA, nS, nM, nE, nL, nT, nB, iT, iN, iE, and_self, SR, SV, eInt]
   refine Mir.use (e := e) ?_ h
   refine Mir.seqK ?_
   refine Mir.seqK ?_
   refine Mir.region fun e h => ?_
   simp only [↓reduceIte, reduceCtorEq, nA, nS, nM, nE, nL, nT, nB, iT, iN, iE, and_self, SR, SV, fld_68_0, sz_2, ag_2, eInt]
   refine Mir.use (e := e) ?_ h
   refine Mir.gh [.slot 5 2] rfl ?_
   refine Mir.joinO (fun v115 : (List Int) => [U, .ptr 0 0, U, U, U, .own 0 (List.map (eInt .i64) v115), U, U, U, U, U, U, U, U, U, U, U, U, U, U, U, U, U, U, U, U, U, U, U, U, U, U, U, U, U, U, U]) (fun v115 : (List Int) => ⟨[[.d (.int .i64 a0.Code), .d (.int .i64 a0.R), .d (.int .i64 a0.Z), .d (.int .i64 a0.Q), .d (.int .i64 a0.Rate), .d (.int .i64 a0.Initial), .d (.bool a0.High)]], [(2, v115.length)]⟩) (fun _ => rfl) ?_ ?_
   ·refine Mir.cond rfl (fun hb28 => ?_) (fun hb28 => ?_)
    ·refine Mir.seqK ?_
     refine Mir.region fun e h => ?_
     simp only [↓reduceIte, reduceCtorEq, nA, nS, nM, nE, nL, nT, nB, iT, iN, iE, and_self, SR, SV, fld_68_1, sz_2, ag_2, fld_68_3, eInt]
     refine Mir.use (e := e) ?_ h
     refine Mir.block ?_
     refine Mir.loop (fun v121 : (List Int) × Int => [U, .ptr 0 0, U, U, U, .own 0 (List.map (eInt .i64) v121.1), .d (.int .i64 v121.2), U, U, U, U, U, U, U, U, U, U, U, U, U, U, U, U, U, U, U, U, U, U, U, U, U, U, U, U, U, U]) (fun v121 : (List Int) × Int => ⟨[[.d (.int .i64 a0.Code), .d (.int .i64 a0.R), .d (.int .i64 a0.Z), .d (.int .i64 a0.Q), .d (.int .i64 a0.Rate), .d (.int .i64 a0.Initial), .d (.bool a0.High)]], [(2, v121.1.length)]⟩) (fun _ => rfl) (by simp only [↓reduceIte, reduceCtorEq, nA, nE, nL, and_self, and_true, true_and, SL, eInt]) (by simp only [↓reduceIte, reduceCtorEq, nA, nE, nL, and_self, and_true, true_and, SL, eInt]) fun v121 => ?_
     refine Mir.seqK ?_
     refine Mir.seqK ?_
     refine Mir.region fun e h => ?_
     simp only [↓reduceIte, reduceCtorEq, nA, nS, nM, nE, nL, nT, nB, iT, iN, iE, and_self, SR, SV, fld_68_2, sz_2, ag_2, eInt]
     refine Mir.use (e := e) ?_ h
     refine Mir.cond rfl (fun hb36 => ?_) (fun hb36 => ?_)
     ·refine Mir.skip ?_
      refine Mir.toK ?_
      refine Mir.seqK ?_
      refine Mir.block ?_
      refine Mir.guard fun q38 => ?_
      refine Mir.region fun e h => ?_
      simp only [↓reduceIte, reduceCtorEq, nA, nS, nM, nE, nL, nT, nB, iT, iN, iE, and_self, SR, SV, und_98, sz_2, zero_2, (nr rfl : okLen 1 = true), app_98, al_eInt, q38, eInt]
      refine Mir.use (e := e) ?_ h
      refine Mir.region fun e h => ?_
      simp only [↓reduceIte, reduceCtorEq, nA, nS, nM, nE, nL, nT, nB, iT, iN, iE, and_self, SR, SV, fld_68_3, sz_2, ag_2, eInt]
      cases h
      simp only [↓reduceIte, reduceCtorEq, nA, nE, nL, and_self, and_true, true_and, SL, eInt, Tryd.results98]
     ·refine Mir.exit fun e h => ?_
      cases h
      simp only [↓reduceIte, reduceCtorEq, nA, nE, nL, and_self, and_true, true_and, SL, eInt, Tryd.results98]
    ·refine Mir.skip fun e h => ?_
     cases h
     simp only [↓reduceIte, reduceCtorEq, nA, nE, nL, and_self, and_true, true_and, SL, eInt, Tryd.results98]
   ·intro v115
    refine Mir.toK ?_
    refine Mir.seqK ?_
    refine Mir.guard fun q39 => ?_
    refine Mir.region fun e h => ?_
    simp only [↓reduceIte, reduceCtorEq, nA, nS, nM, nE, nL, nT, nB, iT, iN, iE, and_self, SR, SV, fld_68_2, sz_2, ag_2, und_98, zero_2, (nr rfl : okLen 1 = true), app_98, al_eInt, q39, eInt]
    refine Mir.use (e := e) ?_ h
    refine Mir.ret fun e h => ?_
    cases h
    simp only [↓reduceIte, reduceCtorEq, nA, nE, nL, and_self, and_true, true_and, SL, eInt, Tryd.results98]

def cy_Expand (a0 : CycleCycle) (a1 : ApiPos) (a2 : (List ApiGrid2)) : Option ((List ApiMove) × Int) :=
  bindO (cy_Depths a0) fun (y101 : (List Int) × Int) =>
  if (y101.2 != 0) = true then
    some ([], y101.2)
  else
    bindO (bindO (cy_far a1.X) fun (y102 : Bool) =>
        if y102 = true then
          some true
        else
          bindO (cy_far a1.Y) fun (y103 : Bool) =>
          if y103 = true then
            some true
          else
            bindO (cy_far a1.Z) fun (y104 : Bool) =>
            some y104) fun (v105 : Bool) =>
    bindO (guardO (okIdx a2) (
        rangeX (fun (i174 : Nat) (e176 : ApiGrid2) (v175 : Bool) =>
          bindO (if v175 = true then
                some true
              else
                bindO (cy_far e176.X) fun (y180 : Bool) =>
                if y180 = true then
                  some true
                else
                  bindO (cy_far e176.Y) fun (y181 : Bool) =>
                  some y181) fun (v182 : Bool) =>
          some (.go v182)) (fun (v175 : Bool) => some v175) a2 0 v105)) fun (v144 : Bool) =>
    if v144 = true then
      some ([], 11)
    else
      bindX (guardO (okIdx a2) (
          rangeX (fun (i1965 : Nat) (e1967 : ApiGrid2) (v1966 : ApiPos × (List ApiMove)) =>
            bindX (bindO (if (decide (v1966.1.Z < a0.R)) = true then
                      bindO (if (!((v1966.1.X == v1966.1.X) && ((v1966.1.Y == v1966.1.Y) && (a0.R == v1966.1.Z)))) = true then
                            guardO (okLen (v1966.2.length + 1)) (
                            some (a0.R, v1966.2 ++ [ApiMove.mk 1 (ApiPos.mk v1966.1.X v1966.1.Y a0.R) (ApiGrid2.mk 0 0) 0]))
                          else
                            some (v1966.1.Z, v1966.2)) fun (v2040 : Int × (List ApiMove)) =>
                      some (v2040.1, v2040.2)
                    else
                      some (v1966.1.Z, v1966.2)) fun (v2039 : Int × (List ApiMove)) =>
                bindO (if (!((e1967.X == v1966.1.X) && ((e1967.Y == v1966.1.Y) && (v2039.1 == v2039.1)))) = true then
                      guardO (okLen (v2039.2.length + 1)) (
                      some (ApiPos.mk e1967.X e1967.Y v2039.1, v2039.2 ++ [ApiMove.mk 1 (ApiPos.mk e1967.X e1967.Y v2039.1) (ApiGrid2.mk 0 0) 0]))
                    else
                      some (ApiPos.mk v1966.1.X v1966.1.Y v2039.1, v2039.2)) fun (v2041 : ApiPos × (List ApiMove)) =>
                bindO (if (!((e1967.X == v2041.1.X) && ((e1967.Y == v2041.1.Y) && (a0.R == v2041.1.Z)))) = true then
                      guardO (okLen (v2041.2.length + 1)) (
                      some (ApiPos.mk e1967.X e1967.Y a0.R, v2041.2 ++ [ApiMove.mk 1 (ApiPos.mk e1967.X e1967.Y a0.R) (ApiGrid2.mk 0 0) 0]))
                    else
                      some (v2041.1, v2041.2)) fun (v2042 : ApiPos × (List ApiMove)) =>
                bindO (guardO (okIdx y101.1) (
                    rangeX (fun (i2097 : Nat) (e2099 : Int) (v2098 : ApiPos × (List ApiMove)) =>
                      bindO (if (!((e1967.X == v2098.1.X) && ((e1967.Y == v2098.1.Y) && (e2099 == v2098.1.Z)))) = true then
                            guardO (okLen (v2098.2.length + 1)) (
                            some (ApiPos.mk e1967.X e1967.Y e2099, v2098.2 ++ [ApiMove.mk 2 (ApiPos.mk e1967.X e1967.Y e2099) (ApiGrid2.mk 0 0) a0.Rate]))
                          else
                            some (v2098.1, v2098.2)) fun (v2102 : ApiPos × (List ApiMove)) =>
                      bindO (if (!((e1967.X == v2102.1.X) && ((e1967.Y == v2102.1.Y) && (a0.R == v2102.1.Z)))) = true then
                            guardO (okLen (v2102.2.length + 1)) (
                            some (ApiPos.mk e1967.X e1967.Y a0.R, v2102.2 ++ [ApiMove.mk 1 (ApiPos.mk e1967.X e1967.Y a0.R) (ApiGrid2.mk 0 0) 0]))
                          else
                            some (v2102.1, v2102.2)) fun (v2103 : ApiPos × (List ApiMove)) =>
                      some (.go (v2103.1, v2103.2))) (fun (v2098 : ApiPos × (List ApiMove)) => some (v2098.1, v2098.2)) y101.1 0 (v2042.1, v2042.2))) fun (v2073 : ApiPos × (List ApiMove)) =>
                bindO (if a0.High = true then
                      bindO (if (!((e1967.X == v2073.1.X) && ((e1967.Y == v2073.1.Y) && (a0.Initial == v2073.1.Z)))) = true then
                            guardO (okLen (v2073.2.length + 1)) (
                            some (ApiPos.mk e1967.X e1967.Y a0.Initial, v2073.2 ++ [ApiMove.mk 1 (ApiPos.mk e1967.X e1967.Y a0.Initial) (ApiGrid2.mk 0 0) 0]))
                          else
                            some (v2073.1, v2073.2)) fun (v2106 : ApiPos × (List ApiMove)) =>
                      some (v2106.1, v2106.2)
                    else
                      some (v2073.1, v2073.2)) fun (v2105 : ApiPos × (List ApiMove)) =>
                if (decide ((v2105.2.length : Int) > 20000)) = true then
                  some (.ret (.ret (.ret ([], 3))))
                else
                  some (.go (v2105.1, v2105.2))) fun (v2037 : ApiPos × (List ApiMove)) =>
            some (.go (v2037.1, v2037.2))) (fun (v1966 : ApiPos × (List ApiMove)) => some (.go (v1966.1, v1966.2))) a2 0 (a1, []))) fun (v1536 : ApiPos × (List ApiMove)) =>
      some (v1536.2, 0)
set_option maxHeartbeats 8000000 in
theorem cy_Expand_spec {a0 : CycleCycle} {a1 : ApiPos} {a2 : (List ApiGrid2)} {y : (List ApiMove) × Int} (h : cy_Expand a0 a1 a2 = some y) : Spec gP 87 [.agg [.d (.int .i64 a0.Code), .d (.int .i64 a0.R), .d (.int .i64 a0.Z), .d (.int .i64 a0.Q), .d (.int .i64 a0.Rate), .d (.int .i64 a0.Initial), .d (.bool a0.High)], .agg [.d (.int .i64 a1.X), .d (.int .i64 a1.Y), .d (.int .i64 a1.Z)], .d (.list (List.map encApiGrid2 a2))] (.tuple [.d (.list (List.map encApiMove y.1)), .d (.int .i64 y.2)]) := by
  refine spec_mir Tryd.func87 rfl (by kernel_rfl) (by kernel_rfl) (fun y : (List ApiMove) × Int => .tuple [.d (.list (List.map encApiMove y.1)), .d (.int .i64 y.2)]) ?_ h
  unfold cy_Expand
  simp only [List.replicate, List.length, nS, nA, Tryd.ntmps87, SV]
  refine Mir.seqK ?_
  refine Mir.region fun e h => ?_
  simp only [↓reduceIte, reduceCtorEq, nA, nS, nM, nE, nL, nT, nB, iT, iN, iE, and_self, SR, SV, eInt, encApiGrid2, encApiMove]
  refine Mir.use (e := e) ?_ h
  refine Mir.seqK ?_
  refine Mir.bind fun y101 hy1 => ?_
  refine Mir.region fun e h => ?_
  simp only [↓reduceIte, reduceCtorEq, nA, nS, nM, nE, nL, nT, nB, iT, iN, iE, and_self, SR, SV, ag_68, sz_68, eInt, encApiGrid2, encApiMove]
  refine SpecS.by (cy_Depths_spec hy1) (by simp only [↓reduceIte, reduceCtorEq, nA, nE, nL, and_self, and_true, true_and, SL, eInt, encApiGrid2, encApiMove]) ?_
  simp only [↓reduceIte, reduceCtorEq, nA, nS, nM, nE, nL, nT, nB, iT, iN, iE, and_self, SR, SV, eInt, encApiGrid2, encApiMove]
  refine Mir.use (e := e) ?_ h
  refine Mir.seqK ?_
  refine Mir.seqK ?_
  refine Mir.region fun e h => ?_
  simp only [↓reduceIte, reduceCtorEq, nA, nS, nM, nE, nL, nT, nB, iT, iN, iE, and_self, SR, SV, eInt, encApiGrid2, encApiMove]
  refine Mir.use (e := e) ?_ h
  refine Mir.cond rfl (fun hb3 => ?_) (fun hb3 => ?_)
  ·refine Mir.seqK ?_
   refine Mir.region fun e h => ?_
   simp only [↓reduceIte, reduceCtorEq, nA, nS, nM, nE, nL, nT, nB, iT, iN, iE, and_self, SR, SV, encApiGrid2]
   refine Mir.use (e := e) ?_ h
   refine Mir.ret fun e h => ?_
   cases h
   simp only [↓reduceIte, reduceCtorEq, nA, nE, nL, and_self, and_true, true_and, SL, encApiGrid2, Tryd.results87]
  ·refine Mir.skip ?_
   refine Mir.toK ?_
   refine Mir.seqK ?_
   refine Mir.joinO (fun v105 : Bool => [U, U, .d (.list (List.map encApiGrid2 a2)), .ptr 0 0, .ptr 1 0, U, U, U, .d (.list (List.map (eInt .i64) y101.1)), U, .d (.bool v105), U, U, U, U, U, U, U, U, U, U, U, U, U, U, U, U, U, U, U, U, U, U, U, U, U, U, U, U, U, U, U, U, U, U, U, U, U, U, U, U, U, U, U, U, U, U, U, U, U, U, U, U, U, U, U, U, U, U, U, U, U, U, U, U, U, U, U, U, U, U, U, U, U, U, U, U, U, U, U, U, U, U, U, U, U, U, U, U, U, U, U, U, U, U, U, U, U, U, U, U, U, U, U, U, U, U, U, U, U, U, U, U, U, U, U, U, U, U, U, U, U, U, U, U, U]) (fun v105 : Bool => ⟨[[.d (.int .i64 a0.Code), .d (.int .i64 a0.R), .d (.int .i64 a0.Z), .d (.int .i64 a0.Q), .d (.int .i64 a0.Rate), .d (.int .i64 a0.Initial), .d (.bool a0.High)], [.d (.int .i64 a1.X), .d (.int .i64 a1.Y), .d (.int .i64 a1.Z)]], []⟩) (fun _ => rfl) ?_ ?_
   ·refine Mir.bind fun y102 hy4 => ?_
    refine Mir.ite (fun hb5 => ?_) (fun hb5 => ?_)
    ·refine Mir.region fun e h => ?_
     simp only [↓reduceIte, reduceCtorEq, nA, nS, nM, nE, nL, nT, nB, iT, iN, iE, and_self, SR, SV, fld_24_0, sz_2, ag_2, encApiGrid2, hb5]
     refine SpecS.by (cy_far_spec hy4) (by simp only [↓reduceIte, reduceCtorEq, nA, nE, nL, and_self, and_true, true_and, SL, encApiGrid2, hb5]) ?_
     simp only [↓reduceIte, reduceCtorEq, nA, nS, nM, nE, nL, nT, nB, iT, iN, iE, and_self, SR, SV, encApiGrid2, hb5]
     cases h
     simp only [↓reduceIte, reduceCtorEq, nA, nE, nL, and_self, and_true, true_and, SL, encApiGrid2, hb5]
    ·refine Mir.bind fun y103 hy6 => ?_
     refine Mir.ite (fun hb7 => ?_) (fun hb7 => ?_)
     ·refine Mir.region fun e h => ?_
      simp only [↓reduceIte, reduceCtorEq, nA, nS, nM, nE, nL, nT, nB, iT, iN, iE, and_self, SR, SV, fld_24_0, sz_2, ag_2, encApiGrid2, hb5, hb7]
      refine SpecS.by (cy_far_spec hy4) (by simp only [↓reduceIte, reduceCtorEq, nA, nE, nL, and_self, and_true, true_and, SL, encApiGrid2, hb5, hb7]) ?_
      simp only [↓reduceIte, reduceCtorEq, nA, nS, nM, nE, nL, nT, nB, iT, iN, iE, and_self, SR, SV, fld_24_1, sz_2, ag_2, encApiGrid2, hb5, hb7]
      refine SpecS.by (cy_far_spec hy6) (by simp only [↓reduceIte, reduceCtorEq, nA, nE, nL, and_self, and_true, true_and, SL, encApiGrid2, hb5, hb7]) ?_
      simp only [↓reduceIte, reduceCtorEq, nA, nS, nM, nE, nL, nT, nB, iT, iN, iE, and_self, SR, SV, encApiGrid2, hb5, hb7]
      cases h
      simp only [↓reduceIte, reduceCtorEq, nA, nE, nL, and_self, and_true, true_and, SL, encApiGrid2, hb5, hb7]
     ·refine Mir.bind fun y104 hy8 => ?_
      refine Mir.region fun e h => ?_
      simp only [↓reduceIte, reduceCtorEq, nA, nS, nM, nE, nL, nT, nB, iT, iN, iE, and_self, SR, SV, fld_24_0, sz_2, ag_2, encApiGrid2, hb5, hb7]
      refine SpecS.by (cy_far_spec hy4) (by simp only [↓reduceIte, reduceCtorEq, nA, nE, nL, and_self, and_true, true_and, SL, encApiGrid2, hb5, hb7]) ?_
      simp only [↓reduceIte, reduceCtorEq, nA, nS, nM, nE, nL, nT, nB, iT, iN, iE, and_self, SR, SV, fld_24_1, sz_2, ag_2, encApiGrid2, hb5, hb7]
      refine SpecS.by (cy_far_spec hy6) (by simp only [↓reduceIte, reduceCtorEq, nA, nE, nL, and_self, and_true, true_and, SL, encApiGrid2, hb5, hb7]) ?_
      simp only [↓reduceIte, reduceCtorEq, nA, nS, nM, nE, nL, nT, nB, iT, iN, iE, and_self, SR, SV, fld_24_2, sz_2, ag_2, encApiGrid2, hb5, hb7]
      refine SpecS.by (cy_far_spec hy8) (by simp only [↓reduceIte, reduceCtorEq, nA, nE, nL, and_self, and_true, true_and, SL, encApiGrid2, hb5, hb7]) ?_
      simp only [↓reduceIte, reduceCtorEq, nA, nS, nM, nE, nL, nT, nB, iT, iN, iE, and_self, SR, SV, encApiGrid2, hb5, hb7]
      cases h
      simp only [↓reduceIte, reduceCtorEq, nA, nE, nL, and_self, and_true, true_and, SL, encApiGrid2, hb5, hb7]
   ·intro v105
    refine Mir.toK ?_
    refine Mir.seqK ?_
    refine Mir.seqK ?_
    refine Mir.region fun e h => ?_
    simp only [↓reduceIte, reduceCtorEq, nA, nS, nM, nE, nL, nT, nB, iT, iN, iE, and_self, SR, SV, und_154, eInt, encApiGrid2, encApiMove]
    refine Mir.use (e := e) ?_ h
    refine Mir.joinO (fun v144 : Bool => [U, U, .d (.list (List.map encApiGrid2 a2)), .ptr 0 0, .ptr 1 0, U, U, U, .d (.list (List.map (eInt .i64) y101.1)), U, .d (.bool v144), U, U, U, U, U, U, U, U, U, U, U, U, U, U, U, U, U, U, U, U, U, U, U, U, U, U, U, U, U, U, U, U, U, U, U, U, U, U, U, U, U, U, U, U, U, U, U, U, U, U, U, U, U, U, U, U, U, U, U, U, U, U, U, U, U, U, U, U, U, U, U, U, U, U, U, U, U, U, U, U, U, U, U, U, U, U, U, U, U, U, U, U, U, U, U, U, U, U, U, U, U, U, U, U, U, U, U, U, U, U, U, U, U, U, U, U, U, U, U, U, U, U, U, U, U]) (fun v144 : Bool => ⟨[[.d (.int .i64 a0.Code), .d (.int .i64 a0.R), .d (.int .i64 a0.Z), .d (.int .i64 a0.Q), .d (.int .i64 a0.Rate), .d (.int .i64 a0.Initial), .d (.bool a0.High)], [.d (.int .i64 a1.X), .d (.int .i64 a1.Y), .d (.int .i64 a1.Z)]], []⟩) (fun _ => rfl) ?_ ?_
    ·refine Mir.block ?_
     refine Mir.guard fun qg94 => ?_
     refine Mir.range (fun (i174 : Nat) (v175 : Bool) => [U, U, .d (.list (List.map encApiGrid2 a2)), .ptr 0 0, .ptr 1 0, U, U, U, .d (.list (List.map (eInt .i64) y101.1)), U, .d (.bool v175), U, U, U, U, U, U, U, U, U, U, U, U, U, U, U, U, U, U, U, U, U, U, U, U, U, U, U, U, U, U, .d (.list (List.map encApiGrid2 a2)), .d (.int .i64 (a2.length : Int)), .d (.int .i64 (i174 : Int)), U, U, U, U, U, U, U, U, U, U, U, U, U, U, U, U, U, U, U, U, U, U, U, U, U, U, U, U, U, U, U, U, U, U, U, U, U, U, U, U, U, U, U, U, U, U, U, U, U, U, U, U, U, U, U, U, U, U, U, U, U, U, U, U, U, U, U, U, U, U, U, U, U, U, U, U, U, U, U, U, U, U, U, U, U, U, U, U, U, U, U, U]) (fun (i174 : Nat) (v175 : Bool) => ⟨[[.d (.int .i64 a0.Code), .d (.int .i64 a0.R), .d (.int .i64 a0.Z), .d (.int .i64 a0.Q), .d (.int .i64 a0.Rate), .d (.int .i64 a0.Initial), .d (.bool a0.High)], [.d (.int .i64 a1.X), .d (.int .i64 a1.Y), .d (.int .i64 a1.Z)]], []⟩) qg94 (fun _ _ => rfl) (by simp only [↓reduceIte, reduceCtorEq, nA, nE, nL, and_self, and_true, true_and, SL, encApiGrid2, (nr rfl : ((0 : Nat) : Int) = 0)]) (by simp only [↓reduceIte, reduceCtorEq, nA, nE, nL, and_self, and_true, true_and, SL, encApiGrid2, (nr rfl : ((0 : Nat) : Int) = 0)]) ?_ ?_
     ·intro i174 e176 v175 qr92
      refine Mir.seqK ?_
      refine Mir.region fun e h => ?_
      simp only [↓reduceIte, reduceCtorEq, nA, nS, nM, nE, nL, nT, nB, iT, iN, iE, and_self, SR, SV, qr92, encApiGrid2]
      refine Mir.use (e := e) ?_ h
      refine Mir.seqK ?_
      refine Mir.condT rfl ?_
      refine Mir.skip ?_
      refine Mir.toK ?_
      refine Mir.seqK ?_
      refine Mir.block ?_
      refine Mir.seqK ?_
      refine Mir.region fun e h => ?_
      simp only [↓reduceIte, reduceCtorEq, nA, nS, nM, nE, nL, nT, nB, iT, iN, iE, and_self, SR, SV, und_154, sz_153, qr92, Int.toNat_natCast, ag_153, zero_153, encApiGrid2]
      refine Mir.use (e := e) ?_ h
      refine Mir.joinO (fun v182 : Bool => [U, U, .d (.list (List.map encApiGrid2 a2)), .ptr 0 0, .ptr 1 0, U, U, U, .d (.list (List.map (eInt .i64) y101.1)), U, .d (.bool v182), U, U, U, U, U, U, U, U, U, U, U, U, U, U, U, U, U, U, U, U, U, U, U, U, U, U, U, U, U, U, .d (.list (List.map encApiGrid2 a2)), .d (.int .i64 (a2.length : Int)), .d (.int .i64 (i174 : Int)), U, U, U, U, U, U, U, U, U, U, U, U, U, U, U, U, U, U, U, U, U, U, U, U, U, U, U, U, U, U, U, U, U, U, U, U, U, U, U, U, U, U, U, U, U, U, U, U, U, U, U, U, U, U, U, U, U, U, U, U, U, U, U, U, U, U, U, U, U, U, U, U, U, U, U, U, U, U, U, U, U, U, U, U, U, U, U, U, U, U, U, U]) (fun v182 : Bool => ⟨[[.d (.int .i64 a0.Code), .d (.int .i64 a0.R), .d (.int .i64 a0.Z), .d (.int .i64 a0.Q), .d (.int .i64 a0.Rate), .d (.int .i64 a0.Initial), .d (.bool a0.High)], [.d (.int .i64 a1.X), .d (.int .i64 a1.Y), .d (.int .i64 a1.Z)], [.d (.int .i64 e176.X), .d (.int .i64 e176.Y)]], []⟩) (fun _ => rfl) ?_ ?_
      ·refine Mir.ite (fun hb99 => ?_) (fun hb99 => ?_)
       ·refine Mir.region fun e h => ?_
        simp only [↓reduceIte, reduceCtorEq, nA, nS, nM, nE, nL, nT, nB, iT, iN, iE, and_self, SR, SV, encApiGrid2, hb99]
        cases h
        simp only [↓reduceIte, reduceCtorEq, nA, nE, nL, and_self, and_true, true_and, SL, encApiGrid2, hb99]
       ·refine Mir.bind fun y180 hy100 => ?_
        refine Mir.ite (fun hb101 => ?_) (fun hb101 => ?_)
        ·refine Mir.region fun e h => ?_
         simp only [↓reduceIte, reduceCtorEq, nA, nS, nM, nE, nL, nT, nB, iT, iN, iE, and_self, SR, SV, fld_153_0, sz_2, ag_2, encApiGrid2, hb99, hb101]
         refine SpecS.by (cy_far_spec hy100) (by simp only [↓reduceIte, reduceCtorEq, nA, nE, nL, and_self, and_true, true_and, SL, encApiGrid2, hb99, hb101]) ?_
         simp only [↓reduceIte, reduceCtorEq, nA, nS, nM, nE, nL, nT, nB, iT, iN, iE, and_self, SR, SV, encApiGrid2, hb99, hb101]
         cases h
         simp only [↓reduceIte, reduceCtorEq, nA, nE, nL, and_self, and_true, true_and, SL, encApiGrid2, hb99, hb101]
        ·refine Mir.bind fun y181 hy102 => ?_
         refine Mir.region fun e h => ?_
         simp only [↓reduceIte, reduceCtorEq, nA, nS, nM, nE, nL, nT, nB, iT, iN, iE, and_self, SR, SV, fld_153_0, sz_2, ag_2, encApiGrid2, hb99, hb101]
         refine SpecS.by (cy_far_spec hy100) (by simp only [↓reduceIte, reduceCtorEq, nA, nE, nL, and_self, and_true, true_and, SL, encApiGrid2, hb99, hb101]) ?_
         simp only [↓reduceIte, reduceCtorEq, nA, nS, nM, nE, nL, nT, nB, iT, iN, iE, and_self, SR, SV, fld_153_1, sz_2, ag_2, encApiGrid2, hb99, hb101]
         refine SpecS.by (cy_far_spec hy102) (by simp only [↓reduceIte, reduceCtorEq, nA, nE, nL, and_self, and_true, true_and, SL, encApiGrid2, hb99, hb101]) ?_
         simp only [↓reduceIte, reduceCtorEq, nA, nS, nM, nE, nL, nT, nB, iT, iN, iE, and_self, SR, SV, encApiGrid2, hb99, hb101]
         cases h
         simp only [↓reduceIte, reduceCtorEq, nA, nE, nL, and_self, and_true, true_and, SL, encApiGrid2, hb99, hb101]
      ·intro v182
       refine Mir.toB ?_
       refine Mir.toK ?_
       refine Mir.region fun e h => ?_
       simp only [↓reduceIte, reduceCtorEq, nA, nS, nM, nE, nL, nT, nB, iT, iN, iE, and_self, SR, SV, encApiGrid2]
       cases h
       simp only [↓reduceIte, reduceCtorEq, nA, nE, nL, and_self, and_true, true_and, SL, encApiGrid2, Tryd.results87, qr92]
     ·intro v175 qd93
      refine Mir.seqK ?_
      refine Mir.region fun e h => ?_
      simp only [↓reduceIte, reduceCtorEq, nA, nS, nM, nE, nL, nT, nB, iT, iN, iE, and_self, SR, SV, qd93, encApiGrid2]
      refine Mir.use (e := e) ?_ h
      refine Mir.seqK ?_
      refine Mir.condF rfl ?_
      refine Mir.exit fun e h => ?_
      cases h
      simp only [↓reduceIte, reduceCtorEq, nA, nE, nL, and_self, and_true, true_and, SL, encApiGrid2, Tryd.results87]
    ·intro v144
     refine Mir.toK ?_
     refine Mir.seqK ?_
     refine Mir.seqK ?_
     refine Mir.region fun e h => ?_
     simp only [↓reduceIte, reduceCtorEq, nA, nS, nM, nE, nL, nT, nB, iT, iN, iE, and_self, SR, SV, eInt, encApiGrid2, encApiMove]
     refine Mir.use (e := e) ?_ h
     refine Mir.cond rfl (fun hb104 => ?_) (fun hb104 => ?_)
     ·refine Mir.seqK ?_
      refine Mir.region fun e h => ?_
      simp only [↓reduceIte, reduceCtorEq, nA, nS, nM, nE, nL, nT, nB, iT, iN, iE, and_self, SR, SV, encApiGrid2]
      refine Mir.use (e := e) ?_ h
      refine Mir.ret fun e h => ?_
      cases h
      simp only [↓reduceIte, reduceCtorEq, nA, nE, nL, and_self, and_true, true_and, SL, encApiGrid2, Tryd.results87]
     ·refine Mir.skip ?_
      refine Mir.toK ?_
      refine Mir.seqK ?_
      refine Mir.region fun e h => ?_
      simp only [↓reduceIte, reduceCtorEq, nA, nS, nM, nE, nL, nT, nB, iT, iN, iE, and_self, SR, SV, zero_149, eInt, encApiGrid2, encApiMove]
      refine Mir.use (e := e) ?_ h
      refine Mir.seqK ?_
      refine Mir.region fun e h => ?_
      simp only [↓reduceIte, reduceCtorEq, nA, nS, nM, nE, nL, nT, nB, iT, iN, iE, and_self, SR, SV, eInt, encApiGrid2, encApiMove]
      refine Mir.use (e := e) ?_ h
      refine Mir.seqK ?_
      refine Mir.seqK ?_
      refine Mir.region fun e h => ?_
      simp only [↓reduceIte, reduceCtorEq, nA, nS, nM, nE, nL, nT, nB, iT, iN, iE, and_self, SR, SV, und_154, eInt, encApiGrid2, encApiMove]
      refine Mir.use (e := e) ?_ h
      refine Mir.gh [.cell 2 0 156] rfl ?_
      refine Mir.join (fun v1536 : ApiPos × (List ApiMove) => [U, U, U, U, U, U, U, U, U, U, U, U, U, .ptr 2 0, U, U, U, U, U, U, U, U, U, U, U, U, U, U, U, U, U, U, U, U, U, U, U, U, U, U, U, U, U, U, U, U, U, U, U, U, U, U, U, U, U, U, U, U, U, U, U, U, U, U, U, U, U, U, U, U, U, U, U, U, U, U, U, U, U, U, U, U, U, U, U, U, U, U, U, U, U, U, U, U, U, U, U, U, U, U, U, U, U, U, U, U, U, U, U, U, U, U, U, U, U, U, U, U, U, U, U, U, U, U, U, U, U, U, U, U, U, U, U, U, U, U]) (fun v1536 : ApiPos × (List ApiMove) => ⟨[[.d (.int .i64 a0.Code), .d (.int .i64 a0.R), .d (.int .i64 a0.Z), .d (.int .i64 a0.Q), .d (.int .i64 a0.Rate), .d (.int .i64 a0.Initial), .d (.bool a0.High)], [.d (.int .i64 v1536.1.X), .d (.int .i64 v1536.1.Y), .d (.int .i64 v1536.1.Z)], [.own 0 (List.map encApiMove v1536.2)]], [(156, v1536.2.length)]⟩) (fun _ => rfl) ?_ ?_
      ·refine Mir.block ?_
       refine Mir.guard fun qg3865 => ?_
       refine Mir.range (fun (i1965 : Nat) (v1966 : ApiPos × (List ApiMove)) => [U, U, U, .ptr 0 0, .ptr 1 0, U, U, U, .d (.list (List.map (eInt .i64) y101.1)), U, U, U, U, .ptr 2 0, .fn 100 [.ptr 1 0, .ptr 2 0], U, U, U, U, U, U, U, U, U, U, U, U, U, U, U, U, U, U, U, U, U, U, U, U, U, U, U, U, U, U, U, U, U, U, U, U, U, U, U, U, U, U, U, U, U, U, .d (.list (List.map encApiGrid2 a2)), .d (.int .i64 (a2.length : Int)), .d (.int .i64 (i1965 : Int)), U, U, U, U, U, U, U, U, U, U, U, U, U, U, U, U, U, U, U, U, U, U, U, U, U, U, U, U, U, U, U, U, U, U, U, U, U, U, U, U, U, U, U, U, U, U, U, U, U, U, U, U, U, U, U, U, U, U, U, U, U, U, U, U, U, U, U, U, U, U, U, U]) (fun (i1965 : Nat) (v1966 : ApiPos × (List ApiMove)) => ⟨[[.d (.int .i64 a0.Code), .d (.int .i64 a0.R), .d (.int .i64 a0.Z), .d (.int .i64 a0.Q), .d (.int .i64 a0.Rate), .d (.int .i64 a0.Initial), .d (.bool a0.High)], [.d (.int .i64 v1966.1.X), .d (.int .i64 v1966.1.Y), .d (.int .i64 v1966.1.Z)], [.own 0 (List.map encApiMove v1966.2)]], [(156, v1966.2.length)]⟩) qg3865 (fun _ _ => rfl) (by simp only [↓reduceIte, reduceCtorEq, nA, nE, nL, and_self, and_true, true_and, SL, eInt, encApiGrid2, encApiMove, (nr rfl : ((0 : Nat) : Int) = 0)]) (by simp only [↓reduceIte, reduceCtorEq, nA, nE, nL, and_self, and_true, true_and, SL, eInt, encApiGrid2, encApiMove, (nr rfl : ((0 : Nat) : Int) = 0)]) ?_ ?_
       ·intro i1965 e1967 v1966 qr3863
        refine Mir.seqK ?_
        refine Mir.region fun e h => ?_
        simp only [↓reduceIte, reduceCtorEq, nA, nS, nM, nE, nL, nT, nB, iT, iN, iE, and_self, SR, SV, qr3863, eInt, encApiGrid2, encApiMove]
        refine Mir.use (e := e) ?_ h
        refine Mir.seqK ?_
        refine Mir.condT rfl ?_
        refine Mir.skip ?_
        refine Mir.toK ?_
        refine Mir.seqK ?_
        refine Mir.join (fun v2037 : ApiPos × (List ApiMove) => [U, U, U, .ptr 0 0, .ptr 1 0, U, U, U, .d (.list (List.map (eInt .i64) y101.1)), U, U, U, U, .ptr 2 0, .fn 100 [.ptr 1 0, .ptr 2 0], U, U, U, U, U, U, U, U, U, U, U, U, U, U, U, U, U, U, U, U, U, U, U, U, U, U, U, U, U, U, U, U, U, U, U, U, U, U, U, U, U, U, U, U, U, U, .d (.list (List.map encApiGrid2 a2)), .d (.int .i64 (a2.length : Int)), .d (.int .i64 (i1965 : Int)), U, U, U, U, U, U, U, U, U, U, U, U, U, U, U, U, U, U, U, U, U, U, U, U, U, U, U, U, U, U, U, U, U, U, U, U, U, U, U, U, U, U, U, U, U, U, U, U, U, U, U, U, U, U, U, U, U, U, U, U, U, U, U, U, U, U, U, U, U, U, U, U]) (fun v2037 : ApiPos × (List ApiMove) => ⟨[[.d (.int .i64 a0.Code), .d (.int .i64 a0.R), .d (.int .i64 a0.Z), .d (.int .i64 a0.Q), .d (.int .i64 a0.Rate), .d (.int .i64 a0.Initial), .d (.bool a0.High)], [.d (.int .i64 v2037.1.X), .d (.int .i64 v2037.1.Y), .d (.int .i64 v2037.1.Z)], [.own 0 (List.map encApiMove v2037.2)]], [(156, v2037.2.length)]⟩) (fun _ => rfl) ?_ ?_
        ·refine Mir.block ?_
         refine Mir.seqK ?_
         refine Mir.region fun e h => ?_
         simp only [↓reduceIte, reduceCtorEq, nA, nS, nM, nE, nL, nT, nB, iT, iN, iE, and_self, SR, SV, und_154, sz_153, qr3863, Int.toNat_natCast, ag_153, zero_153, eInt, encApiGrid2, encApiMove]
         refine Mir.use (e := e) ?_ h
         refine Mir.seqK ?_
         refine Mir.seqK ?_
         refine Mir.region fun e h => ?_
         simp only [↓reduceIte, reduceCtorEq, nA, nS, nM, nE, nL, nT, nB, iT, iN, iE, and_self, SR, SV, fld_24_2, sz_2, ag_2, fld_68_1, eInt, encApiGrid2, encApiMove]
         refine Mir.use (e := e) ?_ h
         refine Mir.joinO (fun v2039 : Int × (List ApiMove) => [U, U, U, .ptr 0 0, .ptr 1 0, U, U, U, .d (.list (List.map (eInt .i64) y101.1)), U, U, U, U, .ptr 2 0, .fn 100 [.ptr 1 0, .ptr 2 0], U, .ptr 3 0, U, U, U, U, U, U, U, U, U, U, U, U, U, U, U, U, U, U, U, U, U, U, U, U, U, U, U, U, U, U, U, U, U, U, U, U, U, U, U, U, U, U, U, U, .d (.list (List.map encApiGrid2 a2)), .d (.int .i64 (a2.length : Int)), .d (.int .i64 (i1965 : Int)), U, U, U, U, U, U, U, U, U, U, U, U, U, U, U, U, U, U, U, U, U, U, U, U, U, U, U, U, U, U, U, U, U, U, U, U, U, U, U, U, U, U, U, U, U, U, U, U, U, U, U, U, U, U, U, U, U, U, U, U, U, U, U, U, U, U, U, U, U, U, U, U]) (fun v2039 : Int × (List ApiMove) => ⟨[[.d (.int .i64 a0.Code), .d (.int .i64 a0.R), .d (.int .i64 a0.Z), .d (.int .i64 a0.Q), .d (.int .i64 a0.Rate), .d (.int .i64 a0.Initial), .d (.bool a0.High)], [.d (.int .i64 v1966.1.X), .d (.int .i64 v1966.1.Y), .d (.int .i64 v2039.1)], [.own 0 (List.map encApiMove v2039.2)], [.d (.int .i64 e1967.X), .d (.int .i64 e1967.Y)]], [(156, v2039.2.length)]⟩) (fun _ => rfl) ?_ ?_
         ·refine Mir.cond rfl (fun hb4019 => ?_) (fun hb4019 => ?_)
          ·refine Mir.bind fun v2040 hv4022 => ?_
           refine Mir.region fun e h => ?_
           simp only [↓reduceIte, reduceCtorEq, nA, nS, nM, nE, nL, nT, nB, iT, iN, iE, and_self, SR, SV, fld_24_0, sz_2, ag_2, fld_24_1, fld_68_1, zero_24, pl_24, eInt, encApiGrid2, encApiMove]
           refine SpecS.inl Tryd.func100 rfl (by kernel_rfl) (by kernel_rfl) (fun v2040 : Int × (List ApiMove) => .tuple []) (fun v2040 : Int × (List ApiMove) => ⟨[[.d (.int .i64 a0.Code), .d (.int .i64 a0.R), .d (.int .i64 a0.Z), .d (.int .i64 a0.Q), .d (.int .i64 a0.Rate), .d (.int .i64 a0.Initial), .d (.bool a0.High)], [.d (.int .i64 v1966.1.X), .d (.int .i64 v1966.1.Y), .d (.int .i64 v2040.1)], [.own 0 (List.map encApiMove v2040.2)], [.d (.int .i64 e1967.X), .d (.int .i64 e1967.Y)]], [(156, v2040.2.length)]⟩) hv4022 rfl ?_ ?_
           ·simp only [List.replicate, List.length, nS, nA, Tryd.ntmps100, SV]
            refine Mir.seqK ?_
            refine Mir.region fun e h => ?_
            simp only [↓reduceIte, reduceCtorEq, nA, nS, nM, nE, nL, nT, nB, iT, iN, iE, and_self, SR, SV, eInt, encApiGrid2, encApiMove]
            refine Mir.use (e := e) ?_ h
            refine Mir.seqK ?_
            refine Mir.region fun e h => ?_
            simp only [↓reduceIte, reduceCtorEq, nA, nS, nM, nE, nL, nT, nB, iT, iN, iE, and_self, SR, SV, ag_24, sz_24, gE_24, eInt, encApiGrid2, encApiMove]
            refine Mir.use (e := e) ?_ h
            refine Mir.cond rfl (fun hb4023 => ?_) (fun hb4023 => ?_)
            ·refine Mir.seqK ?_
             refine Mir.guard fun q4024 => ?_
             refine Mir.region fun e h => ?_
             simp only [↓reduceIte, reduceCtorEq, nA, nS, nM, nE, nL, nT, nB, iT, iN, iE, and_self, SR, SV, ag_149, sz_149, ag_24, sz_24, zero_156, pl_156, und_149, sz_156, (nr rfl : okLen 7 = true), app_149, al_ApiMove, q4024, eInt, encApiGrid2, encApiMove]
             refine Mir.use (e := e) ?_ h
             refine Mir.region fun e h => ?_
             simp only [↓reduceIte, reduceCtorEq, nA, nS, nM, nE, nL, nT, nB, iT, iN, iE, and_self, SR, SV, ag_24, sz_24, eInt, encApiGrid2, encApiMove]
             cases h
             simp only [↓reduceIte, reduceCtorEq, nA, nE, nL, and_self, and_true, true_and, SL, eInt, encApiGrid2, encApiMove, Tryd.results100]
            ·refine Mir.skip fun e h => ?_
             cases h
             simp only [↓reduceIte, reduceCtorEq, nA, nE, nL, and_self, and_true, true_and, SL, eInt, encApiGrid2, encApiMove, Tryd.results100]
           simp only [↓reduceIte, reduceCtorEq, nA, nS, nM, nE, nL, nT, nB, iT, iN, iE, and_self, SR, SV, eInt, encApiGrid2, encApiMove]
           cases h
           simp only [↓reduceIte, reduceCtorEq, nA, nE, nL, and_self, and_true, true_and, SL, eInt, encApiGrid2, encApiMove, Tryd.results87]
          ·refine Mir.skip fun e h => ?_
           cases h
           simp only [↓reduceIte, reduceCtorEq, nA, nE, nL, and_self, and_true, true_and, SL, eInt, encApiGrid2, encApiMove, Tryd.results87]
         ·intro v2039
          refine Mir.toK ?_
          refine Mir.seqK ?_
          refine Mir.bind fun v2041 hv4027 => ?_
          refine Mir.region fun e h => ?_
          simp only [↓reduceIte, reduceCtorEq, nA, nS, nM, nE, nL, nT, nB, iT, iN, iE, and_self, SR, SV, fld_153_0, sz_2, ag_2, fld_153_1, fld_24_2, zero_24, pl_24, eInt, encApiGrid2, encApiMove]
          refine SpecS.inl Tryd.func100 rfl (by kernel_rfl) (by kernel_rfl) (fun v2041 : ApiPos × (List ApiMove) => .tuple []) (fun v2041 : ApiPos × (List ApiMove) => ⟨[[.d (.int .i64 a0.Code), .d (.int .i64 a0.R), .d (.int .i64 a0.Z), .d (.int .i64 a0.Q), .d (.int .i64 a0.Rate), .d (.int .i64 a0.Initial), .d (.bool a0.High)], [.d (.int .i64 v2041.1.X), .d (.int .i64 v2041.1.Y), .d (.int .i64 v2041.1.Z)], [.own 0 (List.map encApiMove v2041.2)], [.d (.int .i64 e1967.X), .d (.int .i64 e1967.Y)]], [(156, v2041.2.length)]⟩) hv4027 rfl ?_ ?_
          ·simp only [List.replicate, List.length, nS, nA, Tryd.ntmps100, SV]
           refine Mir.seqK ?_
           refine Mir.region fun e h => ?_
           simp only [↓reduceIte, reduceCtorEq, nA, nS, nM, nE, nL, nT, nB, iT, iN, iE, and_self, SR, SV, eInt, encApiGrid2, encApiMove]
           refine Mir.use (e := e) ?_ h
           refine Mir.seqK ?_
           refine Mir.region fun e h => ?_
           simp only [↓reduceIte, reduceCtorEq, nA, nS, nM, nE, nL, nT, nB, iT, iN, iE, and_self, SR, SV, ag_24, sz_24, gE_24, eInt, encApiGrid2, encApiMove]
           refine Mir.use (e := e) ?_ h
           refine Mir.cond rfl (fun hb4028 => ?_) (fun hb4028 => ?_)
           ·refine Mir.seqK ?_
            refine Mir.guard fun q4029 => ?_
            refine Mir.region fun e h => ?_
            simp only [↓reduceIte, reduceCtorEq, nA, nS, nM, nE, nL, nT, nB, iT, iN, iE, and_self, SR, SV, ag_149, sz_149, ag_24, sz_24, zero_156, pl_156, und_149, sz_156, (nr rfl : okLen 7 = true), app_149, al_ApiMove, q4029, eInt, encApiGrid2, encApiMove]
            refine Mir.use (e := e) ?_ h
            refine Mir.region fun e h => ?_
            simp only [↓reduceIte, reduceCtorEq, nA, nS, nM, nE, nL, nT, nB, iT, iN, iE, and_self, SR, SV, ag_24, sz_24, eInt, encApiGrid2, encApiMove]
            cases h
            simp only [↓reduceIte, reduceCtorEq, nA, nE, nL, and_self, and_true, true_and, SL, eInt, encApiGrid2, encApiMove, Tryd.results100]
           ·refine Mir.skip fun e h => ?_
            cases h
            simp only [↓reduceIte, reduceCtorEq, nA, nE, nL, and_self, and_true, true_and, SL, eInt, encApiGrid2, encApiMove, Tryd.results100]
          simp only [↓reduceIte, reduceCtorEq, nA, nS, nM, nE, nL, nT, nB, iT, iN, iE, and_self, SR, SV, eInt, encApiGrid2, encApiMove]
          refine Mir.use (e := e) ?_ h
          refine Mir.seqK ?_
          refine Mir.region fun e h => ?_
          simp only [↓reduceIte, reduceCtorEq, nA, nS, nM, nE, nL, nT, nB, iT, iN, iE, and_self, SR, SV, fld_153_0, sz_2, ag_2, fld_153_1, fld_68_1, zero_24, pl_24, sz_24, eInt, encApiGrid2, encApiMove]
          refine Mir.use (e := e) ?_ h
          refine Mir.seqK ?_
          refine Mir.bind fun v2042 hv4032 => ?_
          refine Mir.region fun e h => ?_
          simp only [↓reduceIte, reduceCtorEq, nA, nS, nM, nE, nL, nT, nB, iT, iN, iE, and_self, SR, SV, ag_24, sz_24, eInt, encApiGrid2, encApiMove]
          refine SpecS.inl Tryd.func100 rfl (by kernel_rfl) (by kernel_rfl) (fun v2042 : ApiPos × (List ApiMove) => .tuple []) (fun v2042 : ApiPos × (List ApiMove) => ⟨[[.d (.int .i64 a0.Code), .d (.int .i64 a0.R), .d (.int .i64 a0.Z), .d (.int .i64 a0.Q), .d (.int .i64 a0.Rate), .d (.int .i64 a0.Initial), .d (.bool a0.High)], [.d (.int .i64 v2042.1.X), .d (.int .i64 v2042.1.Y), .d (.int .i64 v2042.1.Z)], [.own 0 (List.map encApiMove v2042.2)], [.d (.int .i64 e1967.X), .d (.int .i64 e1967.Y)], [.d (.int .i64 e1967.X), .d (.int .i64 e1967.Y), .d (.int .i64 a0.R)]], [(156, v2042.2.length)]⟩) hv4032 rfl ?_ ?_
          ·simp only [List.replicate, List.length, nS, nA, Tryd.ntmps100, SV]
           refine Mir.seqK ?_
           refine Mir.region fun e h => ?_
           simp only [↓reduceIte, reduceCtorEq, nA, nS, nM, nE, nL, nT, nB, iT, iN, iE, and_self, SR, SV, eInt, encApiGrid2, encApiMove]
           refine Mir.use (e := e) ?_ h
           refine Mir.seqK ?_
           refine Mir.region fun e h => ?_
           simp only [↓reduceIte, reduceCtorEq, nA, nS, nM, nE, nL, nT, nB, iT, iN, iE, and_self, SR, SV, ag_24, sz_24, gE_24, eInt, encApiGrid2, encApiMove]
           refine Mir.use (e := e) ?_ h
           refine Mir.cond rfl (fun hb4033 => ?_) (fun hb4033 => ?_)
           ·refine Mir.seqK ?_
            refine Mir.guard fun q4034 => ?_
            refine Mir.region fun e h => ?_
            simp only [↓reduceIte, reduceCtorEq, nA, nS, nM, nE, nL, nT, nB, iT, iN, iE, and_self, SR, SV, ag_149, sz_149, ag_24, sz_24, zero_156, pl_156, und_149, sz_156, (nr rfl : okLen 7 = true), app_149, al_ApiMove, q4034, eInt, encApiGrid2, encApiMove]
            refine Mir.use (e := e) ?_ h
            refine Mir.region fun e h => ?_
            simp only [↓reduceIte, reduceCtorEq, nA, nS, nM, nE, nL, nT, nB, iT, iN, iE, and_self, SR, SV, ag_24, sz_24, eInt, encApiGrid2, encApiMove]
            cases h
            simp only [↓reduceIte, reduceCtorEq, nA, nE, nL, and_self, and_true, true_and, SL, eInt, encApiGrid2, encApiMove, Tryd.results100]
           ·refine Mir.skip fun e h => ?_
            cases h
            simp only [↓reduceIte, reduceCtorEq, nA, nE, nL, and_self, and_true, true_and, SL, eInt, encApiGrid2, encApiMove, Tryd.results100]
          simp only [↓reduceIte, reduceCtorEq, nA, nS, nM, nE, nL, nT, nB, iT, iN, iE, and_self, SR, SV, eInt, encApiGrid2, encApiMove]
          refine Mir.use (e := e) ?_ h
          refine Mir.seqK ?_
          refine Mir.seqK ?_
          refine Mir.region fun e h => ?_
          simp only [↓reduceIte, reduceCtorEq, nA, nS, nM, nE, nL, nT, nB, iT, iN, iE, and_self, SR, SV, und_98, eInt, encApiGrid2, encApiMove]
          refine Mir.use (e := e) ?_ h
          refine Mir.joinO (fun v2073 : ApiPos × (List ApiMove) => [U, U, U, .ptr 0 0, .ptr 1 0, U, U, U, .d (.list (List.map (eInt .i64) y101.1)), U, U, U, U, .ptr 2 0, .fn 100 [.ptr 1 0, .ptr 2 0], U, .ptr 3 0, U, U, U, U, U, U, U, U, U, U, U, U, U, U, U, U, U, U, U, U, U, U, U, U, U, U, U, U, U, U, U, U, U, U, U, U, U, U, U, U, U, U, U, U, .d (.list (List.map encApiGrid2 a2)), .d (.int .i64 (a2.length : Int)), .d (.int .i64 (i1965 : Int)), U, U, U, U, U, U, U, U, U, U, U, U, U, U, U, U, U, U, U, U, U, U, U, U, U, U, U, U, U, U, U, U, U, U, U, U, U, U, U, U, U, U, U, U, U, U, U, U, U, U, U, U, U, U, U, U, U, U, U, U, U, U, U, U, U, U, U, U, U, U, U, U]) (fun v2073 : ApiPos × (List ApiMove) => ⟨[[.d (.int .i64 a0.Code), .d (.int .i64 a0.R), .d (.int .i64 a0.Z), .d (.int .i64 a0.Q), .d (.int .i64 a0.Rate), .d (.int .i64 a0.Initial), .d (.bool a0.High)], [.d (.int .i64 v2073.1.X), .d (.int .i64 v2073.1.Y), .d (.int .i64 v2073.1.Z)], [.own 0 (List.map encApiMove v2073.2)], [.d (.int .i64 e1967.X), .d (.int .i64 e1967.Y)], [.d (.int .i64 e1967.X), .d (.int .i64 e1967.Y), .d (.int .i64 a0.R)]], [(156, v2073.2.length)]⟩) (fun _ => rfl) ?_ ?_
          ·refine Mir.block ?_
           refine Mir.guard fun qg4148 => ?_
           refine Mir.range (fun (i2097 : Nat) (v2098 : ApiPos × (List ApiMove)) => [U, U, U, .ptr 0 0, .ptr 1 0, U, U, U, .d (.list (List.map (eInt .i64) y101.1)), U, U, U, U, .ptr 2 0, .fn 100 [.ptr 1 0, .ptr 2 0], U, .ptr 3 0, .ptr 4 0, U, U, U, U, U, U, U, U, U, U, U, U, U, U, U, U, U, U, U, U, U, U, U, U, U, U, U, U, U, U, U, U, U, U, U, U, U, U, U, U, U, U, U, .d (.list (List.map encApiGrid2 a2)), .d (.int .i64 (a2.length : Int)), .d (.int .i64 (i1965 : Int)), U, U, U, U, U, U, U, U, U, U, U, U, U, U, U, U, U, U, U, U, U, U, U, U, U, U, U, U, U, U, U, U, U, U, U, U, .d (.list (List.map (eInt .i64) y101.1)), .d (.int .i64 (y101.1.length : Int)), .d (.int .i64 (i2097 : Int)), U, U, U, U, U, U, U, U, U, U, U, U, U, U, U, U, U, U, U, U, U, U, U, U, U, U, U, U, U, U, U, U, U]) (fun (i2097 : Nat) (v2098 : ApiPos × (List ApiMove)) => ⟨[[.d (.int .i64 a0.Code), .d (.int .i64 a0.R), .d (.int .i64 a0.Z), .d (.int .i64 a0.Q), .d (.int .i64 a0.Rate), .d (.int .i64 a0.Initial), .d (.bool a0.High)], [.d (.int .i64 v2098.1.X), .d (.int .i64 v2098.1.Y), .d (.int .i64 v2098.1.Z)], [.own 0 (List.map encApiMove v2098.2)], [.d (.int .i64 e1967.X), .d (.int .i64 e1967.Y)], [.d (.int .i64 e1967.X), .d (.int .i64 e1967.Y), .d (.int .i64 a0.R)]], [(156, v2098.2.length)]⟩) qg4148 (fun _ _ => rfl) (by simp only [↓reduceIte, reduceCtorEq, nA, nE, nL, and_self, and_true, true_and, SL, eInt, encApiGrid2, encApiMove, (nr rfl : ((0 : Nat) : Int) = 0)]) (by simp only [↓reduceIte, reduceCtorEq, nA, nE, nL, and_self, and_true, true_and, SL, eInt, encApiGrid2, encApiMove, (nr rfl : ((0 : Nat) : Int) = 0)]) ?_ ?_
           ·intro i2097 e2099 v2098 qr4146
            refine Mir.seqK ?_
            refine Mir.region fun e h => ?_
            simp only [↓reduceIte, reduceCtorEq, nA, nS, nM, nE, nL, nT, nB, iT, iN, iE, and_self, SR, SV, qr4146, eInt, encApiGrid2, encApiMove]
            refine Mir.use (e := e) ?_ h
            refine Mir.seqK ?_
            refine Mir.condT rfl ?_
            refine Mir.skip ?_
            refine Mir.toK ?_
            refine Mir.seqK ?_
            refine Mir.block ?_
            refine Mir.seqK ?_
            refine Mir.region fun e h => ?_
            simp only [↓reduceIte, reduceCtorEq, nA, nS, nM, nE, nL, nT, nB, iT, iN, iE, and_self, SR, SV, und_98, sz_2, qr4146, Int.toNat_natCast, ag_2, eInt, encApiGrid2, encApiMove]
            refine Mir.use (e := e) ?_ h
            refine Mir.seqK ?_
            refine Mir.bind fun v2102 hv4157 => ?_
            refine Mir.region fun e h => ?_
            simp only [↓reduceIte, reduceCtorEq, nA, nS, nM, nE, nL, nT, nB, iT, iN, iE, and_self, SR, SV, fld_153_0, sz_2, ag_2, fld_153_1, zero_24, pl_24, fld_68_4, eInt, encApiGrid2, encApiMove]
            refine SpecS.inl Tryd.func100 rfl (by kernel_rfl) (by kernel_rfl) (fun v2102 : ApiPos × (List ApiMove) => .tuple []) (fun v2102 : ApiPos × (List ApiMove) => ⟨[[.d (.int .i64 a0.Code), .d (.int .i64 a0.R), .d (.int .i64 a0.Z), .d (.int .i64 a0.Q), .d (.int .i64 a0.Rate), .d (.int .i64 a0.Initial), .d (.bool a0.High)], [.d (.int .i64 v2102.1.X), .d (.int .i64 v2102.1.Y), .d (.int .i64 v2102.1.Z)], [.own 0 (List.map encApiMove v2102.2)], [.d (.int .i64 e1967.X), .d (.int .i64 e1967.Y)], [.d (.int .i64 e1967.X), .d (.int .i64 e1967.Y), .d (.int .i64 a0.R)]], [(156, v2102.2.length)]⟩) hv4157 rfl ?_ ?_
            ·simp only [List.replicate, List.length, nS, nA, Tryd.ntmps100, SV]
             refine Mir.seqK ?_
             refine Mir.region fun e h => ?_
             simp only [↓reduceIte, reduceCtorEq, nA, nS, nM, nE, nL, nT, nB, iT, iN, iE, and_self, SR, SV, eInt, encApiGrid2, encApiMove]
             refine Mir.use (e := e) ?_ h
             refine Mir.seqK ?_
             refine Mir.region fun e h => ?_
             simp only [↓reduceIte, reduceCtorEq, nA, nS, nM, nE, nL, nT, nB, iT, iN, iE, and_self, SR, SV, ag_24, sz_24, gE_24, eInt, encApiGrid2, encApiMove]
             refine Mir.use (e := e) ?_ h
             refine Mir.cond rfl (fun hb4158 => ?_) (fun hb4158 => ?_)
             ·refine Mir.seqK ?_
              refine Mir.guard fun q4159 => ?_
              refine Mir.region fun e h => ?_
              simp only [↓reduceIte, reduceCtorEq, nA, nS, nM, nE, nL, nT, nB, iT, iN, iE, and_self, SR, SV, ag_149, sz_149, ag_24, sz_24, zero_156, pl_156, und_149, sz_156, (nr rfl : okLen 7 = true), app_149, al_ApiMove, q4159, eInt, encApiGrid2, encApiMove]
              refine Mir.use (e := e) ?_ h
              refine Mir.region fun e h => ?_
              simp only [↓reduceIte, reduceCtorEq, nA, nS, nM, nE, nL, nT, nB, iT, iN, iE, and_self, SR, SV, ag_24, sz_24, eInt, encApiGrid2, encApiMove]
              cases h
              simp only [↓reduceIte, reduceCtorEq, nA, nE, nL, and_self, and_true, true_and, SL, eInt, encApiGrid2, encApiMove, Tryd.results100]
             ·refine Mir.skip fun e h => ?_
              cases h
              simp only [↓reduceIte, reduceCtorEq, nA, nE, nL, and_self, and_true, true_and, SL, eInt, encApiGrid2, encApiMove, Tryd.results100]
            simp only [↓reduceIte, reduceCtorEq, nA, nS, nM, nE, nL, nT, nB, iT, iN, iE, and_self, SR, SV, eInt, encApiGrid2, encApiMove]
            refine Mir.use (e := e) ?_ h
            refine Mir.bind fun v2103 hv4162 => ?_
            refine Mir.region fun e h => ?_
            simp only [↓reduceIte, reduceCtorEq, nA, nS, nM, nE, nL, nT, nB, iT, iN, iE, and_self, SR, SV, ag_24, sz_24, eInt, encApiGrid2, encApiMove]
            refine SpecS.inl Tryd.func100 rfl (by kernel_rfl) (by kernel_rfl) (fun v2103 : ApiPos × (List ApiMove) => .tuple []) (fun v2103 : ApiPos × (List ApiMove) => ⟨[[.d (.int .i64 a0.Code), .d (.int .i64 a0.R), .d (.int .i64 a0.Z), .d (.int .i64 a0.Q), .d (.int .i64 a0.Rate), .d (.int .i64 a0.Initial), .d (.bool a0.High)], [.d (.int .i64 v2103.1.X), .d (.int .i64 v2103.1.Y), .d (.int .i64 v2103.1.Z)], [.own 0 (List.map encApiMove v2103.2)], [.d (.int .i64 e1967.X), .d (.int .i64 e1967.Y)], [.d (.int .i64 e1967.X), .d (.int .i64 e1967.Y), .d (.int .i64 a0.R)]], [(156, v2103.2.length)]⟩) hv4162 rfl ?_ ?_
            ·simp only [List.replicate, List.length, nS, nA, Tryd.ntmps100, SV]
             refine Mir.seqK ?_
             refine Mir.region fun e h => ?_
             simp only [↓reduceIte, reduceCtorEq, nA, nS, nM, nE, nL, nT, nB, iT, iN, iE, and_self, SR, SV, eInt, encApiGrid2, encApiMove]
             refine Mir.use (e := e) ?_ h
             refine Mir.seqK ?_
             refine Mir.region fun e h => ?_
             simp only [↓reduceIte, reduceCtorEq, nA, nS, nM, nE, nL, nT, nB, iT, iN, iE, and_self, SR, SV, ag_24, sz_24, gE_24, eInt, encApiGrid2, encApiMove]
             refine Mir.use (e := e) ?_ h
             refine Mir.cond rfl (fun hb4163 => ?_) (fun hb4163 => ?_)
             ·refine Mir.seqK ?_
              refine Mir.guard fun q4164 => ?_
              refine Mir.region fun e h => ?_
              simp only [↓reduceIte, reduceCtorEq, nA, nS, nM, nE, nL, nT, nB, iT, iN, iE, and_self, SR, SV, ag_149, sz_149, ag_24, sz_24, zero_156, pl_156, und_149, sz_156, (nr rfl : okLen 7 = true), app_149, al_ApiMove, q4164, eInt, encApiGrid2, encApiMove]
              refine Mir.use (e := e) ?_ h
              refine Mir.region fun e h => ?_
              simp only [↓reduceIte, reduceCtorEq, nA, nS, nM, nE, nL, nT, nB, iT, iN, iE, and_self, SR, SV, ag_24, sz_24, eInt, encApiGrid2, encApiMove]
              cases h
              simp only [↓reduceIte, reduceCtorEq, nA, nE, nL, and_self, and_true, true_and, SL, eInt, encApiGrid2, encApiMove, Tryd.results100]
             ·refine Mir.skip fun e h => ?_
              cases h
              simp only [↓reduceIte, reduceCtorEq, nA, nE, nL, and_self, and_true, true_and, SL, eInt, encApiGrid2, encApiMove, Tryd.results100]
            simp only [↓reduceIte, reduceCtorEq, nA, nS, nM, nE, nL, nT, nB, iT, iN, iE, and_self, SR, SV, eInt, encApiGrid2, encApiMove]
            refine Mir.use (e := e) ?_ h
            refine Mir.region fun e h => ?_
            simp only [↓reduceIte, reduceCtorEq, nA, nS, nM, nE, nL, nT, nB, iT, iN, iE, and_self, SR, SV, eInt, encApiGrid2, encApiMove]
            cases h
            simp only [↓reduceIte, reduceCtorEq, nA, nE, nL, and_self, and_true, true_and, SL, eInt, encApiGrid2, encApiMove, Tryd.results87, qr4146]
           ·intro v2098 qd4147
            refine Mir.seqK ?_
            refine Mir.region fun e h => ?_
            simp only [↓reduceIte, reduceCtorEq, nA, nS, nM, nE, nL, nT, nB, iT, iN, iE, and_self, SR, SV, qd4147, eInt, encApiGrid2, encApiMove]
            refine Mir.use (e := e) ?_ h
            refine Mir.seqK ?_
            refine Mir.condF rfl ?_
            refine Mir.exit fun e h => ?_
            cases h
            simp only [↓reduceIte, reduceCtorEq, nA, nE, nL, and_self, and_true, true_and, SL, eInt, encApiGrid2, encApiMove, Tryd.results87]
          ·intro v2073
           refine Mir.toK ?_
           refine Mir.seqK ?_
           refine Mir.seqK ?_
           refine Mir.region fun e h => ?_
           simp only [↓reduceIte, reduceCtorEq, nA, nS, nM, nE, nL, nT, nB, iT, iN, iE, and_self, SR, SV, fld_68_6, sz_4, ag_4, eInt, encApiGrid2, encApiMove]
           refine Mir.use (e := e) ?_ h
           refine Mir.joinO (fun v2105 : ApiPos × (List ApiMove) => [U, U, U, .ptr 0 0, .ptr 1 0, U, U, U, .d (.list (List.map (eInt .i64) y101.1)), U, U, U, U, .ptr 2 0, .fn 100 [.ptr 1 0, .ptr 2 0], U, U, U, U, U, U, U, U, U, U, U, U, U, U, U, U, U, U, U, U, U, U, U, U, U, U, U, U, U, U, U, U, U, U, U, U, U, U, U, U, U, U, U, U, U, U, .d (.list (List.map encApiGrid2 a2)), .d (.int .i64 (a2.length : Int)), .d (.int .i64 (i1965 : Int)), U, U, U, U, U, U, U, U, U, U, U, U, U, U, U, U, U, U, U, U, U, U, U, U, U, U, U, U, U, U, U, U, U, U, U, U, U, U, U, U, U, U, U, U, U, U, U, U, U, U, U, U, U, U, U, U, U, U, U, U, U, U, U, U, U, U, U, U, U, U, U, U]) (fun v2105 : ApiPos × (List ApiMove) => ⟨[[.d (.int .i64 a0.Code), .d (.int .i64 a0.R), .d (.int .i64 a0.Z), .d (.int .i64 a0.Q), .d (.int .i64 a0.Rate), .d (.int .i64 a0.Initial), .d (.bool a0.High)], [.d (.int .i64 v2105.1.X), .d (.int .i64 v2105.1.Y), .d (.int .i64 v2105.1.Z)], [.own 0 (List.map encApiMove v2105.2)], [.d (.int .i64 e1967.X), .d (.int .i64 e1967.Y)], [.d (.int .i64 e1967.X), .d (.int .i64 e1967.Y), .d (.int .i64 a0.R)]], [(156, v2105.2.length)]⟩) (fun _ => rfl) ?_ ?_
           ·refine Mir.cond rfl (fun hb4169 => ?_) (fun hb4169 => ?_)
            ·refine Mir.bind fun v2106 hv4172 => ?_
             refine Mir.region fun e h => ?_
             simp only [↓reduceIte, reduceCtorEq, nA, nS, nM, nE, nL, nT, nB, iT, iN, iE, and_self, SR, SV, fld_153_0, sz_2, ag_2, fld_153_1, fld_68_5, zero_24, pl_24, eInt, encApiGrid2, encApiMove]
             refine SpecS.inl Tryd.func100 rfl (by kernel_rfl) (by kernel_rfl) (fun v2106 : ApiPos × (List ApiMove) => .tuple []) (fun v2106 : ApiPos × (List ApiMove) => ⟨[[.d (.int .i64 a0.Code), .d (.int .i64 a0.R), .d (.int .i64 a0.Z), .d (.int .i64 a0.Q), .d (.int .i64 a0.Rate), .d (.int .i64 a0.Initial), .d (.bool a0.High)], [.d (.int .i64 v2106.1.X), .d (.int .i64 v2106.1.Y), .d (.int .i64 v2106.1.Z)], [.own 0 (List.map encApiMove v2106.2)], [.d (.int .i64 e1967.X), .d (.int .i64 e1967.Y)], [.d (.int .i64 e1967.X), .d (.int .i64 e1967.Y), .d (.int .i64 a0.R)]], [(156, v2106.2.length)]⟩) hv4172 rfl ?_ ?_
             ·simp only [List.replicate, List.length, nS, nA, Tryd.ntmps100, SV]
              refine Mir.seqK ?_
              refine Mir.region fun e h => ?_
              simp only [↓reduceIte, reduceCtorEq, nA, nS, nM, nE, nL, nT, nB, iT, iN, iE, and_self, SR, SV, eInt, encApiGrid2, encApiMove]
              refine Mir.use (e := e) ?_ h
              refine Mir.seqK ?_
              refine Mir.region fun e h => ?_
              simp only [↓reduceIte, reduceCtorEq, nA, nS, nM, nE, nL, nT, nB, iT, iN, iE, and_self, SR, SV, ag_24, sz_24, gE_24, eInt, encApiGrid2, encApiMove]
              refine Mir.use (e := e) ?_ h
              refine Mir.cond rfl (fun hb4173 => ?_) (fun hb4173 => ?_)
              ·refine Mir.seqK ?_
               refine Mir.guard fun q4174 => ?_
               refine Mir.region fun e h => ?_
               simp only [↓reduceIte, reduceCtorEq, nA, nS, nM, nE, nL, nT, nB, iT, iN, iE, and_self, SR, SV, ag_149, sz_149, ag_24, sz_24, zero_156, pl_156, und_149, sz_156, (nr rfl : okLen 7 = true), app_149, al_ApiMove, q4174, eInt, encApiGrid2, encApiMove]
               refine Mir.use (e := e) ?_ h
               refine Mir.region fun e h => ?_
               simp only [↓reduceIte, reduceCtorEq, nA, nS, nM, nE, nL, nT, nB, iT, iN, iE, and_self, SR, SV, ag_24, sz_24, eInt, encApiGrid2, encApiMove]
               cases h
               simp only [↓reduceIte, reduceCtorEq, nA, nE, nL, and_self, and_true, true_and, SL, eInt, encApiGrid2, encApiMove, Tryd.results100]
              ·refine Mir.skip fun e h => ?_
               cases h
               simp only [↓reduceIte, reduceCtorEq, nA, nE, nL, and_self, and_true, true_and, SL, eInt, encApiGrid2, encApiMove, Tryd.results100]
             simp only [↓reduceIte, reduceCtorEq, nA, nS, nM, nE, nL, nT, nB, iT, iN, iE, and_self, SR, SV, eInt, encApiGrid2, encApiMove]
             cases h
             simp only [↓reduceIte, reduceCtorEq, nA, nE, nL, and_self, and_true, true_and, SL, eInt, encApiGrid2, encApiMove, Tryd.results87]
            ·refine Mir.skip fun e h => ?_
             cases h
             simp only [↓reduceIte, reduceCtorEq, nA, nE, nL, and_self, and_true, true_and, SL, eInt, encApiGrid2, encApiMove, Tryd.results87]
           ·intro v2105
            refine Mir.toK ?_
            refine Mir.seqK ?_
            refine Mir.region fun e h => ?_
            simp only [↓reduceIte, reduceCtorEq, nA, nS, nM, nE, nL, nT, nB, iT, iN, iE, and_self, SR, SV, ag_149, sz_149, und_149, eInt, encApiGrid2, encApiMove]
            refine Mir.use (e := e) ?_ h
            refine Mir.cond rfl (fun hb4175 => ?_) (fun hb4175 => ?_)
            ·refine Mir.seqK ?_
             refine Mir.region fun e h => ?_
             simp only [↓reduceIte, reduceCtorEq, nA, nS, nM, nE, nL, nT, nB, iT, iN, iE, and_self, SR, SV, eInt, encApiGrid2, encApiMove]
             refine Mir.use (e := e) ?_ h
             refine Mir.ret fun e h => ?_
             cases h
             simp only [↓reduceIte, reduceCtorEq, nA, nE, nL, and_self, and_true, true_and, SL, eInt, encApiGrid2, encApiMove, Tryd.results87]
            ·refine Mir.skip fun e h => ?_
             cases h
             simp only [↓reduceIte, reduceCtorEq, nA, nE, nL, and_self, and_true, true_and, SL, eInt, encApiGrid2, encApiMove, Tryd.results87]
        ·intro v2037
         refine Mir.toK ?_
         refine Mir.region fun e h => ?_
         simp only [↓reduceIte, reduceCtorEq, nA, nS, nM, nE, nL, nT, nB, iT, iN, iE, and_self, SR, SV, eInt, encApiGrid2, encApiMove]
         cases h
         simp only [↓reduceIte, reduceCtorEq, nA, nE, nL, and_self, and_true, true_and, SL, eInt, encApiGrid2, encApiMove, Tryd.results87, qr3863]
       ·intro v1966 qd3864
        refine Mir.seqK ?_
        refine Mir.region fun e h => ?_
        simp only [↓reduceIte, reduceCtorEq, nA, nS, nM, nE, nL, nT, nB, iT, iN, iE, and_self, SR, SV, qd3864, eInt, encApiGrid2, encApiMove]
        refine Mir.use (e := e) ?_ h
        refine Mir.seqK ?_
        refine Mir.condF rfl ?_
        refine Mir.exit fun e h => ?_
        cases h
        simp only [↓reduceIte, reduceCtorEq, nA, nE, nL, and_self, and_true, true_and, SL, eInt, encApiGrid2, encApiMove, Tryd.results87]
      ·intro v1536
       refine Mir.toK ?_
       refine Mir.seqK ?_
       refine Mir.region fun e h => ?_
       simp only [↓reduceIte, reduceCtorEq, nA, nS, nM, nE, nL, nT, nB, iT, iN, iE, and_self, SR, SV, ag_149, sz_149, eInt, encApiGrid2, encApiMove]
       refine Mir.use (e := e) ?_ h
       refine Mir.ret fun e h => ?_
       cases h
       simp only [↓reduceIte, reduceCtorEq, nA, nE, nL, and_self, and_true, true_and, SL, eInt, encApiGrid2, encApiMove, Tryd.results87]

def inp_canned (a0 : ModalState) (a1 : CycleCycle) (a2 : ApiBlock) (a3 : ApiPos) (a4 : ApiPos) : Option ((List InterpreterReached) × CycleCycle × Int) :=
  bindO (if (!((a1.Code == 0) && ((a1.R == 0) && ((a1.Z == 0) && ((a1.Q == 0) && ((a1.Rate == 0) && ((a1.Initial == 0) && (a1.High == false)))))))) = true then
        some a1.Initial
      else
        some a3.Z) fun (v101 : Int) =>
  bindO (cy_Read a2 a0.Motion a0.Feed v101 (a0.Return == 98000) a1) fun (y102 : CycleCycle × Int) =>
  if (y102.2 != 0) = true then
    some ([], CycleCycle.mk 0 0 0 0 0 0 false, y102.2)
  else
    bindO (cy_Expand y102.1 a3 [ApiGrid2.mk a4.X a4.Y]) fun (y103 : (List ApiMove) × Int) =>
    if (y103.2 != 0) = true then
      some ([], CycleCycle.mk 0 0 0 0 0 0 false, y103.2)
    else
      bindO (guardO (okIdx y103.1) (
          rangeX (fun (i147 : Nat) (e149 : ApiMove) (v148 : (List InterpreterReached)) =>
            guardO (okLen (v148.length + 1)) (
            some (.go (v148 ++ [InterpreterReached.mk e149.To e149.Rate])))) (fun (v148 : (List InterpreterReached)) => some v148) y103.1 0 [])) fun (v135 : (List InterpreterReached)) =>
      some (v135, y102.1, 0)
theorem inp_canned_spec {a0 : ModalState} {a1 : CycleCycle} {a2 : ApiBlock} {a3 : ApiPos} {a4 : ApiPos} {y : (List InterpreterReached) × CycleCycle × Int} (h : inp_canned a0 a1 a2 a3 a4 = some y) : Spec gP 74 [.agg [.d (.int .i64 a0.Motion), .d (.int .i64 a0.Distance), .d (.int .i64 a0.Work), .d (.int .i64 a0.Length), .d (.int .i64 a0.Return), .d (.int .i64 a0.Feed), .d (.int .i64 a0.Tool), .d (.int .i64 a0.Offset)], .agg [.d (.int .i64 a1.Code), .d (.int .i64 a1.R), .d (.int .i64 a1.Z), .d (.int .i64 a1.Q), .d (.int .i64 a1.Rate), .d (.int .i64 a1.Initial), .d (.bool a1.High)], .agg [.d (.bool a2.Skip), .d (.list (List.map encApiWord a2.Words)), .d (.str a2.Comment)], .agg [.d (.int .i64 a3.X), .d (.int .i64 a3.Y), .d (.int .i64 a3.Z)], .agg [.d (.int .i64 a4.X), .d (.int .i64 a4.Y), .d (.int .i64 a4.Z)]] (.tuple [.d (.list (List.map encInterpreterReached y.1)), .agg [.d (.int .i64 y.2.1.Code), .d (.int .i64 y.2.1.R), .d (.int .i64 y.2.1.Z), .d (.int .i64 y.2.1.Q), .d (.int .i64 y.2.1.Rate), .d (.int .i64 y.2.1.Initial), .d (.bool y.2.1.High)], .d (.int .i64 y.2.2)]) := by
  refine spec_mir Tryd.func74 rfl (by kernel_rfl) (by kernel_rfl) (fun y : (List InterpreterReached) × CycleCycle × Int => .tuple [.d (.list (List.map encInterpreterReached y.1)), .agg [.d (.int .i64 y.2.1.Code), .d (.int .i64 y.2.1.R), .d (.int .i64 y.2.1.Z), .d (.int .i64 y.2.1.Q), .d (.int .i64 y.2.1.Rate), .d (.int .i64 y.2.1.Initial), .d (.bool y.2.1.High)], .d (.int .i64 y.2.2)]) ?_ h
  unfold inp_canned
  simp only [List.replicate, List.length, nS, nA, Tryd.ntmps74, SV]
  refine Mir.seqK ?_
  refine Mir.region fun e h => ?_
  simp only [↓reduceIte, reduceCtorEq, nA, nS, nM, nE, nL, nT, nB, iT, iN, iE, and_self, SR, SV, zero_68, encApiGrid2, encApiMove, encApiWord, encInterpreterReached]
  refine Mir.use (e := e) ?_ h
  refine Mir.seqK ?_
  refine Mir.region fun e h => ?_
  simp only [↓reduceIte, reduceCtorEq, nA, nS, nM, nE, nL, nT, nB, iT, iN, iE, and_self, SR, SV, fld_24_2, sz_2, ag_2, encApiGrid2, encApiMove, encApiWord, encInterpreterReached]
  refine Mir.use (e := e) ?_ h
  refine Mir.seqK ?_
  refine Mir.seqK ?_
  refine Mir.region fun e h => ?_
  simp only [↓reduceIte, reduceCtorEq, nA, nS, nM, nE, nL, nT, nB, iT, iN, iE, and_self, SR, SV, ag_68, sz_68, zero_68, pl_68, gE_68, encApiGrid2, encApiMove, encApiWord, encInterpreterReached]
  refine Mir.use (e := e) ?_ h
  refine Mir.joinO (fun v101 : Int => [U, U, U, U, U, .ptr 0 0, .ptr 1 0, .ptr 2 0, .ptr 3 0, .ptr 4 0, U, .ptr 5 0, U, .d (.int .i64 v101), U, U, U, U, U, U, U, U, U, U, U, U, U, U, U, U, U, U, U, U, U, U, U, U, U, U, U, U, U, U, U, U, U, U, U, U, U, U, U, U, U, U, U, U, U, U, U, U, U, U, U, U, U, U, U, U, U, U, U, U, U, U, U, U]) (fun v101 : Int => ⟨[[.d (.int .i64 a0.Motion), .d (.int .i64 a0.Distance), .d (.int .i64 a0.Work), .d (.int .i64 a0.Length), .d (.int .i64 a0.Return), .d (.int .i64 a0.Feed), .d (.int .i64 a0.Tool), .d (.int .i64 a0.Offset)], [.d (.int .i64 a1.Code), .d (.int .i64 a1.R), .d (.int .i64 a1.Z), .d (.int .i64 a1.Q), .d (.int .i64 a1.Rate), .d (.int .i64 a1.Initial), .d (.bool a1.High)], [.d (.bool a2.Skip), .d (.list (List.map encApiWord a2.Words)), .d (.str a2.Comment)], [.d (.int .i64 a3.X), .d (.int .i64 a3.Y), .d (.int .i64 a3.Z)], [.d (.int .i64 a4.X), .d (.int .i64 a4.Y), .d (.int .i64 a4.Z)], [.d (.int .i64 0), .d (.int .i64 0), .d (.int .i64 0), .d (.int .i64 0), .d (.int .i64 0), .d (.int .i64 0), .d (.bool false)]], []⟩) (fun _ => rfl) ?_ ?_
  ·refine Mir.cond rfl (fun hb2 => ?_) (fun hb2 => ?_)
   ·refine Mir.region fun e h => ?_
    simp only [↓reduceIte, reduceCtorEq, nA, nS, nM, nE, nL, nT, nB, iT, iN, iE, and_self, SR, SV, fld_68_5, sz_2, ag_2, encApiWord]
    cases h
    simp only [↓reduceIte, reduceCtorEq, nA, nE, nL, and_self, and_true, true_and, SL, encApiWord, Tryd.results74, ag_68, sz_68]
   ·refine Mir.skip fun e h => ?_
    cases h
    simp only [↓reduceIte, reduceCtorEq, nA, nE, nL, and_self, and_true, true_and, SL, encApiWord, Tryd.results74, ag_68, sz_68]
  ·intro v101
   refine Mir.toK ?_
   refine Mir.seqK ?_
   refine Mir.bind fun y102 hy3 => ?_
   refine Mir.region fun e h => ?_
   simp only [↓reduceIte, reduceCtorEq, nA, nS, nM, nE, nL, nT, nB, iT, iN, iE, and_self, SR, SV, ag_42, sz_42, fld_65_0, sz_2, ag_2, fld_65_5, fld_65_4, ag_68, sz_68, encApiGrid2, encApiMove, encApiWord, encInterpreterReached]
   refine SpecS.by (cy_Read_spec hy3) (by simp only [↓reduceIte, reduceCtorEq, nA, nE, nL, and_self, and_true, true_and, SL, encApiGrid2, encApiMove, encApiWord, encInterpreterReached]) ?_
   simp only [↓reduceIte, reduceCtorEq, nA, nS, nM, nE, nL, nT, nB, iT, iN, iE, and_self, SR, SV, zero_68, sz_68, encApiGrid2, encApiMove, encApiWord, encInterpreterReached]
   refine Mir.use (e := e) ?_ h
   refine Mir.seqK ?_
   refine Mir.seqK ?_
   refine Mir.region fun e h => ?_
   simp only [↓reduceIte, reduceCtorEq, nA, nS, nM, nE, nL, nT, nB, iT, iN, iE, and_self, SR, SV, encApiGrid2, encApiMove, encApiWord, encInterpreterReached]
   refine Mir.use (e := e) ?_ h
   refine Mir.cond rfl (fun hb5 => ?_) (fun hb5 => ?_)
   ·refine Mir.seqK ?_
    refine Mir.region fun e h => ?_
    simp only [↓reduceIte, reduceCtorEq, nA, nS, nM, nE, nL, nT, nB, iT, iN, iE, and_self, SR, SV, zero_68, pl_68, sz_68, encApiWord]
    refine Mir.use (e := e) ?_ h
    refine Mir.ret fun e h => ?_
    cases h
    simp only [↓reduceIte, reduceCtorEq, nA, nE, nL, and_self, and_true, true_and, SL, encApiWord, Tryd.results74, ag_68, sz_68]
   ·refine Mir.skip ?_
    refine Mir.toK ?_
    refine Mir.seqK ?_
    refine Mir.bind fun y103 hy6 => ?_
    refine Mir.region fun e h => ?_
    simp only [↓reduceIte, reduceCtorEq, nA, nS, nM, nE, nL, nT, nB, iT, iN, iE, and_self, SR, SV, ag_68, sz_68, ag_24, sz_24, fld_24_0, sz_2, ag_2, fld_24_1, zero_153, pl_153, und_154, sz_153, (nr rfl : okLen 2 = true), encApiGrid2, encApiMove, encApiWord, encInterpreterReached]
    refine SpecS.by (cy_Expand_spec hy6) (by simp only [↓reduceIte, reduceCtorEq, nA, nE, nL, and_self, and_true, true_and, SL, encApiGrid2, encApiMove, encApiWord, encInterpreterReached]) ?_
    simp only [↓reduceIte, reduceCtorEq, nA, nS, nM, nE, nL, nT, nB, iT, iN, iE, and_self, SR, SV, encApiGrid2, encApiMove, encApiWord, encInterpreterReached]
    refine Mir.use (e := e) ?_ h
    refine Mir.seqK ?_
    refine Mir.seqK ?_
    refine Mir.region fun e h => ?_
    simp only [↓reduceIte, reduceCtorEq, nA, nS, nM, nE, nL, nT, nB, iT, iN, iE, and_self, SR, SV, encApiGrid2, encApiMove, encApiWord, encInterpreterReached]
    refine Mir.use (e := e) ?_ h
    refine Mir.cond rfl (fun hb8 => ?_) (fun hb8 => ?_)
    ·refine Mir.seqK ?_
     refine Mir.region fun e h => ?_
     simp only [↓reduceIte, reduceCtorEq, nA, nS, nM, nE, nL, nT, nB, iT, iN, iE, and_self, SR, SV, zero_68, pl_68, sz_68, encApiGrid2, encApiWord]
     refine Mir.use (e := e) ?_ h
     refine Mir.ret fun e h => ?_
     cases h
     simp only [↓reduceIte, reduceCtorEq, nA, nE, nL, and_self, and_true, true_and, SL, encApiGrid2, encApiWord, Tryd.results74, ag_68, sz_68]
    ·refine Mir.skip ?_
     refine Mir.toK ?_
     refine Mir.seqK ?_
     refine Mir.region fun e h => ?_
     simp only [↓reduceIte, reduceCtorEq, nA, nS, nM, nE, nL, nT, nB, iT, iN, iE, and_self, SR, SV, encApiGrid2, encApiMove, encApiWord, encInterpreterReached]
     refine Mir.use (e := e) ?_ h
     refine Mir.seqK ?_
     refine Mir.seqK ?_
     refine Mir.region fun e h => ?_
     simp only [↓reduceIte, reduceCtorEq, nA, nS, nM, nE, nL, nT, nB, iT, iN, iE, and_self, SR, SV, und_149, encApiGrid2, encApiMove, encApiWord, encInterpreterReached]
     refine Mir.use (e := e) ?_ h
     refine Mir.gh [.slot 17 111] rfl ?_
     refine Mir.joinO (fun v135 : (List InterpreterReached) => [U, U, U, U, U, U, U, U, U, U, U, .ptr 5 0, U, U, .ptr 6 0, U, U, .own 0 (List.map encInterpreterReached v135), U, U, U, U, U, U, U, U, U, U, U, U, U, U, U, U, U, U, U, U, U, U, U, U, U, U, U, U, U, U, U, U, U, U, U, U, U, U, U, U, U, U, U, U, U, U, U, U, U, U, U, U, U, U, U, U, U, U, U, U]) (fun v135 : (List InterpreterReached) => ⟨[[.d (.int .i64 a0.Motion), .d (.int .i64 a0.Distance), .d (.int .i64 a0.Work), .d (.int .i64 a0.Length), .d (.int .i64 a0.Return), .d (.int .i64 a0.Feed), .d (.int .i64 a0.Tool), .d (.int .i64 a0.Offset)], [.d (.int .i64 a1.Code), .d (.int .i64 a1.R), .d (.int .i64 a1.Z), .d (.int .i64 a1.Q), .d (.int .i64 a1.Rate), .d (.int .i64 a1.Initial), .d (.bool a1.High)], [.d (.bool a2.Skip), .d (.list (List.map encApiWord a2.Words)), .d (.str a2.Comment)], [.d (.int .i64 a3.X), .d (.int .i64 a3.Y), .d (.int .i64 a3.Z)], [.d (.int .i64 a4.X), .d (.int .i64 a4.Y), .d (.int .i64 a4.Z)], [.d (.int .i64 0), .d (.int .i64 0), .d (.int .i64 0), .d (.int .i64 0), .d (.int .i64 0), .d (.int .i64 0), .d (.bool false)], [.d (.int .i64 y102.1.Code), .d (.int .i64 y102.1.R), .d (.int .i64 y102.1.Z), .d (.int .i64 y102.1.Q), .d (.int .i64 y102.1.Rate), .d (.int .i64 y102.1.Initial), .d (.bool y102.1.High)]], [(111, v135.length)]⟩) (fun _ => rfl) ?_ ?_
     ·refine Mir.block ?_
      refine Mir.guard fun qg73 => ?_
      refine Mir.range (fun (i147 : Nat) (v148 : (List InterpreterReached)) => [U, U, U, U, U, U, U, U, U, U, U, .ptr 5 0, U, U, .ptr 6 0, U, U, .own 0 (List.map encInterpreterReached v148), U, U, U, U, U, U, U, U, U, U, U, U, U, U, U, U, U, U, U, U, U, U, U, U, U, U, U, U, U, U, U, U, U, U, U, U, U, U, U, U, U, U, U, .d (.list (List.map encApiMove y103.1)), .d (.int .i64 (y103.1.length : Int)), .d (.int .i64 (i147 : Int)), U, U, U, U, U, U, U, U, U, U, U, U, U, U]) (fun (i147 : Nat) (v148 : (List InterpreterReached)) => ⟨[[.d (.int .i64 a0.Motion), .d (.int .i64 a0.Distance), .d (.int .i64 a0.Work), .d (.int .i64 a0.Length), .d (.int .i64 a0.Return), .d (.int .i64 a0.Feed), .d (.int .i64 a0.Tool), .d (.int .i64 a0.Offset)], [.d (.int .i64 a1.Code), .d (.int .i64 a1.R), .d (.int .i64 a1.Z), .d (.int .i64 a1.Q), .d (.int .i64 a1.Rate), .d (.int .i64 a1.Initial), .d (.bool a1.High)], [.d (.bool a2.Skip), .d (.list (List.map encApiWord a2.Words)), .d (.str a2.Comment)], [.d (.int .i64 a3.X), .d (.int .i64 a3.Y), .d (.int .i64 a3.Z)], [.d (.int .i64 a4.X), .d (.int .i64 a4.Y), .d (.int .i64 a4.Z)], [.d (.int .i64 0), .d (.int .i64 0), .d (.int .i64 0), .d (.int .i64 0), .d (.int .i64 0), .d (.int .i64 0), .d (.bool false)], [.d (.int .i64 y102.1.Code), .d (.int .i64 y102.1.R), .d (.int .i64 y102.1.Z), .d (.int .i64 y102.1.Q), .d (.int .i64 y102.1.Rate), .d (.int .i64 y102.1.Initial), .d (.bool y102.1.High)]], [(111, v148.length)]⟩) qg73 (fun _ _ => rfl) (by simp only [↓reduceIte, reduceCtorEq, nA, nE, nL, and_self, and_true, true_and, SL, encApiGrid2, encApiMove, encApiWord, encInterpreterReached, (nr rfl : ((0 : Nat) : Int) = 0)]) (by simp only [↓reduceIte, reduceCtorEq, nA, nE, nL, and_self, and_true, true_and, SL, encApiGrid2, encApiMove, encApiWord, encInterpreterReached, (nr rfl : ((0 : Nat) : Int) = 0)]) ?_ ?_
      ·intro i147 e149 v148 qr71
       refine Mir.seqK ?_
       refine Mir.region fun e h => ?_
       simp only [↓reduceIte, reduceCtorEq, nA, nS, nM, nE, nL, nT, nB, iT, iN, iE, and_self, SR, SV, qr71, encApiGrid2, encApiMove, encApiWord, encInterpreterReached]
       refine Mir.use (e := e) ?_ h
       refine Mir.seqK ?_
       refine Mir.condT rfl ?_
       refine Mir.skip ?_
       refine Mir.toK ?_
       refine Mir.seqK ?_
       refine Mir.block ?_
       refine Mir.seqK ?_
       refine Mir.region fun e h => ?_
       simp only [↓reduceIte, reduceCtorEq, nA, nS, nM, nE, nL, nT, nB, iT, iN, iE, and_self, SR, SV, und_149, sz_156, qr71, Int.toNat_natCast, ag_156, zero_156, encApiGrid2, encApiMove, encApiWord, encInterpreterReached]
       refine Mir.use (e := e) ?_ h
       refine Mir.guard fun q75 => ?_
       refine Mir.region fun e h => ?_
       simp only [↓reduceIte, reduceCtorEq, nA, nS, nM, nE, nL, nT, nB, iT, iN, iE, and_self, SR, SV, fld_156_1, sz_24, ag_24, fld_156_3, sz_2, ag_2, zero_111, pl_111, und_107, sz_111, (nr rfl : okLen 4 = true), app_107, al_InterpreterReached, q75, encApiGrid2, encApiMove, encApiWord, encInterpreterReached]
       refine Mir.use (e := e) ?_ h
       refine Mir.region fun e h => ?_
       simp only [↓reduceIte, reduceCtorEq, nA, nS, nM, nE, nL, nT, nB, iT, iN, iE, and_self, SR, SV, encApiGrid2, encApiMove, encApiWord, encInterpreterReached]
       cases h
       simp only [↓reduceIte, reduceCtorEq, nA, nE, nL, and_self, and_true, true_and, SL, encApiGrid2, encApiMove, encApiWord, encInterpreterReached, Tryd.results74, ag_68, sz_68, qr71]
      ·intro v148 qd72
       refine Mir.seqK ?_
       refine Mir.region fun e h => ?_
       simp only [↓reduceIte, reduceCtorEq, nA, nS, nM, nE, nL, nT, nB, iT, iN, iE, and_self, SR, SV, qd72, encApiGrid2, encApiMove, encApiWord, encInterpreterReached]
       refine Mir.use (e := e) ?_ h
       refine Mir.seqK ?_
       refine Mir.condF rfl ?_
       refine Mir.exit fun e h => ?_
       cases h
       simp only [↓reduceIte, reduceCtorEq, nA, nE, nL, and_self, and_true, true_and, SL, encApiGrid2, encApiMove, encApiWord, encInterpreterReached, Tryd.results74, ag_68, sz_68]
     ·intro v135
      refine Mir.toK ?_
      refine Mir.seqK ?_
      refine Mir.regionD [] (by kernel_rfl) fun e h => ?_
      simp only [↓reduceIte, reduceCtorEq, nA, nS, nM, nE, nL, nT, nB, iT, iN, iE, and_self, SR, SV, sepL_nil, sepL_cons, sepV_ne, sepV_d, sepV_i, true_and, Bool.and_self, ag_68, sz_68, encApiGrid2, encApiMove, encApiWord, encInterpreterReached]
      refine Mir.use (e := e) ?_ h
      refine Mir.ret fun e h => ?_
      cases h
      simp only [↓reduceIte, reduceCtorEq, nA, nE, nL, and_self, and_true, true_and, SL, encApiGrid2, encApiMove, encApiWord, encInterpreterReached, Tryd.results74, ag_68, sz_68]

def inp_value (a0 : ApiBlock) (a1 : Int) : Option Int :=
  bindO (bk_Find a0 a1) fun (y101 : Int × Bool) =>
  some y101.1
theorem inp_value_spec {a0 : ApiBlock} {a1 : Int} {y : Int} (h : inp_value a0 a1 = some y) : Spec gP 88 [.agg [.d (.bool a0.Skip), .d (.list (List.map encApiWord a0.Words)), .d (.str a0.Comment)], .d (.int .u8 a1)] (.d (.int .i64 y)) := by
  refine spec_mir Tryd.func88 rfl (by kernel_rfl) (by kernel_rfl) (fun y : Int => .d (.int .i64 y)) ?_ h
  unfold inp_value
  simp only [List.replicate, List.length, nS, nA, Tryd.ntmps88, SV]
  refine Mir.seqK ?_
  refine Mir.region fun e h => ?_
  simp only [↓reduceIte, reduceCtorEq, nA, nS, nM, nE, nL, nT, nB, iT, iN, iE, and_self, SR, SV, encApiWord]
  refine Mir.use (e := e) ?_ h
  refine Mir.seqK ?_
  refine Mir.bind fun y101 hy1 => ?_
  refine Mir.region fun e h => ?_
  simp only [↓reduceIte, reduceCtorEq, nA, nS, nM, nE, nL, nT, nB, iT, iN, iE, and_self, SR, SV, ag_42, sz_42, encApiWord]
  refine SpecS.by (bk_Find_spec hy1) (by simp only [↓reduceIte, reduceCtorEq, nA, nE, nL, and_self, and_true, true_and, SL, encApiWord]) ?_
  simp only [↓reduceIte, reduceCtorEq, nA, nS, nM, nE, nL, nT, nB, iT, iN, iE, and_self, SR, SV, encApiWord]
  refine Mir.use (e := e) ?_ h
  refine Mir.seqK ?_
  refine Mir.region fun e h => ?_
  simp only [↓reduceIte, reduceCtorEq, nA, nS, nM, nE, nL, nT, nB, iT, iN, iE, and_self, SR, SV, encApiWord]
  refine Mir.use (e := e) ?_ h
  refine Mir.ret fun e h => ?_
  cases h
  simp only [↓reduceIte, reduceCtorEq, nA, nE, nL, and_self, and_true, true_and, SL, encApiWord, Tryd.results88]

def ip_isArc (a0 : ApiMove) : Option Bool :=
  some ((a0.Kind == 3) || (a0.Kind == 4))
theorem ip_isArc_spec {a0 : ApiMove} {y : Bool} (h : ip_isArc a0 = some y) : Spec gP 112 [.agg [.d (.int .i64 a0.Kind), .d (.int .i64 a0.To.X), .d (.int .i64 a0.To.Y), .d (.int .i64 a0.To.Z), .d (.int .i64 a0.Center.X), .d (.int .i64 a0.Center.Y), .d (.int .i64 a0.Rate)]] (.d (.bool y)) := by
  refine spec_mir Tryd.func112 rfl (by kernel_rfl) (by kernel_rfl) (fun y : Bool => .d (.bool y)) ?_ h
  unfold ip_isArc
  simp only [List.replicate, List.length, nS, nA, Tryd.ntmps112, SV]
  refine Mir.seqK ?_
  refine Mir.region fun e h => ?_
  simp only [↓reduceIte, reduceCtorEq, nA, nS, nM, nE, nL, nT, nB, iT, iN, iE, and_self, SR, SV]
  refine Mir.use (e := e) ?_ h
  refine Mir.seqK ?_
  refine Mir.joinV [U, U, .d (.bool ((a0.Kind == 3) || (a0.Kind == 4))), U, U, U, U, U, U, U, U] ⟨[[.d (.int .i64 a0.Kind), .d (.int .i64 a0.To.X), .d (.int .i64 a0.To.Y), .d (.int .i64 a0.To.Z), .d (.int .i64 a0.Center.X), .d (.int .i64 a0.Center.Y), .d (.int .i64 a0.Rate)]], []⟩ rfl ?_ ?_
  ·refine SWs.region ?_
   rcases Bool.eq_false_or_eq_true (a0.Kind == 3) with hb1 | hb1
   ·simp only [↓reduceIte, reduceCtorEq, nA, nS, nM, nE, nL, nT, nB, iT, iN, iE, and_self, SR, SV, SL, Bool.true_and, Bool.false_and, Bool.true_or, Bool.false_or, Bool.or_true, Bool.or_false, Bool.and_true, Bool.and_false, Bool.not_true, Bool.not_false, fld_156_0, sz_3, ag_3, hb1]
   ·simp only [↓reduceIte, reduceCtorEq, nA, nS, nM, nE, nL, nT, nB, iT, iN, iE, and_self, SR, SV, SL, Bool.true_and, Bool.false_and, Bool.true_or, Bool.false_or, Bool.or_true, Bool.or_false, Bool.and_true, Bool.and_false, Bool.not_true, Bool.not_false, fld_156_0, sz_3, ag_3, hb1]
  ·refine Mir.toK ?_
   refine Mir.ret fun e h => ?_
   cases h
   simp only [↓reduceIte, reduceCtorEq, nA, nE, nL, and_self, and_true, true_and, SL, Tryd.results112]

def ip_apart (a0 : Int) (a1 : Int) : Option Int :=
  bindO (if (decide (a0 < a1)) = true then
        some (a1, a0)
      else
        some (a0, a1)) fun (v101 : Int × Int) =>
  some (IntKind.u64.wrap ((IntKind.u64.wrap v101.1) - (IntKind.u64.wrap v101.2)))
theorem ip_apart_spec {a0 : Int} {a1 : Int} {y : Int} (h : ip_apart a0 a1 = some y) : Spec gP 114 [.d (.int .i64 a0), .d (.int .i64 a1)] (.d (.int .u64 y)) := by
  refine spec_mir Tryd.func114 rfl (by kernel_rfl) (by kernel_rfl) (fun y : Int => .d (.int .u64 y)) ?_ h
  unfold ip_apart
  simp only [List.replicate, List.length, nS, nA, Tryd.ntmps114, SV]
  refine Mir.seqK ?_
  refine Mir.region fun e h => ?_
  simp only [↓reduceIte, reduceCtorEq, nA, nS, nM, nE, nL, nT, nB, iT, iN, iE, and_self, SR, SV]
  refine Mir.use (e := e) ?_ h
  refine Mir.seqK ?_
  refine Mir.seqK ?_
  refine Mir.region fun e h => ?_
  simp only [↓reduceIte, reduceCtorEq, nA, nS, nM, nE, nL, nT, nB, iT, iN, iE, and_self, SR, SV]
  refine Mir.use (e := e) ?_ h
  refine Mir.joinO (fun v101 : Int × Int => [.d (.int .i64 v101.1), .d (.int .i64 v101.2), U, U, U, U, U, U, U, U, U, U, U, U, U]) (fun v101 : Int × Int => ⟨[], []⟩) (fun _ => rfl) ?_ ?_
  ·refine Mir.cond rfl (fun hb2 => ?_) (fun hb2 => ?_)
   ·refine Mir.region fun e h => ?_
    simp only [↓reduceIte, reduceCtorEq, nA, nS, nM, nE, nL, nT, nB, iT, iN, iE, and_self, SR, SV]
    cases h
    simp only [↓reduceIte, reduceCtorEq, nA, nE, nL, and_self, and_true, true_and, SL, Tryd.results114]
   ·refine Mir.skip fun e h => ?_
    cases h
    simp only [↓reduceIte, reduceCtorEq, nA, nE, nL, and_self, and_true, true_and, SL, Tryd.results114]
  ·intro v101
   refine Mir.toK ?_
   refine Mir.seqK ?_
   refine Mir.region fun e h => ?_
   simp only [↓reduceIte, reduceCtorEq, nA, nS, nM, nE, nL, nT, nB, iT, iN, iE, and_self, SR, SV, und_2, und_172]
   refine Mir.use (e := e) ?_ h
   refine Mir.ret fun e h => ?_
   cases h
   simp only [↓reduceIte, reduceCtorEq, nA, nE, nL, and_self, and_true, true_and, SL, Tryd.results114]

def ip_point (a0 : ApiPos) (a1 : ApiGrid2) : Option (Int × Int) :=
  if ((a0.Y == a1.Y) && (decide (a0.X > a1.X))) = true then
    bindO (ip_apart a0.X a1.X) fun (y109 : Int) =>
    some (0, y109)
  else
    if ((a0.X == a1.X) && (decide (a0.Y > a1.Y))) = true then
      bindO (ip_apart a0.Y a1.Y) fun (y113 : Int) =>
      some (1, y113)
    else
      if ((a0.Y == a1.Y) && (decide (a0.X < a1.X))) = true then
        bindO (ip_apart a0.X a1.X) fun (y116 : Int) =>
        some (2, y116)
      else
        if ((a0.X == a1.X) && (decide (a0.Y < a1.Y))) = true then
          bindO (ip_apart a0.Y a1.Y) fun (y118 : Int) =>
          some (3, y118)
        else
          some (0, 0)
theorem ip_point_spec {a0 : ApiPos} {a1 : ApiGrid2} {y : Int × Int} (h : ip_point a0 a1 = some y) : Spec gP 102 [.agg [.d (.int .i64 a0.X), .d (.int .i64 a0.Y), .d (.int .i64 a0.Z)], .agg [.d (.int .i64 a1.X), .d (.int .i64 a1.Y)]] (.tuple [.d (.int .i64 y.1), .d (.int .u64 y.2)]) := by
  refine spec_mir Tryd.func102 rfl (by kernel_rfl) (by kernel_rfl) (fun y : Int × Int => .tuple [.d (.int .i64 y.1), .d (.int .u64 y.2)]) ?_ h
  unfold ip_point
  simp only [List.replicate, List.length, nS, nA, Tryd.ntmps102, SV]
  refine Mir.seqK ?_
  refine Mir.region fun e h => ?_
  simp only [↓reduceIte, reduceCtorEq, nA, nS, nM, nE, nL, nT, nB, iT, iN, iE, and_self, SR, SV]
  refine Mir.use (e := e) ?_ h
  refine Mir.seqK ?_
  refine Mir.block ?_
  refine Mir.seqK ?_
  refine Mir.joinV [U, U, .ptr 0 0, .ptr 1 0, U, U, .d (.bool ((a0.Y == a1.Y) && (decide (a0.X > a1.X)))), U, U, U, U, U, U, U, U, U, U, U, U, U, U, U, U, U, U, U, U, U, U, U, U, U, U, U, U, U, U, U, U, U, U, U, U, U, U, U, U, U, U, U, U, U, U, U, U, U, U, U, U, U, U, U, U, U, U, U, U, U, U, U, U, U, U, U, U, U, U, U] ⟨[[.d (.int .i64 a0.X), .d (.int .i64 a0.Y), .d (.int .i64 a0.Z)], [.d (.int .i64 a1.X), .d (.int .i64 a1.Y)]], []⟩ rfl ?_ ?_
  ·refine SWs.region ?_
   rcases Bool.eq_false_or_eq_true (a0.Y == a1.Y) with hb13 | hb13
   ·simp only [↓reduceIte, reduceCtorEq, nA, nS, nM, nE, nL, nT, nB, iT, iN, iE, and_self, SR, SV, SL, Bool.true_and, Bool.false_and, Bool.true_or, Bool.false_or, Bool.or_true, Bool.or_false, Bool.and_true, Bool.and_false, Bool.not_true, Bool.not_false, fld_24_1, sz_2, ag_2, fld_153_1, fld_24_0, fld_153_0, hb13]
   ·simp only [↓reduceIte, reduceCtorEq, nA, nS, nM, nE, nL, nT, nB, iT, iN, iE, and_self, SR, SV, SL, Bool.true_and, Bool.false_and, Bool.true_or, Bool.false_or, Bool.or_true, Bool.or_false, Bool.and_true, Bool.and_false, Bool.not_true, Bool.not_false, fld_24_1, sz_2, ag_2, fld_153_1, hb13]
  ·refine Mir.toK ?_
   refine Mir.cond rfl (fun hb25 => ?_) (fun hb25 => ?_)
   ·refine Mir.seqK ?_
    refine Mir.bind fun y109 hy26 => ?_
    refine Mir.region fun e h => ?_
    simp only [↓reduceIte, reduceCtorEq, nA, nS, nM, nE, nL, nT, nB, iT, iN, iE, and_self, SR, SV, fld_24_0, sz_2, ag_2, fld_153_0]
    refine SpecS.by (ip_apart_spec hy26) (by simp only [↓reduceIte, reduceCtorEq, nA, nE, nL, and_self, and_true, true_and, SL]) ?_
    simp only [↓reduceIte, reduceCtorEq, nA, nS, nM, nE, nL, nT, nB, iT, iN, iE, and_self, SR, SV]
    refine Mir.use (e := e) ?_ h
    refine Mir.ret fun e h => ?_
    cases h
    simp only [↓reduceIte, reduceCtorEq, nA, nE, nL, and_self, and_true, true_and, SL, Tryd.results102]
   ·refine Mir.seqK ?_
    refine Mir.joinV [U, U, .ptr 0 0, .ptr 1 0, U, U, U, U, U, U, U, U, U, U, U, U, U, U, U, U, U, U, U, U, .d (.bool ((a0.X == a1.X) && (decide (a0.Y > a1.Y)))), U, U, U, U, U, U, U, U, U, U, U, U, U, U, U, U, U, U, U, U, U, U, U, U, U, U, U, U, U, U, U, U, U, U, U, U, U, U, U, U, U, U, U, U, U, U, U, U, U, U, U, U, U] ⟨[[.d (.int .i64 a0.X), .d (.int .i64 a0.Y), .d (.int .i64 a0.Z)], [.d (.int .i64 a1.X), .d (.int .i64 a1.Y)]], []⟩ rfl ?_ ?_
    ·refine SWs.region ?_
     rcases Bool.eq_false_or_eq_true (a0.X == a1.X) with hb27 | hb27
     ·simp only [↓reduceIte, reduceCtorEq, nA, nS, nM, nE, nL, nT, nB, iT, iN, iE, and_self, SR, SV, SL, Bool.true_and, Bool.false_and, Bool.true_or, Bool.false_or, Bool.or_true, Bool.or_false, Bool.and_true, Bool.and_false, Bool.not_true, Bool.not_false, fld_24_0, sz_2, ag_2, fld_153_0, fld_24_1, fld_153_1, hb27]
     ·simp only [↓reduceIte, reduceCtorEq, nA, nS, nM, nE, nL, nT, nB, iT, iN, iE, and_self, SR, SV, SL, Bool.true_and, Bool.false_and, Bool.true_or, Bool.false_or, Bool.or_true, Bool.or_false, Bool.and_true, Bool.and_false, Bool.not_true, Bool.not_false, fld_24_0, sz_2, ag_2, fld_153_0, hb27]
    ·refine Mir.toK ?_
     refine Mir.cond rfl (fun hb36 => ?_) (fun hb36 => ?_)
     ·refine Mir.seqK ?_
      refine Mir.bind fun y113 hy37 => ?_
      refine Mir.region fun e h => ?_
      simp only [↓reduceIte, reduceCtorEq, nA, nS, nM, nE, nL, nT, nB, iT, iN, iE, and_self, SR, SV, fld_24_1, sz_2, ag_2, fld_153_1]
      refine SpecS.by (ip_apart_spec hy37) (by simp only [↓reduceIte, reduceCtorEq, nA, nE, nL, and_self, and_true, true_and, SL]) ?_
      simp only [↓reduceIte, reduceCtorEq, nA, nS, nM, nE, nL, nT, nB, iT, iN, iE, and_self, SR, SV]
      refine Mir.use (e := e) ?_ h
      refine Mir.ret fun e h => ?_
      cases h
      simp only [↓reduceIte, reduceCtorEq, nA, nE, nL, and_self, and_true, true_and, SL, Tryd.results102]
     ·refine Mir.seqK ?_
      refine Mir.joinV [U, U, .ptr 0 0, .ptr 1 0, U, U, U, U, U, U, U, U, U, U, U, U, U, U, U, U, U, U, U, U, U, U, U, U, U, U, U, U, U, U, U, U, U, U, U, U, U, U, .d (.bool ((a0.Y == a1.Y) && (decide (a0.X < a1.X)))), U, U, U, U, U, U, U, U, U, U, U, U, U, U, U, U, U, U, U, U, U, U, U, U, U, U, U, U, U, U, U, U, U, U, U] ⟨[[.d (.int .i64 a0.X), .d (.int .i64 a0.Y), .d (.int .i64 a0.Z)], [.d (.int .i64 a1.X), .d (.int .i64 a1.Y)]], []⟩ rfl ?_ ?_
      ·refine SWs.region ?_
       rcases Bool.eq_false_or_eq_true (a0.Y == a1.Y) with hb38 | hb38
       ·simp only [↓reduceIte, reduceCtorEq, nA, nS, nM, nE, nL, nT, nB, iT, iN, iE, and_self, SR, SV, SL, Bool.true_and, Bool.false_and, Bool.true_or, Bool.false_or, Bool.or_true, Bool.or_false, Bool.and_true, Bool.and_false, Bool.not_true, Bool.not_false, fld_24_1, sz_2, ag_2, fld_153_1, fld_24_0, fld_153_0, hb38]
       ·simp only [↓reduceIte, reduceCtorEq, nA, nS, nM, nE, nL, nT, nB, iT, iN, iE, and_self, SR, SV, SL, Bool.true_and, Bool.false_and, Bool.true_or, Bool.false_or, Bool.or_true, Bool.or_false, Bool.and_true, Bool.and_false, Bool.not_true, Bool.not_false, fld_24_1, sz_2, ag_2, fld_153_1, hb38]
      ·refine Mir.toK ?_
       refine Mir.cond rfl (fun hb44 => ?_) (fun hb44 => ?_)
       ·refine Mir.seqK ?_
        refine Mir.bind fun y116 hy45 => ?_
        refine Mir.region fun e h => ?_
        simp only [↓reduceIte, reduceCtorEq, nA, nS, nM, nE, nL, nT, nB, iT, iN, iE, and_self, SR, SV, fld_24_0, sz_2, ag_2, fld_153_0]
        refine SpecS.by (ip_apart_spec hy45) (by simp only [↓reduceIte, reduceCtorEq, nA, nE, nL, and_self, and_true, true_and, SL]) ?_
        simp only [↓reduceIte, reduceCtorEq, nA, nS, nM, nE, nL, nT, nB, iT, iN, iE, and_self, SR, SV]
        refine Mir.use (e := e) ?_ h
        refine Mir.ret fun e h => ?_
        cases h
        simp only [↓reduceIte, reduceCtorEq, nA, nE, nL, and_self, and_true, true_and, SL, Tryd.results102]
       ·refine Mir.seqK ?_
        refine Mir.joinV [U, U, .ptr 0 0, .ptr 1 0, U, U, U, U, U, U, U, U, U, U, U, U, U, U, U, U, U, U, U, U, U, U, U, U, U, U, U, U, U, U, U, U, U, U, U, U, U, U, U, U, U, U, U, U, U, U, U, U, U, U, U, U, U, U, U, U, .d (.bool ((a0.X == a1.X) && (decide (a0.Y < a1.Y)))), U, U, U, U, U, U, U, U, U, U, U, U, U, U, U, U, U] ⟨[[.d (.int .i64 a0.X), .d (.int .i64 a0.Y), .d (.int .i64 a0.Z)], [.d (.int .i64 a1.X), .d (.int .i64 a1.Y)]], []⟩ rfl ?_ ?_
        ·refine SWs.region ?_
         rcases Bool.eq_false_or_eq_true (a0.X == a1.X) with hb46 | hb46
         ·simp only [↓reduceIte, reduceCtorEq, nA, nS, nM, nE, nL, nT, nB, iT, iN, iE, and_self, SR, SV, SL, Bool.true_and, Bool.false_and, Bool.true_or, Bool.false_or, Bool.or_true, Bool.or_false, Bool.and_true, Bool.and_false, Bool.not_true, Bool.not_false, fld_24_0, sz_2, ag_2, fld_153_0, fld_24_1, fld_153_1, hb46]
         ·simp only [↓reduceIte, reduceCtorEq, nA, nS, nM, nE, nL, nT, nB, iT, iN, iE, and_self, SR, SV, SL, Bool.true_and, Bool.false_and, Bool.true_or, Bool.false_or, Bool.or_true, Bool.or_false, Bool.and_true, Bool.and_false, Bool.not_true, Bool.not_false, fld_24_0, sz_2, ag_2, fld_153_0, hb46]
        ·refine Mir.toK ?_
         refine Mir.cond rfl (fun hb49 => ?_) (fun hb49 => ?_)
         ·refine Mir.seqK ?_
          refine Mir.bind fun y118 hy50 => ?_
          refine Mir.region fun e h => ?_
          simp only [↓reduceIte, reduceCtorEq, nA, nS, nM, nE, nL, nT, nB, iT, iN, iE, and_self, SR, SV, fld_24_1, sz_2, ag_2, fld_153_1]
          refine SpecS.by (ip_apart_spec hy50) (by simp only [↓reduceIte, reduceCtorEq, nA, nE, nL, and_self, and_true, true_and, SL]) ?_
          simp only [↓reduceIte, reduceCtorEq, nA, nS, nM, nE, nL, nT, nB, iT, iN, iE, and_self, SR, SV]
          refine Mir.use (e := e) ?_ h
          refine Mir.ret fun e h => ?_
          cases h
          simp only [↓reduceIte, reduceCtorEq, nA, nE, nL, and_self, and_true, true_and, SL, Tryd.results102]
         ·refine Mir.skip ?_
          refine Mir.toB ?_
          refine Mir.toK ?_
          refine Mir.seqK ?_
          refine Mir.region fun e h => ?_
          simp only [↓reduceIte, reduceCtorEq, nA, nS, nM, nE, nL, nT, nB, iT, iN, iE, and_self, SR, SV]
          refine Mir.use (e := e) ?_ h
          refine Mir.ret fun e h => ?_
          cases h
          simp only [↓reduceIte, reduceCtorEq, nA, nE, nL, and_self, and_true, true_and, SL, Tryd.results102]

def ip_right (a0 : ApiPos) (a1 : ApiMove) : Option Bool :=
  if (a1.Kind == 1) = true then
    some (a1.Rate == 0)
  else
    if (a1.Kind == 2) = true then
      some (decide (a1.Rate > 0))
    else
      bindO (ip_point a0 a1.Center) fun (y101 : Int × Int) =>
      bindO (ip_point a1.To a1.Center) fun (y102 : Int × Int) =>
      bindO (bindO (ip_isArc (ApiMove.mk a1.Kind a1.To a1.Center a1.Rate)) fun (y103 : Bool) =>
          if y103 = true then
            if (decide (a1.Rate > 0)) = true then
              if (decide (y101.2 > 0)) = true then
                some (y101.2 == y102.2)
              else
                some false
            else
              some false
          else
            some false) fun (v104 : Bool) =>
      some v104
theorem ip_right_spec {a0 : ApiPos} {a1 : ApiMove} {y : Bool} (h : ip_right a0 a1 = some y) : Spec gP 117 [.agg [.d (.int .i64 a0.X), .d (.int .i64 a0.Y), .d (.int .i64 a0.Z)], .agg [.d (.int .i64 a1.Kind), .d (.int .i64 a1.To.X), .d (.int .i64 a1.To.Y), .d (.int .i64 a1.To.Z), .d (.int .i64 a1.Center.X), .d (.int .i64 a1.Center.Y), .d (.int .i64 a1.Rate)]] (.d (.bool y)) := by
  refine spec_mir Tryd.func117 rfl (by kernel_rfl) (by kernel_rfl) (fun y : Bool => .d (.bool y)) ?_ h
  unfold ip_right
  simp only [List.replicate, List.length, nS, nA, Tryd.ntmps117, SV]
  refine Mir.seqK ?_
  refine Mir.region fun e h => ?_
  simp only [↓reduceIte, reduceCtorEq, nA, nS, nM, nE, nL, nT, nB, iT, iN, iE, and_self, SR, SV]
  refine Mir.use (e := e) ?_ h
  refine Mir.seqK ?_
  refine Mir.seqK ?_
  refine Mir.region fun e h => ?_
  simp only [↓reduceIte, reduceCtorEq, nA, nS, nM, nE, nL, nT, nB, iT, iN, iE, and_self, SR, SV, fld_156_0, sz_3, ag_3]
  refine Mir.use (e := e) ?_ h
  refine Mir.block ?_
  refine Mir.seqK ?_
  refine Mir.region fun e h => ?_
  simp only [↓reduceIte, reduceCtorEq, nA, nS, nM, nE, nL, nT, nB, iT, iN, iE, and_self, SR, SV]
  refine Mir.use (e := e) ?_ h
  refine Mir.cond rfl (fun hb5 => ?_) (fun hb5 => ?_)
  ·refine Mir.seqK ?_
   refine Mir.region fun e h => ?_
   simp only [↓reduceIte, reduceCtorEq, nA, nS, nM, nE, nL, nT, nB, iT, iN, iE, and_self, SR, SV, fld_156_3, sz_2, ag_2]
   refine Mir.use (e := e) ?_ h
   refine Mir.ret fun e h => ?_
   cases h
   simp only [↓reduceIte, reduceCtorEq, nA, nE, nL, and_self, and_true, true_and, SL, Tryd.results117]
  ·refine Mir.seqK ?_
   refine Mir.region fun e h => ?_
   simp only [↓reduceIte, reduceCtorEq, nA, nS, nM, nE, nL, nT, nB, iT, iN, iE, and_self, SR, SV]
   refine Mir.use (e := e) ?_ h
   refine Mir.cond rfl (fun hb7 => ?_) (fun hb7 => ?_)
   ·refine Mir.seqK ?_
    refine Mir.region fun e h => ?_
    simp only [↓reduceIte, reduceCtorEq, nA, nS, nM, nE, nL, nT, nB, iT, iN, iE, and_self, SR, SV, fld_156_3, sz_2, ag_2]
    refine Mir.use (e := e) ?_ h
    refine Mir.ret fun e h => ?_
    cases h
    simp only [↓reduceIte, reduceCtorEq, nA, nE, nL, and_self, and_true, true_and, SL, Tryd.results117]
   ·refine Mir.skip ?_
    refine Mir.toB ?_
    refine Mir.toK ?_
    refine Mir.seqK ?_
    refine Mir.bind fun y101 hy8 => ?_
    refine Mir.region fun e h => ?_
    simp only [↓reduceIte, reduceCtorEq, nA, nS, nM, nE, nL, nT, nB, iT, iN, iE, and_self, SR, SV, ag_24, sz_24, fld_156_2, sz_153, ag_153]
    refine SpecS.by (ip_point_spec hy8) (by simp only [↓reduceIte, reduceCtorEq, nA, nE, nL, and_self, and_true, true_and, SL]) ?_
    simp only [↓reduceIte, reduceCtorEq, nA, nS, nM, nE, nL, nT, nB, iT, iN, iE, and_self, SR, SV]
    refine Mir.use (e := e) ?_ h
    refine Mir.seqK ?_
    refine Mir.bind fun y102 hy9 => ?_
    refine Mir.region fun e h => ?_
    simp only [↓reduceIte, reduceCtorEq, nA, nS, nM, nE, nL, nT, nB, iT, iN, iE, and_self, SR, SV, fld_156_1, sz_24, ag_24, fld_156_2, sz_153, ag_153]
    refine SpecS.by (ip_point_spec hy9) (by simp only [↓reduceIte, reduceCtorEq, nA, nE, nL, and_self, and_true, true_and, SL]) ?_
    simp only [↓reduceIte, reduceCtorEq, nA, nS, nM, nE, nL, nT, nB, iT, iN, iE, and_self, SR, SV]
    refine Mir.use (e := e) ?_ h
    refine Mir.seqK ?_
    refine Mir.joinO (fun v104 : Bool => [U, U, U, U, .d (.bool v104), U, U, U, U, U, U, U, U, U, U, U, U, U, U, U, U, U, U, U, U, U, U, U, U, U, U, U, U, U, U, U, U, U, U, U, U, U, U, U, U, U, U, U, U, U, U, U]) (fun v104 : Bool => ⟨[[.d (.int .i64 a0.X), .d (.int .i64 a0.Y), .d (.int .i64 a0.Z)], [.d (.int .i64 a1.Kind), .d (.int .i64 a1.To.X), .d (.int .i64 a1.To.Y), .d (.int .i64 a1.To.Z), .d (.int .i64 a1.Center.X), .d (.int .i64 a1.Center.Y), .d (.int .i64 a1.Rate)]], []⟩) (fun _ => rfl) ?_ ?_
    ·refine Mir.bind fun y103 hy10 => ?_
     refine Mir.ite (fun hb11 => ?_) (fun hb11 => ?_)
     ·refine Mir.ite (fun hb12 => ?_) (fun hb12 => ?_)
      ·refine Mir.ite (fun hb13 => ?_) (fun hb13 => ?_)
       ·refine Mir.region fun e h => ?_
        simp only [↓reduceIte, reduceCtorEq, nA, nS, nM, nE, nL, nT, nB, iT, iN, iE, and_self, SR, SV, ag_156, sz_156, hb11, hb12, hb13]
        refine SpecS.by (ip_isArc_spec hy10) (by simp only [↓reduceIte, reduceCtorEq, nA, nE, nL, and_self, and_true, true_and, SL, hb11, hb12, hb13]) ?_
        simp only [↓reduceIte, reduceCtorEq, nA, nS, nM, nE, nL, nT, nB, iT, iN, iE, and_self, SR, SV, fld_156_3, sz_2, ag_2, hb11, hb12, hb13]
        cases h
        simp only [↓reduceIte, reduceCtorEq, nA, nE, nL, and_self, and_true, true_and, SL, hb11, hb12, hb13]
       ·refine Mir.region fun e h => ?_
        simp only [↓reduceIte, reduceCtorEq, nA, nS, nM, nE, nL, nT, nB, iT, iN, iE, and_self, SR, SV, ag_156, sz_156, hb11, hb12, hb13]
        refine SpecS.by (ip_isArc_spec hy10) (by simp only [↓reduceIte, reduceCtorEq, nA, nE, nL, and_self, and_true, true_and, SL, hb11, hb12, hb13]) ?_
        simp only [↓reduceIte, reduceCtorEq, nA, nS, nM, nE, nL, nT, nB, iT, iN, iE, and_self, SR, SV, fld_156_3, sz_2, ag_2, hb11, hb12, hb13]
        cases h
        simp only [↓reduceIte, reduceCtorEq, nA, nE, nL, and_self, and_true, true_and, SL, hb11, hb12, hb13]
      ·refine Mir.region fun e h => ?_
       simp only [↓reduceIte, reduceCtorEq, nA, nS, nM, nE, nL, nT, nB, iT, iN, iE, and_self, SR, SV, ag_156, sz_156, hb11, hb12]
       refine SpecS.by (ip_isArc_spec hy10) (by simp only [↓reduceIte, reduceCtorEq, nA, nE, nL, and_self, and_true, true_and, SL, hb11, hb12]) ?_
       simp only [↓reduceIte, reduceCtorEq, nA, nS, nM, nE, nL, nT, nB, iT, iN, iE, and_self, SR, SV, fld_156_3, sz_2, ag_2, hb11, hb12]
       cases h
       simp only [↓reduceIte, reduceCtorEq, nA, nE, nL, and_self, and_true, true_and, SL, hb11, hb12]
     ·refine Mir.region fun e h => ?_
      simp only [↓reduceIte, reduceCtorEq, nA, nS, nM, nE, nL, nT, nB, iT, iN, iE, and_self, SR, SV, ag_156, sz_156, hb11]
      refine SpecS.by (ip_isArc_spec hy10) (by simp only [↓reduceIte, reduceCtorEq, nA, nE, nL, and_self, and_true, true_and, SL, hb11]) ?_
      simp only [↓reduceIte, reduceCtorEq, nA, nS, nM, nE, nL, nT, nB, iT, iN, iE, and_self, SR, SV, hb11]
      cases h
      simp only [↓reduceIte, reduceCtorEq, nA, nE, nL, and_self, and_true, true_and, SL, hb11]
    ·intro v104
     refine Mir.toK ?_
     refine Mir.ret fun e h => ?_
     cases h
     simp only [↓reduceIte, reduceCtorEq, nA, nE, nL, and_self, and_true, true_and, SL, Tryd.results117]

def ip_Valid (a0 : ApiPos) (a1 : ApiMove) : Option Int :=
  bindO (ip_right a0 (ApiMove.mk a1.Kind a1.To a1.Center a1.Rate)) fun (y101 : Bool) =>
  if (!y101) = true then
    some 1
  else
    bindO (ip_isArc (ApiMove.mk a1.Kind a1.To a1.Center a1.Rate)) fun (y102 : Bool) =>
    bindX (if y102 = true then
          bindO (ip_point a0 a1.Center) fun (y108 : Int × Int) =>
          bindO (if (decide (y108.2 > 10000000)) = true then
                some true
              else
                bindO (ip_apart a1.Center.X 0) fun (y109 : Int) =>
                if (decide (y109 > 10000000)) = true then
                  some true
                else
                  bindO (ip_apart a1.Center.Y 0) fun (y110 : Int) =>
                  some (decide (y110 > 10000000))) fun (v111 : Bool) =>
          if v111 = true then
            some (.ret 11)
          else
            some (.go [a0.X, a0.Y, a0.Z, a1.To.X, a1.To.Y, a1.To.Z, IntKind.i64.wrap (a1.Center.X + (IntKind.i64.wrap y108.2)), IntKind.i64.wrap (a1.Center.X - (IntKind.i64.wrap y108.2)), IntKind.i64.wrap (a1.Center.Y + (IntKind.i64.wrap y108.2)), IntKind.i64.wrap (a1.Center.Y - (IntKind.i64.wrap y108.2))])
        else
          some (.go [a0.X, a0.Y, a0.Z, a1.To.X, a1.To.Y, a1.To.Z])) fun (v107 : (List Int)) =>
    bindX (guardO (okIdx v107) (
        rangeX (fun (i152 : Nat) (e154 : Int) (v153 : Unit) =>
          bindO (ip_apart e154 0) fun (y156 : Int) =>
          if (decide (y156 > 10000000)) = true then
            some (.ret (.ret 11))
          else
            some (.go ())) (fun (v153 : Unit) => some (.go ())) v107 0 ())) fun (v134 : Unit) =>
    some 0
set_option maxHeartbeats 8000000 in
theorem ip_Valid_spec {a0 : ApiPos} {a1 : ApiMove} {y : Int} (h : ip_Valid a0 a1 = some y) : Spec gP 113 [.agg [.d (.int .i64 a0.X), .d (.int .i64 a0.Y), .d (.int .i64 a0.Z)], .agg [.d (.int .i64 a1.Kind), .d (.int .i64 a1.To.X), .d (.int .i64 a1.To.Y), .d (.int .i64 a1.To.Z), .d (.int .i64 a1.Center.X), .d (.int .i64 a1.Center.Y), .d (.int .i64 a1.Rate)]] (.d (.int .i64 y)) := by
  refine spec_mir Tryd.func113 rfl (by kernel_rfl) (by kernel_rfl) (fun y : Int => .d (.int .i64 y)) ?_ h
  unfold ip_Valid
  simp only [List.replicate, List.length, nS, nA, Tryd.ntmps113, SV]
  refine Mir.seqK ?_
  refine Mir.region fun e h => ?_
  simp only [↓reduceIte, reduceCtorEq, nA, nS, nM, nE, nL, nT, nB, iT, iN, iE, and_self, SR, SV, eInt]
  refine Mir.use (e := e) ?_ h
  refine Mir.seqK ?_
  refine Mir.seqK ?_
  refine Mir.bind fun y101 hy1 => ?_
  refine Mir.region fun e h => ?_
  simp only [↓reduceIte, reduceCtorEq, nA, nS, nM, nE, nL, nT, nB, iT, iN, iE, and_self, SR, SV, ag_24, sz_24, ag_156, sz_156, eInt]
  refine SpecS.by (ip_right_spec hy1) (by simp only [↓reduceIte, reduceCtorEq, nA, nE, nL, and_self, and_true, true_and, SL, eInt]) ?_
  simp only [↓reduceIte, reduceCtorEq, nA, nS, nM, nE, nL, nT, nB, iT, iN, iE, and_self, SR, SV, eInt]
  refine Mir.use (e := e) ?_ h
  refine Mir.cond rfl (fun hb3 => ?_) (fun hb3 => ?_)
  ·refine Mir.seqK ?_
   refine Mir.region fun e h => ?_
   simp only [↓reduceIte, reduceCtorEq, nA, nS, nM, nE, nL, nT, nB, iT, iN, iE, and_self, SR, SV]
   refine Mir.use (e := e) ?_ h
   refine Mir.ret fun e h => ?_
   cases h
   simp only [↓reduceIte, reduceCtorEq, nA, nE, nL, and_self, and_true, true_and, SL, Tryd.results113]
  ·refine Mir.skip ?_
   refine Mir.toK ?_
   refine Mir.seqK ?_
   refine Mir.region fun e h => ?_
   simp only [↓reduceIte, reduceCtorEq, nA, nS, nM, nE, nL, nT, nB, iT, iN, iE, and_self, SR, SV, fld_24_0, sz_2, ag_2, fld_24_1, fld_24_2, fld_156_1, sz_24, und_98, zero_2, (nr rfl : okLen 6 = true), eInt]
   refine Mir.use (e := e) ?_ h
   refine Mir.seqK ?_
   refine Mir.seqK ?_
   refine Mir.bind fun y102 hy4 => ?_
   refine Mir.region fun e h => ?_
   simp only [↓reduceIte, reduceCtorEq, nA, nS, nM, nE, nL, nT, nB, iT, iN, iE, and_self, SR, SV, ag_156, sz_156, eInt]
   refine SpecS.by (ip_isArc_spec hy4) (by simp only [↓reduceIte, reduceCtorEq, nA, nE, nL, and_self, and_true, true_and, SL, eInt]) ?_
   simp only [↓reduceIte, reduceCtorEq, nA, nS, nM, nE, nL, nT, nB, iT, iN, iE, and_self, SR, SV, eInt]
   refine Mir.use (e := e) ?_ h
   refine Mir.join (fun v107 : (List Int) => [U, U, U, U, U, .d (.list (List.map (eInt .i64) v107)), U, U, U, U, U, U, U, U, U, U, U, U, U, U, U, U, U, U, U, U, U, U, U, U, U, U, U, U, U, U, U, U, U, U, U, U, U, U, U, U, U, U, U, U, U, U, U, U, U, U, U, U, U, U, U, U, U, U, U, U, U, U, U, U, U, U, U, U, U, U, U, U, U, U, U, U, U, U, U, U, U, U, U, U, U]) (fun v107 : (List Int) => ⟨[[.d (.int .i64 a0.X), .d (.int .i64 a0.Y), .d (.int .i64 a0.Z)], [.d (.int .i64 a1.Kind), .d (.int .i64 a1.To.X), .d (.int .i64 a1.To.Y), .d (.int .i64 a1.To.Z), .d (.int .i64 a1.Center.X), .d (.int .i64 a1.Center.Y), .d (.int .i64 a1.Rate)]], []⟩) (fun _ => rfl) ?_ ?_
   ·refine Mir.cond rfl (fun hb13 => ?_) (fun hb13 => ?_)
    ·refine Mir.seqK ?_
     refine Mir.bind fun y108 hy14 => ?_
     refine Mir.region fun e h => ?_
     simp only [↓reduceIte, reduceCtorEq, nA, nS, nM, nE, nL, nT, nB, iT, iN, iE, and_self, SR, SV, ag_24, sz_24, fld_156_2, sz_153, ag_153, eInt]
     refine SpecS.by (ip_point_spec hy14) (by simp only [↓reduceIte, reduceCtorEq, nA, nE, nL, and_self, and_true, true_and, SL, eInt]) ?_
     simp only [↓reduceIte, reduceCtorEq, nA, nS, nM, nE, nL, nT, nB, iT, iN, iE, and_self, SR, SV, eInt]
     refine Mir.use (e := e) ?_ h
     refine Mir.seqK ?_
     refine Mir.seqK ?_
     refine Mir.joinO (fun v111 : Bool => [U, U, U, .ptr 1 0, U, .full (List.map (eInt .i64) [a0.X, a0.Y, a0.Z, a1.To.X, a1.To.Y, a1.To.Z]), U, .d (.int .u64 y108.2), U, U, U, U, U, U, U, U, U, U, U, U, U, U, U, U, U, U, U, U, U, U, U, U, U, U, U, U, U, U, U, U, U, U, U, U, U, U, U, U, U, U, U, U, U, U, U, .d (.bool v111), U, U, U, U, U, U, U, U, U, U, U, U, U, U, U, U, U, U, U, U, U, U, U, U, U, U, U, U, U, U, U, U, U, U, U]) (fun v111 : Bool => ⟨[[.d (.int .i64 a0.X), .d (.int .i64 a0.Y), .d (.int .i64 a0.Z)], [.d (.int .i64 a1.Kind), .d (.int .i64 a1.To.X), .d (.int .i64 a1.To.Y), .d (.int .i64 a1.To.Z), .d (.int .i64 a1.Center.X), .d (.int .i64 a1.Center.Y), .d (.int .i64 a1.Rate)]], []⟩) (fun _ => rfl) ?_ ?_
     ·refine Mir.ite (fun hb15 => ?_) (fun hb15 => ?_)
      ·refine Mir.region fun e h => ?_
       simp only [↓reduceIte, reduceCtorEq, nA, nS, nM, nE, nL, nT, nB, iT, iN, iE, and_self, SR, SV, eInt, hb15]
       cases h
       simp only [↓reduceIte, reduceCtorEq, nA, nE, nL, and_self, and_true, true_and, SL, eInt, hb15]
      ·refine Mir.bind fun y109 hy16 => ?_
       refine Mir.ite (fun hb17 => ?_) (fun hb17 => ?_)
       ·refine Mir.region fun e h => ?_
        simp only [↓reduceIte, reduceCtorEq, nA, nS, nM, nE, nL, nT, nB, iT, iN, iE, and_self, SR, SV, fld_156_2, sz_153, fld_153_0, sz_2, ag_2, eInt, hb15, hb17]
        refine SpecS.by (ip_apart_spec hy16) (by simp only [↓reduceIte, reduceCtorEq, nA, nE, nL, and_self, and_true, true_and, SL, eInt, hb15, hb17]) ?_
        simp only [↓reduceIte, reduceCtorEq, nA, nS, nM, nE, nL, nT, nB, iT, iN, iE, and_self, SR, SV, eInt, hb15, hb17]
        cases h
        simp only [↓reduceIte, reduceCtorEq, nA, nE, nL, and_self, and_true, true_and, SL, eInt, hb15, hb17]
       ·refine Mir.bind fun y110 hy18 => ?_
        refine Mir.region fun e h => ?_
        simp only [↓reduceIte, reduceCtorEq, nA, nS, nM, nE, nL, nT, nB, iT, iN, iE, and_self, SR, SV, fld_156_2, sz_153, fld_153_0, sz_2, ag_2, eInt, hb15, hb17]
        refine SpecS.by (ip_apart_spec hy16) (by simp only [↓reduceIte, reduceCtorEq, nA, nE, nL, and_self, and_true, true_and, SL, eInt, hb15, hb17]) ?_
        simp only [↓reduceIte, reduceCtorEq, nA, nS, nM, nE, nL, nT, nB, iT, iN, iE, and_self, SR, SV, fld_156_2, sz_153, fld_153_1, sz_2, ag_2, eInt, hb15, hb17]
        refine SpecS.by (ip_apart_spec hy18) (by simp only [↓reduceIte, reduceCtorEq, nA, nE, nL, and_self, and_true, true_and, SL, eInt, hb15, hb17]) ?_
        simp only [↓reduceIte, reduceCtorEq, nA, nS, nM, nE, nL, nT, nB, iT, iN, iE, and_self, SR, SV, eInt, hb15, hb17]
        cases h
        simp only [↓reduceIte, reduceCtorEq, nA, nE, nL, and_self, and_true, true_and, SL, eInt, hb15, hb17]
     ·intro v111
      refine Mir.toK ?_
      refine Mir.cond rfl (fun hb20 => ?_) (fun hb20 => ?_)
      ·refine Mir.seqK ?_
       refine Mir.region fun e h => ?_
       simp only [↓reduceIte, reduceCtorEq, nA, nS, nM, nE, nL, nT, nB, iT, iN, iE, and_self, SR, SV, eInt]
       refine Mir.use (e := e) ?_ h
       refine Mir.ret fun e h => ?_
       cases h
       simp only [↓reduceIte, reduceCtorEq, nA, nE, nL, and_self, and_true, true_and, SL, eInt, Tryd.results113]
      ·refine Mir.skip ?_
       refine Mir.toK ?_
       refine Mir.seqK ?_
       refine Mir.region fun e h => ?_
       simp only [↓reduceIte, reduceCtorEq, nA, nS, nM, nE, nL, nT, nB, iT, iN, iE, and_self, SR, SV, und_172, und_2, eInt]
       refine Mir.use (e := e) ?_ h
       refine Mir.region fun e h => ?_
       simp only [↓reduceIte, reduceCtorEq, nA, nS, nM, nE, nL, nT, nB, iT, iN, iE, and_self, SR, SV, fld_156_2, sz_153, fld_153_0, sz_2, ag_2, fld_153_1, und_98, zero_2, (nr rfl : okLen 4 = true), app_98, al_eInt, (nr rfl : okLen 10 = true), eInt]
       cases h
       simp only [↓reduceIte, reduceCtorEq, nA, nE, nL, and_self, and_true, true_and, SL, eInt, Tryd.results113]
    ·refine Mir.skip fun e h => ?_
     cases h
     simp only [↓reduceIte, reduceCtorEq, nA, nE, nL, and_self, and_true, true_and, SL, eInt, Tryd.results113]
   ·intro v107
    refine Mir.toK ?_
    refine Mir.seqK ?_
    refine Mir.seqK ?_
    refine Mir.region fun e h => ?_
    simp only [↓reduceIte, reduceCtorEq, nA, nS, nM, nE, nL, nT, nB, iT, iN, iE, and_self, SR, SV, und_98, eInt]
    refine Mir.use (e := e) ?_ h
    refine Mir.join (fun v134 : Unit => [U, U, U, U, U, U, U, U, U, U, U, U, U, U, U, U, U, U, U, U, U, U, U, U, U, U, U, U, U, U, U, U, U, U, U, U, U, U, U, U, U, U, U, U, U, U, U, U, U, U, U, U, U, U, U, U, U, U, U, U, U, U, U, U, U, U, U, U, U, U, U, U, U, U, U, U, U, U, U, U, U, U, U, U, U, U, U, U, U, U, U]) (fun v134 : Unit => ⟨[[.d (.int .i64 a0.X), .d (.int .i64 a0.Y), .d (.int .i64 a0.Z)], [.d (.int .i64 a1.Kind), .d (.int .i64 a1.To.X), .d (.int .i64 a1.To.Y), .d (.int .i64 a1.To.Z), .d (.int .i64 a1.Center.X), .d (.int .i64 a1.Center.Y), .d (.int .i64 a1.Rate)]], []⟩) (fun _ => rfl) ?_ ?_
    ·refine Mir.block ?_
     refine Mir.guard fun qg85 => ?_
     refine Mir.range (fun (i152 : Nat) (v153 : Unit) => [U, U, U, U, U, U, U, U, U, U, U, U, U, U, U, U, U, U, U, U, U, U, U, U, U, U, U, U, U, U, U, U, U, U, U, U, U, U, U, U, U, U, U, U, U, U, U, U, U, U, U, U, U, U, U, U, U, U, U, U, U, U, U, U, U, U, U, U, U, U, U, U, U, U, U, U, U, U, U, U, U, .d (.list (List.map (eInt .i64) v107)), .d (.int .i64 (v107.length : Int)), .d (.int .i64 (i152 : Int)), U, U, U, U, U, U, U]) (fun (i152 : Nat) (v153 : Unit) => ⟨[[.d (.int .i64 a0.X), .d (.int .i64 a0.Y), .d (.int .i64 a0.Z)], [.d (.int .i64 a1.Kind), .d (.int .i64 a1.To.X), .d (.int .i64 a1.To.Y), .d (.int .i64 a1.To.Z), .d (.int .i64 a1.Center.X), .d (.int .i64 a1.Center.Y), .d (.int .i64 a1.Rate)]], []⟩) qg85 (fun _ _ => rfl) (by simp only [↓reduceIte, reduceCtorEq, nA, nE, nL, and_self, and_true, true_and, SL, eInt, (nr rfl : ((0 : Nat) : Int) = 0)]) (by simp only [↓reduceIte, reduceCtorEq, nA, nE, nL, and_self, and_true, true_and, SL, eInt, (nr rfl : ((0 : Nat) : Int) = 0)]) ?_ ?_
     ·intro i152 e154 v153 qr83
      refine Mir.seqK ?_
      refine Mir.region fun e h => ?_
      simp only [↓reduceIte, reduceCtorEq, nA, nS, nM, nE, nL, nT, nB, iT, iN, iE, and_self, SR, SV, qr83, eInt]
      refine Mir.use (e := e) ?_ h
      refine Mir.seqK ?_
      refine Mir.condT rfl ?_
      refine Mir.skip ?_
      refine Mir.toK ?_
      refine Mir.seqK ?_
      refine Mir.block ?_
      refine Mir.seqK ?_
      refine Mir.region fun e h => ?_
      simp only [↓reduceIte, reduceCtorEq, nA, nS, nM, nE, nL, nT, nB, iT, iN, iE, and_self, SR, SV, und_98, sz_2, qr83, Int.toNat_natCast, ag_2, eInt]
      refine Mir.use (e := e) ?_ h
      refine Mir.seqK ?_
      refine Mir.bind fun y156 hy88 => ?_
      refine Mir.region fun e h => ?_
      simp only [↓reduceIte, reduceCtorEq, nA, nS, nM, nE, nL, nT, nB, iT, iN, iE, and_self, SR, SV, eInt]
      refine SpecS.by (ip_apart_spec hy88) (by simp only [↓reduceIte, reduceCtorEq, nA, nE, nL, and_self, and_true, true_and, SL, eInt]) ?_
      simp only [↓reduceIte, reduceCtorEq, nA, nS, nM, nE, nL, nT, nB, iT, iN, iE, and_self, SR, SV, eInt]
      refine Mir.use (e := e) ?_ h
      refine Mir.cond rfl (fun hb90 => ?_) (fun hb90 => ?_)
      ·refine Mir.seqK ?_
       refine Mir.region fun e h => ?_
       simp only [↓reduceIte, reduceCtorEq, nA, nS, nM, nE, nL, nT, nB, iT, iN, iE, and_self, SR, SV, eInt]
       refine Mir.use (e := e) ?_ h
       refine Mir.ret fun e h => ?_
       cases h
       simp only [↓reduceIte, reduceCtorEq, nA, nE, nL, and_self, and_true, true_and, SL, eInt, Tryd.results113]
      ·refine Mir.skip ?_
       refine Mir.toB ?_
       refine Mir.toK ?_
       refine Mir.region fun e h => ?_
       simp only [↓reduceIte, reduceCtorEq, nA, nS, nM, nE, nL, nT, nB, iT, iN, iE, and_self, SR, SV, eInt]
       cases h
       simp only [↓reduceIte, reduceCtorEq, nA, nE, nL, and_self, and_true, true_and, SL, eInt, Tryd.results113, qr83]
     ·intro v153 qd84
      refine Mir.seqK ?_
      refine Mir.region fun e h => ?_
      simp only [↓reduceIte, reduceCtorEq, nA, nS, nM, nE, nL, nT, nB, iT, iN, iE, and_self, SR, SV, qd84, eInt]
      refine Mir.use (e := e) ?_ h
      refine Mir.seqK ?_
      refine Mir.condF rfl ?_
      refine Mir.exit fun e h => ?_
      cases h
      simp only [↓reduceIte, reduceCtorEq, nA, nE, nL, and_self, and_true, true_and, SL, eInt, Tryd.results113]
    ·intro v134
     refine Mir.toK ?_
     refine Mir.seqK ?_
     refine Mir.region fun e h => ?_
     simp only [↓reduceIte, reduceCtorEq, nA, nS, nM, nE, nL, nT, nB, iT, iN, iE, and_self, SR, SV, eInt]
     refine Mir.use (e := e) ?_ h
     refine Mir.ret fun e h => ?_
     cases h
     simp only [↓reduceIte, reduceCtorEq, nA, nE, nL, and_self, and_true, true_and, SL, eInt, Tryd.results113]

def ip_Quarters (a0 : ApiPos) (a1 : ApiMove) : Option (Int × Int) :=
  bindO (ip_isArc a1) fun (y101 : Bool) =>
  if (!y101) = true then
    some (0, 1)
  else
    bindO (ip_Valid a0 (ApiMove.mk a1.Kind a1.To a1.Center a1.Rate)) fun (y102 : Int) =>
    if (y102 != 0) = true then
      some (0, y102)
    else
      bindO (ip_point a0 a1.Center) fun (y103 : Int × Int) =>
      bindO (ip_point a1.To a1.Center) fun (y104 : Int × Int) =>
      bindO (if (a1.Kind == 3) = true then
            some (IntKind.i64.wrap (0 - (IntKind.i64.wrap (y104.1 - y103.1))))
          else
            some (IntKind.i64.wrap (y104.1 - y103.1))) fun (v105 : Int) =>
      bindO (if (decide (v105 ≤ 0)) = true then
            some (IntKind.i64.wrap (v105 + 4))
          else
            some v105) fun (v106 : Int) =>
      some (v106, 0)
theorem ip_Quarters_spec {a0 : ApiPos} {a1 : ApiMove} {y : Int × Int} (h : ip_Quarters a0 a1 = some y) : Spec gP 101 [.agg [.d (.int .i64 a0.X), .d (.int .i64 a0.Y), .d (.int .i64 a0.Z)], .agg [.d (.int .i64 a1.Kind), .d (.int .i64 a1.To.X), .d (.int .i64 a1.To.Y), .d (.int .i64 a1.To.Z), .d (.int .i64 a1.Center.X), .d (.int .i64 a1.Center.Y), .d (.int .i64 a1.Rate)]] (.tuple [.d (.int .i64 y.1), .d (.int .i64 y.2)]) := by
  refine spec_mir Tryd.func101 rfl (by kernel_rfl) (by kernel_rfl) (fun y : Int × Int => .tuple [.d (.int .i64 y.1), .d (.int .i64 y.2)]) ?_ h
  unfold ip_Quarters
  simp only [List.replicate, List.length, nS, nA, Tryd.ntmps101, SV]
  refine Mir.seqK ?_
  refine Mir.region fun e h => ?_
  simp only [↓reduceIte, reduceCtorEq, nA, nS, nM, nE, nL, nT, nB, iT, iN, iE, and_self, SR, SV]
  refine Mir.use (e := e) ?_ h
  refine Mir.seqK ?_
  refine Mir.seqK ?_
  refine Mir.bind fun y101 hy1 => ?_
  refine Mir.region fun e h => ?_
  simp only [↓reduceIte, reduceCtorEq, nA, nS, nM, nE, nL, nT, nB, iT, iN, iE, and_self, SR, SV, ag_156, sz_156]
  refine SpecS.by (ip_isArc_spec hy1) (by simp only [↓reduceIte, reduceCtorEq, nA, nE, nL, and_self, and_true, true_and, SL]) ?_
  simp only [↓reduceIte, reduceCtorEq, nA, nS, nM, nE, nL, nT, nB, iT, iN, iE, and_self, SR, SV]
  refine Mir.use (e := e) ?_ h
  refine Mir.cond rfl (fun hb3 => ?_) (fun hb3 => ?_)
  ·refine Mir.seqK ?_
   refine Mir.region fun e h => ?_
   simp only [↓reduceIte, reduceCtorEq, nA, nS, nM, nE, nL, nT, nB, iT, iN, iE, and_self, SR, SV]
   refine Mir.use (e := e) ?_ h
   refine Mir.ret fun e h => ?_
   cases h
   simp only [↓reduceIte, reduceCtorEq, nA, nE, nL, and_self, and_true, true_and, SL, Tryd.results101]
  ·refine Mir.skip ?_
   refine Mir.toK ?_
   refine Mir.seqK ?_
   refine Mir.seqK ?_
   refine Mir.bind fun y102 hy4 => ?_
   refine Mir.region fun e h => ?_
   simp only [↓reduceIte, reduceCtorEq, nA, nS, nM, nE, nL, nT, nB, iT, iN, iE, and_self, SR, SV, ag_24, sz_24, ag_156, sz_156]
   refine SpecS.by (ip_Valid_spec hy4) (by simp only [↓reduceIte, reduceCtorEq, nA, nE, nL, and_self, and_true, true_and, SL]) ?_
   simp only [↓reduceIte, reduceCtorEq, nA, nS, nM, nE, nL, nT, nB, iT, iN, iE, and_self, SR, SV]
   refine Mir.use (e := e) ?_ h
   refine Mir.seqK ?_
   refine Mir.region fun e h => ?_
   simp only [↓reduceIte, reduceCtorEq, nA, nS, nM, nE, nL, nT, nB, iT, iN, iE, and_self, SR, SV]
   refine Mir.use (e := e) ?_ h
   refine Mir.cond rfl (fun hb6 => ?_) (fun hb6 => ?_)
   ·refine Mir.seqK ?_
    refine Mir.region fun e h => ?_
    simp only [↓reduceIte, reduceCtorEq, nA, nS, nM, nE, nL, nT, nB, iT, iN, iE, and_self, SR, SV]
    refine Mir.use (e := e) ?_ h
    refine Mir.ret fun e h => ?_
    cases h
    simp only [↓reduceIte, reduceCtorEq, nA, nE, nL, and_self, and_true, true_and, SL, Tryd.results101]
   ·refine Mir.skip ?_
    refine Mir.toK ?_
    refine Mir.seqK ?_
    refine Mir.bind fun y103 hy7 => ?_
    refine Mir.region fun e h => ?_
    simp only [↓reduceIte, reduceCtorEq, nA, nS, nM, nE, nL, nT, nB, iT, iN, iE, and_self, SR, SV, ag_24, sz_24, fld_156_2, sz_153, ag_153]
    refine SpecS.by (ip_point_spec hy7) (by simp only [↓reduceIte, reduceCtorEq, nA, nE, nL, and_self, and_true, true_and, SL]) ?_
    simp only [↓reduceIte, reduceCtorEq, nA, nS, nM, nE, nL, nT, nB, iT, iN, iE, and_self, SR, SV]
    refine Mir.use (e := e) ?_ h
    refine Mir.seqK ?_
    refine Mir.bind fun y104 hy8 => ?_
    refine Mir.region fun e h => ?_
    simp only [↓reduceIte, reduceCtorEq, nA, nS, nM, nE, nL, nT, nB, iT, iN, iE, and_self, SR, SV, fld_156_1, sz_24, ag_24, fld_156_2, sz_153, ag_153]
    refine SpecS.by (ip_point_spec hy8) (by simp only [↓reduceIte, reduceCtorEq, nA, nE, nL, and_self, and_true, true_and, SL]) ?_
    simp only [↓reduceIte, reduceCtorEq, nA, nS, nM, nE, nL, nT, nB, iT, iN, iE, and_self, SR, SV]
    refine Mir.use (e := e) ?_ h
    refine Mir.seqK ?_
    refine Mir.region fun e h => ?_
    simp only [↓reduceIte, reduceCtorEq, nA, nS, nM, nE, nL, nT, nB, iT, iN, iE, and_self, SR, SV]
    refine Mir.use (e := e) ?_ h
    refine Mir.seqK ?_
    refine Mir.seqK ?_
    refine Mir.region fun e h => ?_
    simp only [↓reduceIte, reduceCtorEq, nA, nS, nM, nE, nL, nT, nB, iT, iN, iE, and_self, SR, SV, fld_156_0, sz_3, ag_3]
    refine Mir.use (e := e) ?_ h
    refine Mir.joinO (fun v105 : Int => [U, U, U, U, U, U, U, U, U, U, U, .d (.int .i64 v105), U, U, U, U, U, U, U, U, U, U, U, U, U, U, U, U, U, U, U, U, U, U, U, U, U, U, U, U, U, U, U, U, U, U, U, U, U]) (fun v105 : Int => ⟨[[.d (.int .i64 a0.X), .d (.int .i64 a0.Y), .d (.int .i64 a0.Z)], [.d (.int .i64 a1.Kind), .d (.int .i64 a1.To.X), .d (.int .i64 a1.To.Y), .d (.int .i64 a1.To.Z), .d (.int .i64 a1.Center.X), .d (.int .i64 a1.Center.Y), .d (.int .i64 a1.Rate)]], []⟩) (fun _ => rfl) ?_ ?_
    ·refine Mir.cond rfl (fun hb10 => ?_) (fun hb10 => ?_)
     ·refine Mir.region fun e h => ?_
      simp only [↓reduceIte, reduceCtorEq, nA, nS, nM, nE, nL, nT, nB, iT, iN, iE, and_self, SR, SV]
      cases h
      simp only [↓reduceIte, reduceCtorEq, nA, nE, nL, and_self, and_true, true_and, SL, Tryd.results101]
     ·refine Mir.skip fun e h => ?_
      cases h
      simp only [↓reduceIte, reduceCtorEq, nA, nE, nL, and_self, and_true, true_and, SL, Tryd.results101]
    ·intro v105
     refine Mir.toK ?_
     refine Mir.seqK ?_
     refine Mir.seqK ?_
     refine Mir.region fun e h => ?_
     simp only [↓reduceIte, reduceCtorEq, nA, nS, nM, nE, nL, nT, nB, iT, iN, iE, and_self, SR, SV]
     refine Mir.use (e := e) ?_ h
     refine Mir.joinO (fun v106 : Int => [U, U, U, U, U, U, U, U, U, U, U, .d (.int .i64 v106), U, U, U, U, U, U, U, U, U, U, U, U, U, U, U, U, U, U, U, U, U, U, U, U, U, U, U, U, U, U, U, U, U, U, U, U, U]) (fun v106 : Int => ⟨[[.d (.int .i64 a0.X), .d (.int .i64 a0.Y), .d (.int .i64 a0.Z)], [.d (.int .i64 a1.Kind), .d (.int .i64 a1.To.X), .d (.int .i64 a1.To.Y), .d (.int .i64 a1.To.Z), .d (.int .i64 a1.Center.X), .d (.int .i64 a1.Center.Y), .d (.int .i64 a1.Rate)]], []⟩) (fun _ => rfl) ?_ ?_
     ·refine Mir.cond rfl (fun hb12 => ?_) (fun hb12 => ?_)
      ·refine Mir.region fun e h => ?_
       simp only [↓reduceIte, reduceCtorEq, nA, nS, nM, nE, nL, nT, nB, iT, iN, iE, and_self, SR, SV]
       cases h
       simp only [↓reduceIte, reduceCtorEq, nA, nE, nL, and_self, and_true, true_and, SL, Tryd.results101]
      ·refine Mir.skip fun e h => ?_
       cases h
       simp only [↓reduceIte, reduceCtorEq, nA, nE, nL, and_self, and_true, true_and, SL, Tryd.results101]
     ·intro v106
      refine Mir.toK ?_
      refine Mir.seqK ?_
      refine Mir.region fun e h => ?_
      simp only [↓reduceIte, reduceCtorEq, nA, nS, nM, nE, nL, nT, nB, iT, iN, iE, and_self, SR, SV]
      refine Mir.use (e := e) ?_ h
      refine Mir.ret fun e h => ?_
      cases h
      simp only [↓reduceIte, reduceCtorEq, nA, nE, nL, and_self, and_true, true_and, SL, Tryd.results101]

def ip_Chords (a0 : Int) : Option Int :=
  if (decide (a0 ≤ 0)) = true then
    some 0
  else
    bindO (loopX (fun (v145 : Int × Int) =>
          if (decide (v145.1 < v145.2)) = true then
            if (decide ((IntKind.i64.wrap ((IntKind.i64.wrap (Int.tdiv (IntKind.i64.wrap (v145.1 + v145.2)) 2)) * (IntKind.i64.wrap (Int.tdiv (IntKind.i64.wrap (v145.1 + v145.2)) 2)))) ≥ (IntKind.i64.wrap ((IntKind.i64.wrap (Int.tdiv (IntKind.i64.wrap (a0 - 1)) 10)) + 1)))) = true then
              some (.go (v145.1, IntKind.i64.wrap (Int.tdiv (IntKind.i64.wrap (v145.1 + v145.2)) 2)))
            else
              some (.go (IntKind.i64.wrap ((IntKind.i64.wrap (Int.tdiv (IntKind.i64.wrap (v145.1 + v145.2)) 2)) + 1), v145.2))
          else
            some (.ret v145.1)) fuel (1, 1073741824)) fun (v123 : Int) =>
    some v123
theorem ip_Chords_spec {a0 : Int} {y : Int} (h : ip_Chords a0 = some y) : Spec gP 103 [.d (.int .i64 a0)] (.d (.int .i64 y)) := by
  refine spec_mir Tryd.func103 rfl (by kernel_rfl) (by kernel_rfl) (fun y : Int => .d (.int .i64 y)) ?_ h
  unfold ip_Chords
  simp only [List.replicate, List.length, nS, nA, Tryd.ntmps103, SV]
  refine Mir.seqK ?_
  refine Mir.region fun e h => ?_
  simp only [↓reduceIte, reduceCtorEq, nA, nS, nM, nE, nL, nT, nB, iT, iN, iE, and_self, SR, SV]
  refine Mir.use (e := e) ?_ h
  refine Mir.seqK ?_
  refine Mir.seqK ?_
  refine Mir.region fun e h => ?_
  simp only [↓reduceIte, reduceCtorEq, nA, nS, nM, nE, nL, nT, nB, iT, iN, iE, and_self, SR, SV]
  refine Mir.use (e := e) ?_ h
  refine Mir.cond rfl (fun hb2 => ?_) (fun hb2 => ?_)
  ·refine Mir.seqK ?_
   refine Mir.region fun e h => ?_
   simp only [↓reduceIte, reduceCtorEq, nA, nS, nM, nE, nL, nT, nB, iT, iN, iE, and_self, SR, SV]
   refine Mir.use (e := e) ?_ h
   refine Mir.ret fun e h => ?_
   cases h
   simp only [↓reduceIte, reduceCtorEq, nA, nE, nL, and_self, and_true, true_and, SL, Tryd.results103]
  ·refine Mir.skip ?_
   refine Mir.toK ?_
   refine Mir.seqK ?_
   refine Mir.region fun e h => ?_
   simp only [↓reduceIte, reduceCtorEq, nA, nS, nM, nE, nL, nT, nB, iT, iN, iE, and_self, SR, SV]
   refine Mir.use (e := e) ?_ h
   refine Mir.seqK ?_
   refine Mir.region fun e h => ?_
   simp only [↓reduceIte, reduceCtorEq, nA, nS, nM, nE, nL, nT, nB, iT, iN, iE, and_self, SR, SV]
   refine Mir.use (e := e) ?_ h
   refine Mir.seqK ?_
   refine Mir.joinO (fun v123 : Int => [U, U, U, U, .d (.int .i64 v123), U, U, U, U, U, U, U, U, U, U, U, U, U, U, U, U, U, U, U, U, U, U, U, U]) (fun v123 : Int => ⟨[], []⟩) (fun _ => rfl) ?_ ?_
   ·refine Mir.block ?_
    refine Mir.loop (fun v145 : Int × Int => [U, U, U, .d (.int .i64 (IntKind.i64.wrap ((IntKind.i64.wrap (Int.tdiv (IntKind.i64.wrap (a0 - 1)) 10)) + 1))), .d (.int .i64 v145.1), .d (.int .i64 v145.2), U, U, U, U, U, U, U, U, U, U, U, U, U, U, U, U, U, U, U, U, U, U, U]) (fun v145 : Int × Int => ⟨[], []⟩) (fun _ => rfl) (by simp only [↓reduceIte, reduceCtorEq, nA, nE, nL, and_self, and_true, true_and, SL]) (by simp only [↓reduceIte, reduceCtorEq, nA, nE, nL, and_self, and_true, true_and, SL]) fun v145 => ?_
    refine Mir.seqK ?_
    refine Mir.seqK ?_
    refine Mir.region fun e h => ?_
    simp only [↓reduceIte, reduceCtorEq, nA, nS, nM, nE, nL, nT, nB, iT, iN, iE, and_self, SR, SV]
    refine Mir.use (e := e) ?_ h
    refine Mir.cond rfl (fun hb139 => ?_) (fun hb139 => ?_)
    ·refine Mir.skip ?_
     refine Mir.toK ?_
     refine Mir.block ?_
     refine Mir.seqK ?_
     refine Mir.region fun e h => ?_
     simp only [↓reduceIte, reduceCtorEq, nA, nS, nM, nE, nL, nT, nB, iT, iN, iE, and_self, SR, SV]
     refine Mir.use (e := e) ?_ h
     refine Mir.seqK ?_
     refine Mir.region fun e h => ?_
     simp only [↓reduceIte, reduceCtorEq, nA, nS, nM, nE, nL, nT, nB, iT, iN, iE, and_self, SR, SV]
     refine Mir.use (e := e) ?_ h
     refine Mir.cond rfl (fun hb140 => ?_) (fun hb140 => ?_)
     ·refine Mir.region fun e h => ?_
      simp only [↓reduceIte, reduceCtorEq, nA, nS, nM, nE, nL, nT, nB, iT, iN, iE, and_self, SR, SV]
      cases h
      simp only [↓reduceIte, reduceCtorEq, nA, nE, nL, and_self, and_true, true_and, SL, Tryd.results103]
     ·refine Mir.region fun e h => ?_
      simp only [↓reduceIte, reduceCtorEq, nA, nS, nM, nE, nL, nT, nB, iT, iN, iE, and_self, SR, SV]
      cases h
      simp only [↓reduceIte, reduceCtorEq, nA, nE, nL, and_self, and_true, true_and, SL, Tryd.results103]
    ·refine Mir.exit fun e h => ?_
     cases h
     simp only [↓reduceIte, reduceCtorEq, nA, nE, nL, and_self, and_true, true_and, SL, Tryd.results103]
   ·intro v123
    refine Mir.toK ?_
    refine Mir.seqK ?_
    refine Mir.region fun e h => ?_
    simp only [↓reduceIte, reduceCtorEq, nA, nS, nM, nE, nL, nT, nB, iT, iN, iE, and_self, SR, SV]
    refine Mir.use (e := e) ?_ h
    refine Mir.ret fun e h => ?_
    cases h
    simp only [↓reduceIte, reduceCtorEq, nA, nE, nL, and_self, and_true, true_and, SL, Tryd.results103]

def ip_turned (a0 : Int) (a1 : Int) (a2 : Int) : Option (Int × Int) :=
  bindO (loopX (fun (v113 : Int × Int × Int) =>
        if (decide (v113.2.2 < (andI .i64 a2 3))) = true then
          some (.go (IntKind.i64.wrap (0 - v113.2.1), v113.1, IntKind.i64.wrap (v113.2.2 + 1)))
        else
          some (.ret (v113.1, v113.2.1))) fuel (a0, a1, 0)) fun (v107 : Int × Int) =>
  some (v107.1, v107.2)
theorem ip_turned_spec {a0 : Int} {a1 : Int} {a2 : Int} {y : Int × Int} (h : ip_turned a0 a1 a2 = some y) : Spec gP 104 [.d (.int .i64 a0), .d (.int .i64 a1), .d (.int .i64 a2)] (.tuple [.d (.int .i64 y.1), .d (.int .i64 y.2)]) := by
  refine spec_mir Tryd.func104 rfl (by kernel_rfl) (by kernel_rfl) (fun y : Int × Int => .tuple [.d (.int .i64 y.1), .d (.int .i64 y.2)]) ?_ h
  unfold ip_turned
  simp only [List.replicate, List.length, nS, nA, Tryd.ntmps104, SV]
  refine Mir.seqK ?_
  refine Mir.region fun e h => ?_
  simp only [↓reduceIte, reduceCtorEq, nA, nS, nM, nE, nL, nT, nB, iT, iN, iE, and_self, SR, SV]
  refine Mir.use (e := e) ?_ h
  refine Mir.seqK ?_
  refine Mir.seqK ?_
  refine Mir.region fun e h => ?_
  simp only [↓reduceIte, reduceCtorEq, nA, nS, nM, nE, nL, nT, nB, iT, iN, iE, and_self, SR, SV]
  refine Mir.use (e := e) ?_ h
  refine Mir.joinO (fun v107 : Int × Int => [.d (.int .i64 v107.1), .d (.int .i64 v107.2), U, U, U, U, U, U, U, U, U, U, U, U, U, U, U, U]) (fun v107 : Int × Int => ⟨[], []⟩) (fun _ => rfl) ?_ ?_
  ·refine Mir.block ?_
   refine Mir.loop (fun v113 : Int × Int × Int => [.d (.int .i64 v113.1), .d (.int .i64 v113.2.1), U, U, U, U, U, U, U, .d (.int .i64 (andI .i64 a2 3)), .d (.int .i64 v113.2.2), U, U, U, U, U, U, U]) (fun v113 : Int × Int × Int => ⟨[], []⟩) (fun _ => rfl) (by simp only [↓reduceIte, reduceCtorEq, nA, nE, nL, and_self, and_true, true_and, SL]) (by simp only [↓reduceIte, reduceCtorEq, nA, nE, nL, and_self, and_true, true_and, SL]) fun v113 => ?_
   refine Mir.seqK ?_
   refine Mir.region fun e h => ?_
   simp only [↓reduceIte, reduceCtorEq, nA, nS, nM, nE, nL, nT, nB, iT, iN, iE, and_self, SR, SV]
   refine Mir.use (e := e) ?_ h
   refine Mir.seqK ?_
   refine Mir.cond rfl (fun hb12 => ?_) (fun hb12 => ?_)
   ·refine Mir.skip ?_
    refine Mir.toK ?_
    refine Mir.seqK ?_
    refine Mir.block ?_
    refine Mir.region fun e h => ?_
    simp only [↓reduceIte, reduceCtorEq, nA, nS, nM, nE, nL, nT, nB, iT, iN, iE, and_self, SR, SV]
    refine Mir.use (e := e) ?_ h
    refine Mir.region fun e h => ?_
    simp only [↓reduceIte, reduceCtorEq, nA, nS, nM, nE, nL, nT, nB, iT, iN, iE, and_self, SR, SV]
    cases h
    simp only [↓reduceIte, reduceCtorEq, nA, nE, nL, and_self, and_true, true_and, SL, Tryd.results104]
   ·refine Mir.exit fun e h => ?_
    cases h
    simp only [↓reduceIte, reduceCtorEq, nA, nE, nL, and_self, and_true, true_and, SL, Tryd.results104]
  ·intro v107
   refine Mir.toK ?_
   refine Mir.seqK ?_
   refine Mir.region fun e h => ?_
   simp only [↓reduceIte, reduceCtorEq, nA, nS, nM, nE, nL, nT, nB, iT, iN, iE, and_self, SR, SV]
   refine Mir.use (e := e) ?_ h
   refine Mir.ret fun e h => ?_
   cases h
   simp only [↓reduceIte, reduceCtorEq, nA, nE, nL, and_self, and_true, true_and, SL, Tryd.results104]

def ip_floor (a0 : Int) (a1 : Int) : Option Int :=
  guardO (!(a1 == 0)) (
  guardO (!(a1 == 0)) (
  bindO (if (decide ((Int.tmod a0 a1) < 0)) = true then
        some (IntKind.i64.wrap ((IntKind.i64.wrap (Int.tdiv a0 a1)) - 1))
      else
        some (IntKind.i64.wrap (Int.tdiv a0 a1))) fun (v101 : Int) =>
  some v101))
theorem ip_floor_spec {a0 : Int} {a1 : Int} {y : Int} (h : ip_floor a0 a1 = some y) : Spec gP 105 [.d (.int .i64 a0), .d (.int .i64 a1)] (.d (.int .i64 y)) := by
  refine spec_mir Tryd.func105 rfl (by kernel_rfl) (by kernel_rfl) (fun y : Int => .d (.int .i64 y)) ?_ h
  unfold ip_floor
  simp only [List.replicate, List.length, nS, nA, Tryd.ntmps105, SV]
  refine Mir.seqK ?_
  refine Mir.region fun e h => ?_
  simp only [↓reduceIte, reduceCtorEq, nA, nS, nM, nE, nL, nT, nB, iT, iN, iE, and_self, SR, SV]
  refine Mir.use (e := e) ?_ h
  refine Mir.seqK ?_
  refine Mir.guard fun q1 => ?_
  replace q1 := ne_of q1
  refine Mir.region fun e h => ?_
  simp only [↓reduceIte, reduceCtorEq, nA, nS, nM, nE, nL, nT, nB, iT, iN, iE, and_self, SR, SV, q1]
  refine Mir.use (e := e) ?_ h
  refine Mir.seqK ?_
  refine Mir.seqK ?_
  refine Mir.guard fun q2 => ?_
  replace q2 := ne_of q2
  refine Mir.region fun e h => ?_
  simp only [↓reduceIte, reduceCtorEq, nA, nS, nM, nE, nL, nT, nB, iT, iN, iE, and_self, SR, SV, q2]
  refine Mir.use (e := e) ?_ h
  refine Mir.joinO (fun v101 : Int => [U, U, U, U, U, .d (.int .i64 v101), U, U, U, U, U, U, U, U, U, U]) (fun v101 : Int => ⟨[], []⟩) (fun _ => rfl) ?_ ?_
  ·refine Mir.cond rfl (fun hb4 => ?_) (fun hb4 => ?_)
   ·refine Mir.region fun e h => ?_
    simp only [↓reduceIte, reduceCtorEq, nA, nS, nM, nE, nL, nT, nB, iT, iN, iE, and_self, SR, SV]
    cases h
    simp only [↓reduceIte, reduceCtorEq, nA, nE, nL, and_self, and_true, true_and, SL, Tryd.results105]
   ·refine Mir.skip fun e h => ?_
    cases h
    simp only [↓reduceIte, reduceCtorEq, nA, nE, nL, and_self, and_true, true_and, SL, Tryd.results105]
  ·intro v101
   refine Mir.toK ?_
   refine Mir.seqK ?_
   refine Mir.region fun e h => ?_
   simp only [↓reduceIte, reduceCtorEq, nA, nS, nM, nE, nL, nT, nB, iT, iN, iE, and_self, SR, SV]
   refine Mir.use (e := e) ?_ h
   refine Mir.ret fun e h => ?_
   cases h
   simp only [↓reduceIte, reduceCtorEq, nA, nE, nL, and_self, and_true, true_and, SL, Tryd.results105]

def ip_Arc (a0 : ApiPos) (a1 : ApiMove) : Option ((List ApiPos) × Int) :=
  bindO (ip_Quarters a0 (ApiMove.mk a1.Kind a1.To a1.Center a1.Rate)) fun (y101 : Int × Int) =>
  if (y101.2 != 0) = true then
    some ([], y101.2)
  else
    bindO (ip_point a0 a1.Center) fun (y102 : Int × Int) =>
    bindO (ip_Chords (IntKind.i64.wrap y102.2)) fun (y103 : Int) =>
    if (decide ((IntKind.i64.wrap (y103 * y101.1)) > 20000)) = true then
      some ([], 3)
    else
      bindO (loopX (fun (v943 : (List ApiPos) × Int) =>
            if (decide (v943.2 < y101.1)) = true then
              bindO (loopX (fun (v1016 : (List ApiPos) × Int) =>
                    if (decide (v1016.2 ≤ y103)) = true then
                      guardO (!((IntKind.i64.wrap ((IntKind.i64.wrap (y103 * y103)) + (IntKind.i64.wrap (v1016.2 * v1016.2)))) == 0)) (
                      guardO (!((IntKind.i64.wrap ((IntKind.i64.wrap (y103 * y103)) + (IntKind.i64.wrap (v1016.2 * v1016.2)))) == 0)) (
                      bindO (if (a1.Kind == 3) = true then
                            bindO (ip_turned (IntKind.i64.wrap (Int.tdiv (IntKind.i64.wrap ((IntKind.i64.wrap y102.2) * (IntKind.i64.wrap ((IntKind.i64.wrap (y103 * y103)) - (IntKind.i64.wrap (v1016.2 * v1016.2)))))) (IntKind.i64.wrap ((IntKind.i64.wrap (y103 * y103)) + (IntKind.i64.wrap (v1016.2 * v1016.2)))))) (IntKind.i64.wrap (0 - (IntKind.i64.wrap (Int.tdiv (IntKind.i64.wrap ((IntKind.i64.wrap ((IntKind.i64.wrap (2 * (IntKind.i64.wrap y102.2))) * v1016.2)) * y103)) (IntKind.i64.wrap ((IntKind.i64.wrap (y103 * y103)) + (IntKind.i64.wrap (v1016.2 * v1016.2)))))))) (IntKind.i64.wrap ((IntKind.i64.wrap (y102.1 - v943.2)) + 4))) fun (y1026 : Int × Int) =>
                            some (y1026.1, y1026.2)
                          else
                            bindO (ip_turned (IntKind.i64.wrap (Int.tdiv (IntKind.i64.wrap ((IntKind.i64.wrap y102.2) * (IntKind.i64.wrap ((IntKind.i64.wrap (y103 * y103)) - (IntKind.i64.wrap (v1016.2 * v1016.2)))))) (IntKind.i64.wrap ((IntKind.i64.wrap (y103 * y103)) + (IntKind.i64.wrap (v1016.2 * v1016.2)))))) (IntKind.i64.wrap (Int.tdiv (IntKind.i64.wrap ((IntKind.i64.wrap ((IntKind.i64.wrap (2 * (IntKind.i64.wrap y102.2))) * v1016.2)) * y103)) (IntKind.i64.wrap ((IntKind.i64.wrap (y103 * y103)) + (IntKind.i64.wrap (v1016.2 * v1016.2)))))) (IntKind.i64.wrap (y102.1 + v943.2))) fun (y1027 : Int × Int) =>
                            some (y1027.1, y1027.2)) fun (v1025 : Int × Int) =>
                      bindO (ip_floor (IntKind.i64.wrap ((IntKind.i64.wrap (a1.To.Z - a0.Z)) * (IntKind.i64.wrap ((v1016.1.length : Int) + 1)))) (IntKind.i64.wrap (y103 * y101.1))) fun (y1028 : Int) =>
                      guardO (okLen (v1016.1.length + 1)) (
                      some (.go (v1016.1 ++ [ApiPos.mk (IntKind.i64.wrap (a1.Center.X + v1025.1)) (IntKind.i64.wrap (a1.Center.Y + v1025.2)) (IntKind.i64.wrap (a0.Z + y1028))], IntKind.i64.wrap (v1016.2 + 1))))))
                    else
                      some (.ret v1016.1)) fuel (v943.1, 1)) fun (v986 : (List ApiPos)) =>
              some (.go (v986, IntKind.i64.wrap (v943.2 + 1)))
            else
              some (.ret v943.1)) fuel ([], 0)) fun (v767 : (List ApiPos)) =>
      some (v767, 0)
set_option maxHeartbeats 8000000 in
theorem ip_Arc_spec {a0 : ApiPos} {a1 : ApiMove} {y : (List ApiPos) × Int} (h : ip_Arc a0 a1 = some y) : Spec gP 89 [.agg [.d (.int .i64 a0.X), .d (.int .i64 a0.Y), .d (.int .i64 a0.Z)], .agg [.d (.int .i64 a1.Kind), .d (.int .i64 a1.To.X), .d (.int .i64 a1.To.Y), .d (.int .i64 a1.To.Z), .d (.int .i64 a1.Center.X), .d (.int .i64 a1.Center.Y), .d (.int .i64 a1.Rate)]] (.tuple [.d (.list (List.map encApiPos y.1)), .d (.int .i64 y.2)]) := by
  refine spec_mir Tryd.func89 rfl (by kernel_rfl) (by kernel_rfl) (fun y : (List ApiPos) × Int => .tuple [.d (.list (List.map encApiPos y.1)), .d (.int .i64 y.2)]) ?_ h
  unfold ip_Arc
  simp only [List.replicate, List.length, nS, nA, Tryd.ntmps89, SV]
  refine Mir.seqK ?_
  refine Mir.region fun e h => ?_
  simp only [↓reduceIte, reduceCtorEq, nA, nS, nM, nE, nL, nT, nB, iT, iN, iE, and_self, SR, SV, encApiPos]
  refine Mir.use (e := e) ?_ h
  refine Mir.seqK ?_
  refine Mir.bind fun y101 hy1 => ?_
  refine Mir.region fun e h => ?_
  simp only [↓reduceIte, reduceCtorEq, nA, nS, nM, nE, nL, nT, nB, iT, iN, iE, and_self, SR, SV, ag_24, sz_24, ag_156, sz_156, encApiPos]
  refine SpecS.by (ip_Quarters_spec hy1) (by simp only [↓reduceIte, reduceCtorEq, nA, nE, nL, and_self, and_true, true_and, SL, encApiPos]) ?_
  simp only [↓reduceIte, reduceCtorEq, nA, nS, nM, nE, nL, nT, nB, iT, iN, iE, and_self, SR, SV, encApiPos]
  refine Mir.use (e := e) ?_ h
  refine Mir.seqK ?_
  refine Mir.seqK ?_
  refine Mir.region fun e h => ?_
  simp only [↓reduceIte, reduceCtorEq, nA, nS, nM, nE, nL, nT, nB, iT, iN, iE, and_self, SR, SV, encApiPos]
  refine Mir.use (e := e) ?_ h
  refine Mir.cond rfl (fun hb3 => ?_) (fun hb3 => ?_)
  ·refine Mir.seqK ?_
   refine Mir.region fun e h => ?_
   simp only [↓reduceIte, reduceCtorEq, nA, nS, nM, nE, nL, nT, nB, iT, iN, iE, and_self, SR, SV]
   refine Mir.use (e := e) ?_ h
   refine Mir.ret fun e h => ?_
   cases h
   simp only [↓reduceIte, reduceCtorEq, nA, nE, nL, and_self, and_true, true_and, SL, Tryd.results89]
  ·refine Mir.skip ?_
   refine Mir.toK ?_
   refine Mir.seqK ?_
   refine Mir.bind fun y102 hy4 => ?_
   refine Mir.region fun e h => ?_
   simp only [↓reduceIte, reduceCtorEq, nA, nS, nM, nE, nL, nT, nB, iT, iN, iE, and_self, SR, SV, ag_24, sz_24, fld_156_2, sz_153, ag_153, encApiPos]
   refine SpecS.by (ip_point_spec hy4) (by simp only [↓reduceIte, reduceCtorEq, nA, nE, nL, and_self, and_true, true_and, SL, encApiPos]) ?_
   simp only [↓reduceIte, reduceCtorEq, nA, nS, nM, nE, nL, nT, nB, iT, iN, iE, and_self, SR, SV, encApiPos]
   refine Mir.use (e := e) ?_ h
   refine Mir.seqK ?_
   refine Mir.region fun e h => ?_
   simp only [↓reduceIte, reduceCtorEq, nA, nS, nM, nE, nL, nT, nB, iT, iN, iE, and_self, SR, SV, und_172, und_2, encApiPos]
   refine Mir.use (e := e) ?_ h
   refine Mir.seqK ?_
   refine Mir.bind fun y103 hy5 => ?_
   refine Mir.region fun e h => ?_
   simp only [↓reduceIte, reduceCtorEq, nA, nS, nM, nE, nL, nT, nB, iT, iN, iE, and_self, SR, SV, encApiPos]
   refine SpecS.by (ip_Chords_spec hy5) (by simp only [↓reduceIte, reduceCtorEq, nA, nE, nL, and_self, and_true, true_and, SL, encApiPos]) ?_
   simp only [↓reduceIte, reduceCtorEq, nA, nS, nM, nE, nL, nT, nB, iT, iN, iE, and_self, SR, SV, encApiPos]
   refine Mir.use (e := e) ?_ h
   refine Mir.seqK ?_
   refine Mir.region fun e h => ?_
   simp only [↓reduceIte, reduceCtorEq, nA, nS, nM, nE, nL, nT, nB, iT, iN, iE, and_self, SR, SV, encApiPos]
   refine Mir.use (e := e) ?_ h
   refine Mir.seqK ?_
   refine Mir.seqK ?_
   refine Mir.region fun e h => ?_
   simp only [↓reduceIte, reduceCtorEq, nA, nS, nM, nE, nL, nT, nB, iT, iN, iE, and_self, SR, SV, encApiPos]
   refine Mir.use (e := e) ?_ h
   refine Mir.cond rfl (fun hb7 => ?_) (fun hb7 => ?_)
   ·refine Mir.seqK ?_
    refine Mir.region fun e h => ?_
    simp only [↓reduceIte, reduceCtorEq, nA, nS, nM, nE, nL, nT, nB, iT, iN, iE, and_self, SR, SV]
    refine Mir.use (e := e) ?_ h
    refine Mir.ret fun e h => ?_
    cases h
    simp only [↓reduceIte, reduceCtorEq, nA, nE, nL, and_self, and_true, true_and, SL, Tryd.results89]
   ·refine Mir.skip ?_
    refine Mir.toK ?_
    refine Mir.seqK ?_
    refine Mir.region fun e h => ?_
    simp only [↓reduceIte, reduceCtorEq, nA, nS, nM, nE, nL, nT, nB, iT, iN, iE, and_self, SR, SV, encApiPos]
    refine Mir.use (e := e) ?_ h
    refine Mir.seqK ?_
    refine Mir.seqK ?_
    refine Mir.region fun e h => ?_
    simp only [↓reduceIte, reduceCtorEq, nA, nS, nM, nE, nL, nT, nB, iT, iN, iE, and_self, SR, SV, encApiPos]
    refine Mir.use (e := e) ?_ h
    refine Mir.gh [.slot 13 24] rfl ?_
    refine Mir.joinO (fun v767 : (List ApiPos) => [U, U, U, U, U, U, U, U, U, U, U, U, U, .own 0 (List.map encApiPos v767), U, U, U, U, U, U, U, U, U, U, U, U, U, U, U, U, U, U, U, U, U, U, U, U, U, U, U, U, U, U, U, U, U, U, U, U, U, U, U, U, U, U, U, U, U, U, U, U, U, U, U, U, U, U, U, U, U, U, U, U, U, U, U, U, U, U, U, U, U, U, U, U, U, U, U, U, U, U, U, U, U, U, U, U, U, U, U, U, U, U, U, U, U, U, U, U, U, U, U, U, U, U, U, U, U, U, U, U, U, U, U, U, U, U, U, U, U, U, U, U, U, U, U, U, U]) (fun v767 : (List ApiPos) => ⟨[[.d (.int .i64 a0.X), .d (.int .i64 a0.Y), .d (.int .i64 a0.Z)], [.d (.int .i64 a1.Kind), .d (.int .i64 a1.To.X), .d (.int .i64 a1.To.Y), .d (.int .i64 a1.To.Z), .d (.int .i64 a1.Center.X), .d (.int .i64 a1.Center.Y), .d (.int .i64 a1.Rate)]], [(24, v767.length)]⟩) (fun _ => rfl) ?_ ?_
    ·refine Mir.block ?_
     refine Mir.loop (fun v943 : (List ApiPos) × Int => [U, U, .ptr 0 0, .ptr 1 0, U, U, U, U, .d (.int .i64 y102.1), U, .d (.int .i64 (IntKind.i64.wrap y102.2)), .d (.int .i64 y103), .d (.int .i64 (IntKind.i64.wrap (y103 * y101.1))), .own 0 (List.map encApiPos v943.1), U, U, U, U, U, U, U, U, U, U, U, U, U, U, U, U, U, U, U, U, U, U, U, U, U, U, U, U, U, U, .d (.int .i64 y101.1), .d (.int .i64 v943.2), U, U, U, U, U, U, U, U, U, U, U, U, U, U, U, U, U, U, U, U, U, U, U, U, U, U, U, U, U, U, U, U, U, U, U, U, U, U, U, U, U, U, U, U, U, U, U, U, U, U, U, U, U, U, U, U, U, U, U, U, U, U, U, U, U, U, U, U, U, U, U, U, U, U, U, U, U, U, U, U, U, U, U, U, U, U, U, U, U, U, U, U, U]) (fun v943 : (List ApiPos) × Int => ⟨[[.d (.int .i64 a0.X), .d (.int .i64 a0.Y), .d (.int .i64 a0.Z)], [.d (.int .i64 a1.Kind), .d (.int .i64 a1.To.X), .d (.int .i64 a1.To.Y), .d (.int .i64 a1.To.Z), .d (.int .i64 a1.Center.X), .d (.int .i64 a1.Center.Y), .d (.int .i64 a1.Rate)]], [(24, v943.1.length)]⟩) (fun _ => rfl) (by simp only [↓reduceIte, reduceCtorEq, nA, nE, nL, and_self, and_true, true_and, SL, encApiPos]) (by simp only [↓reduceIte, reduceCtorEq, nA, nE, nL, and_self, and_true, true_and, SL, encApiPos]) fun v943 => ?_
     refine Mir.seqK ?_
     refine Mir.region fun e h => ?_
     simp only [↓reduceIte, reduceCtorEq, nA, nS, nM, nE, nL, nT, nB, iT, iN, iE, and_self, SR, SV, encApiPos]
     refine Mir.use (e := e) ?_ h
     refine Mir.seqK ?_
     refine Mir.cond rfl (fun hb1283 => ?_) (fun hb1283 => ?_)
     ·refine Mir.skip ?_
      refine Mir.toK ?_
      refine Mir.seqK ?_
      refine Mir.joinO (fun v986 : (List ApiPos) => [U, U, .ptr 0 0, .ptr 1 0, U, U, U, U, .d (.int .i64 y102.1), U, .d (.int .i64 (IntKind.i64.wrap y102.2)), .d (.int .i64 y103), .d (.int .i64 (IntKind.i64.wrap (y103 * y101.1))), .own 0 (List.map encApiPos v986), U, U, U, U, U, U, U, U, U, U, U, U, U, U, U, U, U, U, U, U, U, U, U, U, U, U, U, U, U, U, .d (.int .i64 y101.1), .d (.int .i64 v943.2), U, U, U, U, U, U, U, U, U, U, U, U, U, U, U, U, U, U, U, U, U, U, U, U, U, U, U, U, U, U, U, U, U, U, U, U, U, U, U, U, U, U, U, U, U, U, U, U, U, U, U, U, U, U, U, U, U, U, U, U, U, U, U, U, U, U, U, U, U, U, U, U, U, U, U, U, U, U, U, U, U, U, U, U, U, U, U, U, U, U, U, U, U]) (fun v986 : (List ApiPos) => ⟨[[.d (.int .i64 a0.X), .d (.int .i64 a0.Y), .d (.int .i64 a0.Z)], [.d (.int .i64 a1.Kind), .d (.int .i64 a1.To.X), .d (.int .i64 a1.To.Y), .d (.int .i64 a1.To.Z), .d (.int .i64 a1.Center.X), .d (.int .i64 a1.Center.Y), .d (.int .i64 a1.Rate)]], [(24, v986.length)]⟩) (fun _ => rfl) ?_ ?_
      ·refine Mir.block ?_
       refine Mir.seqK ?_
       refine Mir.region fun e h => ?_
       simp only [↓reduceIte, reduceCtorEq, nA, nS, nM, nE, nL, nT, nB, iT, iN, iE, and_self, SR, SV, encApiPos]
       refine Mir.use (e := e) ?_ h
       refine Mir.seqK ?_
       refine Mir.region fun e h => ?_
       simp only [↓reduceIte, reduceCtorEq, nA, nS, nM, nE, nL, nT, nB, iT, iN, iE, and_self, SR, SV, encApiPos]
       refine Mir.use (e := e) ?_ h
       refine Mir.block ?_
       refine Mir.loop (fun v1016 : (List ApiPos) × Int => [U, U, .ptr 0 0, .ptr 1 0, U, U, U, U, .d (.int .i64 y102.1), U, .d (.int .i64 (IntKind.i64.wrap y102.2)), .d (.int .i64 y103), .d (.int .i64 (IntKind.i64.wrap (y103 * y101.1))), .own 0 (List.map encApiPos v1016.1), .d (.int .i64 v943.2), .d (.int .i64 v1016.2), U, U, U, U, U, U, U, U, U, U, U, U, U, U, U, U, U, U, U, U, U, U, U, U, U, U, U, U, .d (.int .i64 y101.1), .d (.int .i64 v943.2), U, U, U, U, U, U, U, U, U, U, U, U, U, U, U, U, U, U, U, U, U, U, U, U, U, U, U, U, U, U, U, U, U, U, U, U, U, U, U, U, U, U, U, U, U, U, U, U, U, U, U, U, U, U, U, U, U, U, U, U, U, U, U, U, U, U, U, U, U, U, U, U, U, U, U, U, U, U, U, U, U, U, U, U, U, U, U, U, U, U, U, U, U]) (fun v1016 : (List ApiPos) × Int => ⟨[[.d (.int .i64 a0.X), .d (.int .i64 a0.Y), .d (.int .i64 a0.Z)], [.d (.int .i64 a1.Kind), .d (.int .i64 a1.To.X), .d (.int .i64 a1.To.Y), .d (.int .i64 a1.To.Z), .d (.int .i64 a1.Center.X), .d (.int .i64 a1.Center.Y), .d (.int .i64 a1.Rate)]], [(24, v1016.1.length)]⟩) (fun _ => rfl) (by simp only [↓reduceIte, reduceCtorEq, nA, nE, nL, and_self, and_true, true_and, SL, encApiPos]) (by simp only [↓reduceIte, reduceCtorEq, nA, nE, nL, and_self, and_true, true_and, SL, encApiPos]) fun v1016 => ?_
       refine Mir.seqK ?_
       refine Mir.seqK ?_
       refine Mir.region fun e h => ?_
       simp only [↓reduceIte, reduceCtorEq, nA, nS, nM, nE, nL, nT, nB, iT, iN, iE, and_self, SR, SV, encApiPos]
       refine Mir.use (e := e) ?_ h
       refine Mir.cond rfl (fun hb1395 => ?_) (fun hb1395 => ?_)
       ·refine Mir.skip ?_
        refine Mir.toK ?_
        refine Mir.seqK ?_
        refine Mir.block ?_
        refine Mir.seqK ?_
        refine Mir.guard fun q1406 => ?_
        replace q1406 := ne_of q1406
        refine Mir.guard fun q1407 => ?_
        replace q1407 := ne_of q1407
        refine Mir.regionD [] (by kernel_rfl) fun e h => ?_
        simp only [↓reduceIte, reduceCtorEq, nA, nS, nM, nE, nL, nT, nB, iT, iN, iE, and_self, SR, SV, sepL_nil, sepL_cons, sepV_ne, sepV_d, sepV_i, true_and, Bool.and_self, q1406, q1407, encApiPos]
        refine Mir.use (e := e) ?_ h
        refine Mir.seqK ?_
        refine Mir.seqK ?_
        refine Mir.region fun e h => ?_
        simp only [↓reduceIte, reduceCtorEq, nA, nS, nM, nE, nL, nT, nB, iT, iN, iE, and_self, SR, SV, fld_156_0, sz_3, ag_3, encApiPos]
        refine Mir.use (e := e) ?_ h
        refine Mir.joinO (fun v1025 : Int × Int => [U, U, .ptr 0 0, .ptr 1 0, U, U, U, U, .d (.int .i64 y102.1), U, .d (.int .i64 (IntKind.i64.wrap y102.2)), .d (.int .i64 y103), .d (.int .i64 (IntKind.i64.wrap (y103 * y101.1))), .own 0 (List.map encApiPos v1016.1), .d (.int .i64 v943.2), .d (.int .i64 v1016.2), .d (.int .i64 v1025.1), .d (.int .i64 v1025.2), U, U, U, U, U, U, U, U, U, U, U, U, U, U, U, U, U, U, U, U, U, U, U, U, U, U, .d (.int .i64 y101.1), .d (.int .i64 v943.2), U, U, U, U, U, U, U, U, U, U, U, U, U, U, U, U, U, U, U, U, U, U, U, U, U, U, U, U, U, U, U, U, U, U, U, U, U, U, U, U, U, U, U, U, U, U, U, U, U, U, U, U, U, U, U, U, U, U, U, U, U, U, U, U, U, U, U, U, U, U, U, U, U, U, U, U, U, U, U, U, U, U, U, U, U, U, U, U, U, U, U, U, U]) (fun v1025 : Int × Int => ⟨[[.d (.int .i64 a0.X), .d (.int .i64 a0.Y), .d (.int .i64 a0.Z)], [.d (.int .i64 a1.Kind), .d (.int .i64 a1.To.X), .d (.int .i64 a1.To.Y), .d (.int .i64 a1.To.Z), .d (.int .i64 a1.Center.X), .d (.int .i64 a1.Center.Y), .d (.int .i64 a1.Rate)]], [(24, v1016.1.length)]⟩) (fun _ => rfl) ?_ ?_
        ·refine Mir.cond rfl (fun hb1411 => ?_) (fun hb1411 => ?_)
         ·refine Mir.bind fun y1026 hy1412 => ?_
          refine Mir.region fun e h => ?_
          simp only [↓reduceIte, reduceCtorEq, nA, nS, nM, nE, nL, nT, nB, iT, iN, iE, and_self, SR, SV, encApiPos]
          refine SpecS.by (ip_turned_spec hy1412) (by simp only [↓reduceIte, reduceCtorEq, nA, nE, nL, and_self, and_true, true_and, SL, encApiPos]) ?_
          simp only [↓reduceIte, reduceCtorEq, nA, nS, nM, nE, nL, nT, nB, iT, iN, iE, and_self, SR, SV, encApiPos]
          cases h
          simp only [↓reduceIte, reduceCtorEq, nA, nE, nL, and_self, and_true, true_and, SL, encApiPos, Tryd.results89]
         ·refine Mir.bind fun y1027 hy1413 => ?_
          refine Mir.region fun e h => ?_
          simp only [↓reduceIte, reduceCtorEq, nA, nS, nM, nE, nL, nT, nB, iT, iN, iE, and_self, SR, SV, encApiPos]
          refine SpecS.by (ip_turned_spec hy1413) (by simp only [↓reduceIte, reduceCtorEq, nA, nE, nL, and_self, and_true, true_and, SL, encApiPos]) ?_
          simp only [↓reduceIte, reduceCtorEq, nA, nS, nM, nE, nL, nT, nB, iT, iN, iE, and_self, SR, SV, encApiPos]
          cases h
          simp only [↓reduceIte, reduceCtorEq, nA, nE, nL, and_self, and_true, true_and, SL, encApiPos, Tryd.results89]
        ·intro v1025
         refine Mir.toK ?_
         refine Mir.seqK ?_
         refine Mir.region fun e h => ?_
         simp only [↓reduceIte, reduceCtorEq, nA, nS, nM, nE, nL, nT, nB, iT, iN, iE, and_self, SR, SV, und_136, encApiPos]
         refine Mir.use (e := e) ?_ h
         refine Mir.bind fun y1028 hy1414 => ?_
         refine Mir.guard fun q1415 => ?_
         refine Mir.regionD [] (by kernel_rfl) fun e h => ?_
         simp only [↓reduceIte, reduceCtorEq, nA, nS, nM, nE, nL, nT, nB, iT, iN, iE, and_self, SR, SV, sepL_nil, sepL_cons, sepV_ne, sepV_d, sepV_i, true_and, Bool.and_self, fld_156_2, sz_153, fld_153_0, sz_2, ag_2, fld_153_1, fld_24_2, fld_156_1, sz_24, encApiPos]
         refine Spec.by (ip_floor_spec hy1414) (by simp only [↓reduceIte, reduceCtorEq, nA, nE, nL, and_self, and_true, true_and, SL, encApiPos]) ?_
         simp only [↓reduceIte, reduceCtorEq, nA, nS, nM, nE, nL, nT, nB, iT, iN, iE, and_self, SR, SV, sepL_nil, sepL_cons, sepV_ne, sepV_d, sepV_i, true_and, Bool.and_self, zero_24, pl_24, und_136, sz_24, (nr rfl : okLen 3 = true), app_136, al_ApiPos, q1415, encApiPos]
         refine Mir.use (e := e) ?_ h
         refine Mir.region fun e h => ?_
         simp only [↓reduceIte, reduceCtorEq, nA, nS, nM, nE, nL, nT, nB, iT, iN, iE, and_self, SR, SV, encApiPos]
         cases h
         simp only [↓reduceIte, reduceCtorEq, nA, nE, nL, and_self, and_true, true_and, SL, encApiPos, Tryd.results89]
       ·refine Mir.exit fun e h => ?_
        cases h
        simp only [↓reduceIte, reduceCtorEq, nA, nE, nL, and_self, and_true, true_and, SL, encApiPos, Tryd.results89]
      ·intro v986
       refine Mir.toK ?_
       refine Mir.region fun e h => ?_
       simp only [↓reduceIte, reduceCtorEq, nA, nS, nM, nE, nL, nT, nB, iT, iN, iE, and_self, SR, SV, encApiPos]
       cases h
       simp only [↓reduceIte, reduceCtorEq, nA, nE, nL, and_self, and_true, true_and, SL, encApiPos, Tryd.results89]
     ·refine Mir.exit fun e h => ?_
      cases h
      simp only [↓reduceIte, reduceCtorEq, nA, nE, nL, and_self, and_true, true_and, SL, encApiPos, Tryd.results89]
    ·intro v767
     refine Mir.toK ?_
     refine Mir.seqK ?_
     refine Mir.region fun e h => ?_
     simp only [↓reduceIte, reduceCtorEq, nA, nS, nM, nE, nL, nT, nB, iT, iN, iE, and_self, SR, SV, encApiPos]
     refine Mir.use (e := e) ?_ h
     refine Mir.ret fun e h => ?_
     cases h
     simp only [↓reduceIte, reduceCtorEq, nA, nE, nL, and_self, and_true, true_and, SL, encApiPos, Tryd.results89]

def inp_arc (a0 : ModalState) (a1 : ApiBlock) (a2 : ApiPos) (a3 : ApiPos) : Option ((List InterpreterReached) × Int) :=
  bindO (inp_value a1 73) fun (y101 : Int) =>
  bindO (inp_value a1 74) fun (y102 : Int) =>
  bindO (if (a0.Motion == 3000) = true then
        some 4
      else
        some 3) fun (v103 : Int) =>
  bindO (ip_Arc a2 (ApiMove.mk v103 a3 (ApiGrid2.mk (IntKind.i64.wrap (a2.X + y101)) (IntKind.i64.wrap (a2.Y + y102))) a0.Feed)) fun (y104 : (List ApiPos) × Int) =>
  bindO (guardO (okIdx y104.1) (
      rangeX (fun (i148 : Nat) (e150 : ApiPos) (v149 : (List InterpreterReached)) =>
        guardO (okLen (v149.length + 1)) (
        some (.go (v149 ++ [InterpreterReached.mk e150 a0.Feed])))) (fun (v149 : (List InterpreterReached)) => some v149) y104.1 0 [])) fun (v136 : (List InterpreterReached)) =>
  some (v136, y104.2)
theorem inp_arc_spec {a0 : ModalState} {a1 : ApiBlock} {a2 : ApiPos} {a3 : ApiPos} {y : (List InterpreterReached) × Int} (h : inp_arc a0 a1 a2 a3 = some y) : Spec gP 75 [.agg [.d (.int .i64 a0.Motion), .d (.int .i64 a0.Distance), .d (.int .i64 a0.Work), .d (.int .i64 a0.Length), .d (.int .i64 a0.Return), .d (.int .i64 a0.Feed), .d (.int .i64 a0.Tool), .d (.int .i64 a0.Offset)], .agg [.d (.bool a1.Skip), .d (.list (List.map encApiWord a1.Words)), .d (.str a1.Comment)], .agg [.d (.int .i64 a2.X), .d (.int .i64 a2.Y), .d (.int .i64 a2.Z)], .agg [.d (.int .i64 a3.X), .d (.int .i64 a3.Y), .d (.int .i64 a3.Z)]] (.tuple [.d (.list (List.map encInterpreterReached y.1)), .d (.int .i64 y.2)]) := by
  refine spec_mir Tryd.func75 rfl (by kernel_rfl) (by kernel_rfl) (fun y : (List InterpreterReached) × Int => .tuple [.d (.list (List.map encInterpreterReached y.1)), .d (.int .i64 y.2)]) ?_ h
  unfold inp_arc
  simp only [List.replicate, List.length, nS, nA, Tryd.ntmps75, SV]
  refine Mir.seqK ?_
  refine Mir.region fun e h => ?_
  simp only [↓reduceIte, reduceCtorEq, nA, nS, nM, nE, nL, nT, nB, iT, iN, iE, and_self, SR, SV, encApiPos, encApiWord, encInterpreterReached]
  refine Mir.use (e := e) ?_ h
  refine Mir.seqK ?_
  refine Mir.bind fun y101 hy1 => ?_
  refine Mir.bind fun y102 hy2 => ?_
  refine Mir.regionD [] (by kernel_rfl) fun e h => ?_
  simp only [↓reduceIte, reduceCtorEq, nA, nS, nM, nE, nL, nT, nB, iT, iN, iE, and_self, SR, SV, sepL_nil, sepL_cons, sepV_ne, sepV_d, sepV_i, true_and, Bool.and_self, ag_24, sz_24, fld_24_0, sz_2, ag_2, ag_42, sz_42, encApiPos, encApiWord, encInterpreterReached]
  refine Spec.by (inp_value_spec hy1) (by simp only [↓reduceIte, reduceCtorEq, nA, nE, nL, and_self, and_true, true_and, SL, encApiPos, encApiWord, encInterpreterReached]) ?_
  simp only [↓reduceIte, reduceCtorEq, nA, nS, nM, nE, nL, nT, nB, iT, iN, iE, and_self, SR, SV, sepL_nil, sepL_cons, sepV_ne, sepV_d, sepV_i, true_and, Bool.and_self, fld_24_1, sz_2, ag_2, ag_42, sz_42, encApiPos, encApiWord, encInterpreterReached]
  refine Spec.by (inp_value_spec hy2) (by simp only [↓reduceIte, reduceCtorEq, nA, nE, nL, and_self, and_true, true_and, SL, encApiPos, encApiWord, encInterpreterReached]) ?_
  simp only [↓reduceIte, reduceCtorEq, nA, nS, nM, nE, nL, nT, nB, iT, iN, iE, and_self, SR, SV, sepL_nil, sepL_cons, sepV_ne, sepV_d, sepV_i, true_and, Bool.and_self, zero_153, pl_153, fld_65_5, sz_2, ag_2, zero_156, pl_156, sz_156, encApiPos, encApiWord, encInterpreterReached]
  refine Mir.use (e := e) ?_ h
  refine Mir.seqK ?_
  refine Mir.seqK ?_
  refine Mir.region fun e h => ?_
  simp only [↓reduceIte, reduceCtorEq, nA, nS, nM, nE, nL, nT, nB, iT, iN, iE, and_self, SR, SV, fld_65_0, sz_2, ag_2, encApiPos, encApiWord, encInterpreterReached]
  refine Mir.use (e := e) ?_ h
  refine Mir.joinO (fun v103 : Int => [U, U, U, U, .ptr 0 0, U, .ptr 2 0, U, U, U, .ptr 4 0, U, U, U, U, U, U, U, U, U, U, U, U, U, U, U, U, U, U, U, U, U, U, U, U, U, U, U, U, U, U, U, U, U, U, U, U, U, U, U, U, U, U, U, U, U, U]) (fun v103 : Int => ⟨[[.d (.int .i64 a0.Motion), .d (.int .i64 a0.Distance), .d (.int .i64 a0.Work), .d (.int .i64 a0.Length), .d (.int .i64 a0.Return), .d (.int .i64 a0.Feed), .d (.int .i64 a0.Tool), .d (.int .i64 a0.Offset)], [.d (.bool a1.Skip), .d (.list (List.map encApiWord a1.Words)), .d (.str a1.Comment)], [.d (.int .i64 a2.X), .d (.int .i64 a2.Y), .d (.int .i64 a2.Z)], [.d (.int .i64 a3.X), .d (.int .i64 a3.Y), .d (.int .i64 a3.Z)], [.d (.int .i64 v103), .d (.int .i64 a3.X), .d (.int .i64 a3.Y), .d (.int .i64 a3.Z), .d (.int .i64 (IntKind.i64.wrap (a2.X + y101))), .d (.int .i64 (IntKind.i64.wrap (a2.Y + y102))), .d (.int .i64 a0.Feed)]], []⟩) (fun _ => rfl) ?_ ?_
  ·refine Mir.cond rfl (fun hb4 => ?_) (fun hb4 => ?_)
   ·refine Mir.region fun e h => ?_
    simp only [↓reduceIte, reduceCtorEq, nA, nS, nM, nE, nL, nT, nB, iT, iN, iE, and_self, SR, SV, fld_156_0, sz_3, encApiWord]
    cases h
    simp only [↓reduceIte, reduceCtorEq, nA, nE, nL, and_self, and_true, true_and, SL, encApiWord, Tryd.results75]
   ·refine Mir.skip fun e h => ?_
    cases h
    simp only [↓reduceIte, reduceCtorEq, nA, nE, nL, and_self, and_true, true_and, SL, encApiWord, Tryd.results75]
  ·intro v103
   refine Mir.toK ?_
   refine Mir.seqK ?_
   refine Mir.bind fun y104 hy5 => ?_
   refine Mir.region fun e h => ?_
   simp only [↓reduceIte, reduceCtorEq, nA, nS, nM, nE, nL, nT, nB, iT, iN, iE, and_self, SR, SV, ag_24, sz_24, ag_156, sz_156, encApiPos, encApiWord, encInterpreterReached]
   refine SpecS.by (ip_Arc_spec hy5) (by simp only [↓reduceIte, reduceCtorEq, nA, nE, nL, and_self, and_true, true_and, SL, encApiPos, encApiWord, encInterpreterReached]) ?_
   simp only [↓reduceIte, reduceCtorEq, nA, nS, nM, nE, nL, nT, nB, iT, iN, iE, and_self, SR, SV, encApiPos, encApiWord, encInterpreterReached]
   refine Mir.use (e := e) ?_ h
   refine Mir.seqK ?_
   refine Mir.region fun e h => ?_
   simp only [↓reduceIte, reduceCtorEq, nA, nS, nM, nE, nL, nT, nB, iT, iN, iE, and_self, SR, SV, encApiPos, encApiWord, encInterpreterReached]
   refine Mir.use (e := e) ?_ h
   refine Mir.seqK ?_
   refine Mir.seqK ?_
   refine Mir.region fun e h => ?_
   simp only [↓reduceIte, reduceCtorEq, nA, nS, nM, nE, nL, nT, nB, iT, iN, iE, and_self, SR, SV, und_136, encApiPos, encApiWord, encInterpreterReached]
   refine Mir.use (e := e) ?_ h
   refine Mir.gh [.slot 13 111] rfl ?_
   refine Mir.joinO (fun v136 : (List InterpreterReached) => [U, U, U, U, U, U, U, U, U, U, U, U, .d (.int .i64 y104.2), .own 0 (List.map encInterpreterReached v136), U, U, U, U, U, U, U, U, U, U, U, U, U, U, U, U, U, U, U, U, U, U, U, U, U, U, U, U, U, U, U, U, U, U, U, U, U, U, U, U, U, U, U]) (fun v136 : (List InterpreterReached) => ⟨[[.d (.int .i64 a0.Motion), .d (.int .i64 a0.Distance), .d (.int .i64 a0.Work), .d (.int .i64 a0.Length), .d (.int .i64 a0.Return), .d (.int .i64 a0.Feed), .d (.int .i64 a0.Tool), .d (.int .i64 a0.Offset)], [.d (.bool a1.Skip), .d (.list (List.map encApiWord a1.Words)), .d (.str a1.Comment)], [.d (.int .i64 a2.X), .d (.int .i64 a2.Y), .d (.int .i64 a2.Z)], [.d (.int .i64 a3.X), .d (.int .i64 a3.Y), .d (.int .i64 a3.Z)], [.d (.int .i64 v103), .d (.int .i64 a3.X), .d (.int .i64 a3.Y), .d (.int .i64 a3.Z), .d (.int .i64 (IntKind.i64.wrap (a2.X + y101))), .d (.int .i64 (IntKind.i64.wrap (a2.Y + y102))), .d (.int .i64 a0.Feed)]], [(111, v136.length)]⟩) (fun _ => rfl) ?_ ?_
   ·refine Mir.block ?_
    refine Mir.guard fun qg70 => ?_
    refine Mir.range (fun (i148 : Nat) (v149 : (List InterpreterReached)) => [U, U, U, U, .ptr 0 0, U, U, U, U, U, U, U, .d (.int .i64 y104.2), .own 0 (List.map encInterpreterReached v149), U, U, U, U, U, U, U, U, U, U, U, U, U, U, U, U, U, U, U, U, U, U, U, U, U, U, U, .d (.list (List.map encApiPos y104.1)), .d (.int .i64 (y104.1.length : Int)), .d (.int .i64 (i148 : Int)), U, U, U, U, U, U, U, U, U, U, U, U, U]) (fun (i148 : Nat) (v149 : (List InterpreterReached)) => ⟨[[.d (.int .i64 a0.Motion), .d (.int .i64 a0.Distance), .d (.int .i64 a0.Work), .d (.int .i64 a0.Length), .d (.int .i64 a0.Return), .d (.int .i64 a0.Feed), .d (.int .i64 a0.Tool), .d (.int .i64 a0.Offset)], [.d (.bool a1.Skip), .d (.list (List.map encApiWord a1.Words)), .d (.str a1.Comment)], [.d (.int .i64 a2.X), .d (.int .i64 a2.Y), .d (.int .i64 a2.Z)], [.d (.int .i64 a3.X), .d (.int .i64 a3.Y), .d (.int .i64 a3.Z)], [.d (.int .i64 v103), .d (.int .i64 a3.X), .d (.int .i64 a3.Y), .d (.int .i64 a3.Z), .d (.int .i64 (IntKind.i64.wrap (a2.X + y101))), .d (.int .i64 (IntKind.i64.wrap (a2.Y + y102))), .d (.int .i64 a0.Feed)]], [(111, v149.length)]⟩) qg70 (fun _ _ => rfl) (by simp only [↓reduceIte, reduceCtorEq, nA, nE, nL, and_self, and_true, true_and, SL, encApiPos, encApiWord, encInterpreterReached, (nr rfl : ((0 : Nat) : Int) = 0)]) (by simp only [↓reduceIte, reduceCtorEq, nA, nE, nL, and_self, and_true, true_and, SL, encApiPos, encApiWord, encInterpreterReached, (nr rfl : ((0 : Nat) : Int) = 0)]) ?_ ?_
    ·intro i148 e150 v149 qr68
     refine Mir.seqK ?_
     refine Mir.region fun e h => ?_
     simp only [↓reduceIte, reduceCtorEq, nA, nS, nM, nE, nL, nT, nB, iT, iN, iE, and_self, SR, SV, qr68, encApiPos, encApiWord, encInterpreterReached]
     refine Mir.use (e := e) ?_ h
     refine Mir.seqK ?_
     refine Mir.condT rfl ?_
     refine Mir.skip ?_
     refine Mir.toK ?_
     refine Mir.seqK ?_
     refine Mir.block ?_
     refine Mir.seqK ?_
     refine Mir.region fun e h => ?_
     simp only [↓reduceIte, reduceCtorEq, nA, nS, nM, nE, nL, nT, nB, iT, iN, iE, and_self, SR, SV, und_136, sz_24, qr68, Int.toNat_natCast, ag_24, zero_24, encApiPos, encApiWord, encInterpreterReached]
     refine Mir.use (e := e) ?_ h
     refine Mir.guard fun q72 => ?_
     refine Mir.region fun e h => ?_
     simp only [↓reduceIte, reduceCtorEq, nA, nS, nM, nE, nL, nT, nB, iT, iN, iE, and_self, SR, SV, ag_24, sz_24, fld_65_5, sz_2, ag_2, zero_111, pl_111, und_107, sz_111, (nr rfl : okLen 4 = true), app_107, al_InterpreterReached, q72, encApiPos, encApiWord, encInterpreterReached]
     refine Mir.use (e := e) ?_ h
     refine Mir.region fun e h => ?_
     simp only [↓reduceIte, reduceCtorEq, nA, nS, nM, nE, nL, nT, nB, iT, iN, iE, and_self, SR, SV, encApiPos, encApiWord, encInterpreterReached]
     cases h
     simp only [↓reduceIte, reduceCtorEq, nA, nE, nL, and_self, and_true, true_and, SL, encApiPos, encApiWord, encInterpreterReached, Tryd.results75, qr68]
    ·intro v149 qd69
     refine Mir.seqK ?_
     refine Mir.region fun e h => ?_
     simp only [↓reduceIte, reduceCtorEq, nA, nS, nM, nE, nL, nT, nB, iT, iN, iE, and_self, SR, SV, qd69, encApiPos, encApiWord, encInterpreterReached]
     refine Mir.use (e := e) ?_ h
     refine Mir.seqK ?_
     refine Mir.condF rfl ?_
     refine Mir.exit fun e h => ?_
     cases h
     simp only [↓reduceIte, reduceCtorEq, nA, nE, nL, and_self, and_true, true_and, SL, encApiPos, encApiWord, encInterpreterReached, Tryd.results75]
   ·intro v136
    refine Mir.toK ?_
    refine Mir.seqK ?_
    refine Mir.region fun e h => ?_
    simp only [↓reduceIte, reduceCtorEq, nA, nS, nM, nE, nL, nT, nB, iT, iN, iE, and_self, SR, SV, encApiPos, encApiWord, encInterpreterReached]
    refine Mir.use (e := e) ?_ h
    refine Mir.ret fun e h => ?_
    cases h
    simp only [↓reduceIte, reduceCtorEq, nA, nE, nL, and_self, and_true, true_and, SL, encApiPos, encApiWord, encInterpreterReached, Tryd.results75]

def inp_positions (a0 : ModalState) (a1 : CycleCycle) (a2 : ApiBlock) (a3 : ApiPos) : Option ((List InterpreterReached) × CycleCycle × Int) :=
  bindO (inp_target a0 (ApiBlock.mk a2.Skip a2.Words a2.Comment) a3) fun (y101 : ApiPos) =>
  if (a0.Motion == 0) = true then
    some ([InterpreterReached.mk y101 0], CycleCycle.mk 0 0 0 0 0 0 false, 0)
  else
    if (a0.Motion == 1000) = true then
      some ([InterpreterReached.mk y101 a0.Feed], CycleCycle.mk 0 0 0 0 0 0 false, 0)
    else
      bindO (inp_cycles a0.Motion) fun (y108 : Bool) =>
      if y108 = true then
        bindO (inp_canned (ModalState.mk a0.Motion a0.Distance a0.Work a0.Length a0.Return a0.Feed a0.Tool a0.Offset) (CycleCycle.mk a1.Code a1.R a1.Z a1.Q a1.Rate a1.Initial a1.High) a2 a3 y101) fun (y110 : (List InterpreterReached) × CycleCycle × Int) =>
        some (y110.1, y110.2.1, y110.2.2)
      else
        bindO (inp_arc (ModalState.mk a0.Motion a0.Distance a0.Work a0.Length a0.Return a0.Feed a0.Tool a0.Offset) (ApiBlock.mk a2.Skip a2.Words a2.Comment) a3 y101) fun (y111 : (List InterpreterReached) × Int) =>
        some (y111.1, CycleCycle.mk 0 0 0 0 0 0 false, y111.2)
theorem inp_positions_spec {a0 : ModalState} {a1 : CycleCycle} {a2 : ApiBlock} {a3 : ApiPos} {y : (List InterpreterReached) × CycleCycle × Int} (h : inp_positions a0 a1 a2 a3 = some y) : Spec gP 54 [.agg [.d (.int .i64 a0.Motion), .d (.int .i64 a0.Distance), .d (.int .i64 a0.Work), .d (.int .i64 a0.Length), .d (.int .i64 a0.Return), .d (.int .i64 a0.Feed), .d (.int .i64 a0.Tool), .d (.int .i64 a0.Offset)], .agg [.d (.int .i64 a1.Code), .d (.int .i64 a1.R), .d (.int .i64 a1.Z), .d (.int .i64 a1.Q), .d (.int .i64 a1.Rate), .d (.int .i64 a1.Initial), .d (.bool a1.High)], .agg [.d (.bool a2.Skip), .d (.list (List.map encApiWord a2.Words)), .d (.str a2.Comment)], .agg [.d (.int .i64 a3.X), .d (.int .i64 a3.Y), .d (.int .i64 a3.Z)]] (.tuple [.d (.list (List.map encInterpreterReached y.1)), .agg [.d (.int .i64 y.2.1.Code), .d (.int .i64 y.2.1.R), .d (.int .i64 y.2.1.Z), .d (.int .i64 y.2.1.Q), .d (.int .i64 y.2.1.Rate), .d (.int .i64 y.2.1.Initial), .d (.bool y.2.1.High)], .d (.int .i64 y.2.2)]) := by
  refine spec_mir Tryd.func54 rfl (by kernel_rfl) (by kernel_rfl) (fun y : (List InterpreterReached) × CycleCycle × Int => .tuple [.d (.list (List.map encInterpreterReached y.1)), .agg [.d (.int .i64 y.2.1.Code), .d (.int .i64 y.2.1.R), .d (.int .i64 y.2.1.Z), .d (.int .i64 y.2.1.Q), .d (.int .i64 y.2.1.Rate), .d (.int .i64 y.2.1.Initial), .d (.bool y.2.1.High)], .d (.int .i64 y.2.2)]) ?_ h
  unfold inp_positions
  simp only [List.replicate, List.length, nS, nA, Tryd.ntmps54, SV]
  refine Mir.seqK ?_
  refine Mir.region fun e h => ?_
  simp only [↓reduceIte, reduceCtorEq, nA, nS, nM, nE, nL, nT, nB, iT, iN, iE, and_self, SR, SV, zero_68, encApiWord, encInterpreterReached]
  refine Mir.use (e := e) ?_ h
  refine Mir.seqK ?_
  refine Mir.bind fun y101 hy1 => ?_
  refine Mir.region fun e h => ?_
  simp only [↓reduceIte, reduceCtorEq, nA, nS, nM, nE, nL, nT, nB, iT, iN, iE, and_self, SR, SV, ag_65, sz_65, ag_42, sz_42, ag_24, sz_24, encApiWord, encInterpreterReached]
  refine SpecS.by (inp_target_spec hy1) (by simp only [↓reduceIte, reduceCtorEq, nA, nE, nL, and_self, and_true, true_and, SL, encApiWord, encInterpreterReached]) ?_
  simp only [↓reduceIte, reduceCtorEq, nA, nS, nM, nE, nL, nT, nB, iT, iN, iE, and_self, SR, SV, zero_24, sz_24, encApiWord, encInterpreterReached]
  refine Mir.use (e := e) ?_ h
  refine Mir.seqK ?_
  refine Mir.block ?_
  refine Mir.seqK ?_
  refine Mir.region fun e h => ?_
  simp only [↓reduceIte, reduceCtorEq, nA, nS, nM, nE, nL, nT, nB, iT, iN, iE, and_self, SR, SV, fld_65_0, sz_2, ag_2, encApiWord, encInterpreterReached]
  refine Mir.use (e := e) ?_ h
  refine Mir.cond rfl (fun hb12 => ?_) (fun hb12 => ?_)
  ·refine Mir.seqK ?_
   refine Mir.region fun e h => ?_
   simp only [↓reduceIte, reduceCtorEq, nA, nS, nM, nE, nL, nT, nB, iT, iN, iE, and_self, SR, SV, ag_24, sz_24, zero_111, pl_111, und_107, sz_111, (nr rfl : okLen 4 = true), zero_68, pl_68, sz_68, encApiWord, encInterpreterReached]
   refine Mir.use (e := e) ?_ h
   refine Mir.ret fun e h => ?_
   cases h
   simp only [↓reduceIte, reduceCtorEq, nA, nE, nL, and_self, and_true, true_and, SL, encApiWord, encInterpreterReached, Tryd.results54, ag_68, sz_68]
  ·refine Mir.seqK ?_
   refine Mir.region fun e h => ?_
   simp only [↓reduceIte, reduceCtorEq, nA, nS, nM, nE, nL, nT, nB, iT, iN, iE, and_self, SR, SV, fld_65_0, sz_2, ag_2, encApiWord, encInterpreterReached]
   refine Mir.use (e := e) ?_ h
   refine Mir.cond rfl (fun hb17 => ?_) (fun hb17 => ?_)
   ·refine Mir.seqK ?_
    refine Mir.region fun e h => ?_
    simp only [↓reduceIte, reduceCtorEq, nA, nS, nM, nE, nL, nT, nB, iT, iN, iE, and_self, SR, SV, ag_24, sz_24, fld_65_5, sz_2, ag_2, zero_111, pl_111, und_107, sz_111, (nr rfl : okLen 4 = true), zero_68, pl_68, sz_68, encApiWord, encInterpreterReached]
    refine Mir.use (e := e) ?_ h
    refine Mir.ret fun e h => ?_
    cases h
    simp only [↓reduceIte, reduceCtorEq, nA, nE, nL, and_self, and_true, true_and, SL, encApiWord, encInterpreterReached, Tryd.results54, ag_68, sz_68]
   ·refine Mir.seqK ?_
    refine Mir.bind fun y108 hy18 => ?_
    refine Mir.region fun e h => ?_
    simp only [↓reduceIte, reduceCtorEq, nA, nS, nM, nE, nL, nT, nB, iT, iN, iE, and_self, SR, SV, fld_65_0, sz_2, ag_2, encApiWord, encInterpreterReached]
    refine SpecS.by (inp_cycles_spec hy18) (by simp only [↓reduceIte, reduceCtorEq, nA, nE, nL, and_self, and_true, true_and, SL, encApiWord, encInterpreterReached]) ?_
    simp only [↓reduceIte, reduceCtorEq, nA, nS, nM, nE, nL, nT, nB, iT, iN, iE, and_self, SR, SV, encApiWord, encInterpreterReached]
    refine Mir.use (e := e) ?_ h
    refine Mir.cond rfl (fun hb21 => ?_) (fun hb21 => ?_)
    ·refine Mir.seqK ?_
     refine Mir.bind fun y110 hy22 => ?_
     refine Mir.region fun e h => ?_
     simp only [↓reduceIte, reduceCtorEq, nA, nS, nM, nE, nL, nT, nB, iT, iN, iE, and_self, SR, SV, ag_65, sz_65, ag_68, sz_68, ag_42, sz_42, ag_24, sz_24, encApiWord, encInterpreterReached]
     refine SpecS.by (inp_canned_spec hy22) (by simp only [↓reduceIte, reduceCtorEq, nA, nE, nL, and_self, and_true, true_and, SL, encApiWord, encInterpreterReached]) ?_
     simp only [↓reduceIte, reduceCtorEq, nA, nS, nM, nE, nL, nT, nB, iT, iN, iE, and_self, SR, SV, sz_68, encApiWord, encInterpreterReached]
     refine Mir.use (e := e) ?_ h
     refine Mir.ret fun e h => ?_
     cases h
     simp only [↓reduceIte, reduceCtorEq, nA, nE, nL, and_self, and_true, true_and, SL, encApiWord, encInterpreterReached, Tryd.results54, ag_68, sz_68]
    ·refine Mir.skip ?_
     refine Mir.toB ?_
     refine Mir.toK ?_
     refine Mir.seqK ?_
     refine Mir.bind fun y111 hy23 => ?_
     refine Mir.region fun e h => ?_
     simp only [↓reduceIte, reduceCtorEq, nA, nS, nM, nE, nL, nT, nB, iT, iN, iE, and_self, SR, SV, ag_65, sz_65, ag_42, sz_42, ag_24, sz_24, encApiWord, encInterpreterReached]
     refine SpecS.by (inp_arc_spec hy23) (by simp only [↓reduceIte, reduceCtorEq, nA, nE, nL, and_self, and_true, true_and, SL, encApiWord, encInterpreterReached]) ?_
     simp only [↓reduceIte, reduceCtorEq, nA, nS, nM, nE, nL, nT, nB, iT, iN, iE, and_self, SR, SV, encApiWord, encInterpreterReached]
     refine Mir.use (e := e) ?_ h
     refine Mir.seqK ?_
     refine Mir.region fun e h => ?_
     simp only [↓reduceIte, reduceCtorEq, nA, nS, nM, nE, nL, nT, nB, iT, iN, iE, and_self, SR, SV, zero_68, pl_68, sz_68, encApiWord, encInterpreterReached]
     refine Mir.use (e := e) ?_ h
     refine Mir.ret fun e h => ?_
     cases h
     simp only [↓reduceIte, reduceCtorEq, nA, nE, nL, and_self, and_true, true_and, SL, encApiWord, encInterpreterReached, Tryd.results54, ag_68, sz_68]

def tb_Machine (a0 : TableTable) (a1 : Int) (a2 : Int) (a3 : ApiPos) : Option (ApiPos × Int) :=
  bindO (tb_offset a0 a1 a2) fun (y101 : ApiPos × Int) =>
  if (y101.2 != 0) = true then
    some (ApiPos.mk 0 0 0, y101.2)
  else
    bindO (tb_moved a3 y101.1 1) fun (y102 : ApiPos × Int) =>
    some (y102.1, y102.2)
theorem tb_Machine_spec {a0 : TableTable} {a1 : Int} {a2 : Int} {a3 : ApiPos} {y : ApiPos × Int} (h : tb_Machine a0 a1 a2 a3 = some y) : Spec gP 55 [.agg [.d (.int .i64 a0.Work.e0.X), .d (.int .i64 a0.Work.e0.Y), .d (.int .i64 a0.Work.e0.Z), .d (.int .i64 a0.Work.e1.X), .d (.int .i64 a0.Work.e1.Y), .d (.int .i64 a0.Work.e1.Z), .d (.int .i64 a0.Work.e2.X), .d (.int .i64 a0.Work.e2.Y), .d (.int .i64 a0.Work.e2.Z), .d (.int .i64 a0.Work.e3.X), .d (.int .i64 a0.Work.e3.Y), .d (.int .i64 a0.Work.e3.Z), .d (.int .i64 a0.Work.e4.X), .d (.int .i64 a0.Work.e4.Y), .d (.int .i64 a0.Work.e4.Z), .d (.int .i64 a0.Work.e5.X), .d (.int .i64 a0.Work.e5.Y), .d (.int .i64 a0.Work.e5.Z), .d (.list (List.map encTableLength a0.Lengths))], .d (.int .i64 a1), .d (.int .i64 a2), .agg [.d (.int .i64 a3.X), .d (.int .i64 a3.Y), .d (.int .i64 a3.Z)]] (.tuple [.agg [.d (.int .i64 y.1.X), .d (.int .i64 y.1.Y), .d (.int .i64 y.1.Z)], .d (.int .i64 y.2)]) := by
  refine spec_mir Tryd.func55 rfl (by kernel_rfl) (by kernel_rfl) (fun y : ApiPos × Int => .tuple [.agg [.d (.int .i64 y.1.X), .d (.int .i64 y.1.Y), .d (.int .i64 y.1.Z)], .d (.int .i64 y.2)]) ?_ h
  unfold tb_Machine
  simp only [List.replicate, List.length, nS, nA, Tryd.ntmps55, SV]
  refine Mir.seqK ?_
  refine Mir.region fun e h => ?_
  simp only [↓reduceIte, reduceCtorEq, nA, nS, nM, nE, nL, nT, nB, iT, iN, iE, and_self, SR, SV, zero_24, encTableLength]
  refine Mir.use (e := e) ?_ h
  refine Mir.seqK ?_
  refine Mir.bind fun y101 hy1 => ?_
  refine Mir.region fun e h => ?_
  simp only [↓reduceIte, reduceCtorEq, nA, nS, nM, nE, nL, nT, nB, iT, iN, iE, and_self, SR, SV, ag_54, sz_54, encTableLength]
  refine SpecS.by (tb_offset_spec hy1) (by simp only [↓reduceIte, reduceCtorEq, nA, nE, nL, and_self, and_true, true_and, SL, encTableLength]) ?_
  simp only [↓reduceIte, reduceCtorEq, nA, nS, nM, nE, nL, nT, nB, iT, iN, iE, and_self, SR, SV, zero_24, sz_24, encTableLength]
  refine Mir.use (e := e) ?_ h
  refine Mir.seqK ?_
  refine Mir.seqK ?_
  refine Mir.region fun e h => ?_
  simp only [↓reduceIte, reduceCtorEq, nA, nS, nM, nE, nL, nT, nB, iT, iN, iE, and_self, SR, SV, encTableLength]
  refine Mir.use (e := e) ?_ h
  refine Mir.cond rfl (fun hb3 => ?_) (fun hb3 => ?_)
  ·refine Mir.seqK ?_
   refine Mir.region fun e h => ?_
   simp only [↓reduceIte, reduceCtorEq, nA, nS, nM, nE, nL, nT, nB, iT, iN, iE, and_self, SR, SV, zero_24, pl_24, sz_24, encTableLength]
   refine Mir.use (e := e) ?_ h
   refine Mir.ret fun e h => ?_
   cases h
   simp only [↓reduceIte, reduceCtorEq, nA, nE, nL, and_self, and_true, true_and, SL, encTableLength, Tryd.results55, ag_24, sz_24]
  ·refine Mir.skip ?_
   refine Mir.toK ?_
   refine Mir.seqK ?_
   refine Mir.bind fun y102 hy4 => ?_
   refine Mir.region fun e h => ?_
   simp only [↓reduceIte, reduceCtorEq, nA, nS, nM, nE, nL, nT, nB, iT, iN, iE, and_self, SR, SV, ag_24, sz_24, encTableLength]
   refine SpecS.by (tb_moved_spec hy4) (by simp only [↓reduceIte, reduceCtorEq, nA, nE, nL, and_self, and_true, true_and, SL, encTableLength]) ?_
   simp only [↓reduceIte, reduceCtorEq, nA, nS, nM, nE, nL, nT, nB, iT, iN, iE, and_self, SR, SV, sz_24, encTableLength]
   refine Mir.use (e := e) ?_ h
   refine Mir.ret fun e h => ?_
   cases h
   simp only [↓reduceIte, reduceCtorEq, nA, nE, nL, and_self, and_true, true_and, SL, encTableLength, Tryd.results55, ag_24, sz_24]

def inp_Step (a0 : ModalState) (a1 : CycleCycle) (a2 : ApiBlock) (a3 : TableTable) (a4 : ApiPos) : Option ((List ApiMotion) × ModalState × CycleCycle × Int) :=
  bindO (inp_checked a3 a4) fun (y101 : Int) =>
  if (y101 != 0) = true then
    bindO (some ()) fun (v103 : Unit) =>
    some ([], ModalState.mk 0 0 0 0 0 0 0 0, CycleCycle.mk 0 0 0 0 0 0 false, y101)
  else
    bindO (bindO (bk_Valid a2) fun (y104 : Int) =>
        if (y104 != 0) = true then
          some true
        else
          bindO (md_Check a2) fun (y105 : Int) =>
          if (y105 != 0) = true then
            some true
          else
            bindO (inp_known a2) fun (y106 : Bool) =>
            some (!y106)) fun (v107 : Bool) =>
    if v107 = true then
      bindO (some ()) fun (v109 : Unit) =>
      some ([], ModalState.mk 0 0 0 0 0 0 0 0, CycleCycle.mk 0 0 0 0 0 0 false, 1)
    else
      bindO (md_Apply a0 a2) fun (y110 : ModalState × Int) =>
      if (y110.2 != 0) = true then
        bindO (some ()) fun (v112 : Unit) =>
        some ([], ModalState.mk 0 0 0 0 0 0 0 0, CycleCycle.mk 0 0 0 0 0 0 false, y110.2)
      else
        bindO (inp_cycles y110.1.Motion) fun (y113 : Bool) =>
        bindO (if (!y113) = true then
              some (CycleCycle.mk 0 0 0 0 0 0 false)
            else
              some (CycleCycle.mk a1.Code a1.R a1.Z a1.Q a1.Rate a1.Initial a1.High)) fun (v114 : CycleCycle) =>
        bindO (inp_has a2 [88, 89, 90, 73, 74, 81, 82]) fun (y115 : Bool) =>
        if (!y115) = true then
          some ([], y110.1, v114, 0)
        else
          bindO (bindO (inp_has a2 [73, 74]) fun (y116 : Bool) =>
              if y116 = true then
                if (y110.1.Motion != 2000) = true then
                  if (y110.1.Motion != 3000) = true then
                    some true
                  else
                    bindO (inp_has a2 [81, 82]) fun (y117 : Bool) =>
                    if y117 = true then
                      bindO (inp_cycles y110.1.Motion) fun (y118 : Bool) =>
                      some (!y118)
                    else
                      some false
                else
                  bindO (inp_has a2 [81, 82]) fun (y119 : Bool) =>
                  if y119 = true then
                    bindO (inp_cycles y110.1.Motion) fun (y120 : Bool) =>
                    some (!y120)
                  else
                    some false
              else
                bindO (inp_has a2 [81, 82]) fun (y121 : Bool) =>
                if y121 = true then
                  bindO (inp_cycles y110.1.Motion) fun (y122 : Bool) =>
                  some (!y122)
                else
                  some false) fun (v123 : Bool) =>
          if v123 = true then
            bindO (some ()) fun (v125 : Unit) =>
            some ([], ModalState.mk 0 0 0 0 0 0 0 0, CycleCycle.mk 0 0 0 0 0 0 false, 1)
          else
            if ((y110.1.Motion == 80000) || ((y110.1.Motion != 0) && (decide (y110.1.Feed ≤ 0)))) = true then
              bindO (some ()) fun (v127 : Unit) =>
              some ([], ModalState.mk 0 0 0 0 0 0 0 0, CycleCycle.mk 0 0 0 0 0 0 false, 13)
            else
              bindO (if (y110.1.Length == 43000) = true then
                    some (IntKind.i64.wrap (Int.tdiv y110.1.Offset 1000))
                  else
                    some 0) fun (v128 : Int) =>
              bindO (tb_Work (TableTable.mk a3.Work a3.Lengths) y110.1.Work v128 a4) fun (y129 : ApiPos × Int) =>
              if (y129.2 != 0) = true then
                bindO (some ()) fun (v131 : Unit) =>
                some ([], ModalState.mk 0 0 0 0 0 0 0 0, CycleCycle.mk 0 0 0 0 0 0 false, y129.2)
              else
                bindO (inp_positions y110.1 v114 (ApiBlock.mk a2.Skip a2.Words a2.Comment) y129.1) fun (y132 : (List InterpreterReached) × CycleCycle × Int) =>
                if (y132.2.2 != 0) = true then
                  bindO (some ()) fun (v134 : Unit) =>
                  some ([], ModalState.mk 0 0 0 0 0 0 0 0, CycleCycle.mk 0 0 0 0 0 0 false, y132.2.2)
                else
                  bindX (guardO (okIdx y132.1) (
                      rangeX (fun (i274 : Nat) (e276 : InterpreterReached) (v275 : (List ApiMotion) × ApiPos) =>
                        bindO (tb_Machine (TableTable.mk a3.Work a3.Lengths) y110.1.Work v128 e276.at_) fun (y281 : ApiPos × Int) =>
                        if (y281.2 != 0) = true then
                          bindO (some ()) fun (v283 : Unit) =>
                          some (.ret (.ret ([], ModalState.mk 0 0 0 0 0 0 0 0, CycleCycle.mk 0 0 0 0 0 0 false, y281.2)))
                        else
                          bindO (if (!((y281.1.X == v275.2.X) && ((y281.1.Y == v275.2.Y) && (y281.1.Z == v275.2.Z)))) = true then
                                guardO (okLen (v275.1.length + 1)) (
                                some (v275.1 ++ [ApiMotion.mk v275.2 y281.1 e276.rate (IntKind.i64.wrap (Int.tdiv y110.1.Tool 1000)) 0]))
                              else
                                some v275.1) fun (v284 : (List ApiMotion)) =>
                          some (.go (v284, y281.1))) (fun (v275 : (List ApiMotion) × ApiPos) => some (.go (v275.1, v275.2))) y132.1 0 ([], a4))) fun (v238 : (List ApiMotion) × ApiPos) =>
                  some (v238.1, y110.1, y132.2.1, 0)
set_option maxHeartbeats 8000000 in
theorem inp_Step_specX {a0 : ModalState} {a1 : CycleCycle} {a2 : ApiBlock} {a3 : TableTable} {a4 : ApiPos} {y : (List ApiMotion) × ModalState × CycleCycle × Int} (h : inp_Step a0 a1 a2 a3 a4 = some y) : SpecX gP 21 [.agg [.d (.int .i64 a0.Motion), .d (.int .i64 a0.Distance), .d (.int .i64 a0.Work), .d (.int .i64 a0.Length), .d (.int .i64 a0.Return), .d (.int .i64 a0.Feed), .d (.int .i64 a0.Tool), .d (.int .i64 a0.Offset)], .agg [.d (.int .i64 a1.Code), .d (.int .i64 a1.R), .d (.int .i64 a1.Z), .d (.int .i64 a1.Q), .d (.int .i64 a1.Rate), .d (.int .i64 a1.Initial), .d (.bool a1.High)], .agg [.d (.bool a2.Skip), .d (.list (List.map encApiWord a2.Words)), .d (.str a2.Comment)], .agg [.d (.int .i64 a3.Work.e0.X), .d (.int .i64 a3.Work.e0.Y), .d (.int .i64 a3.Work.e0.Z), .d (.int .i64 a3.Work.e1.X), .d (.int .i64 a3.Work.e1.Y), .d (.int .i64 a3.Work.e1.Z), .d (.int .i64 a3.Work.e2.X), .d (.int .i64 a3.Work.e2.Y), .d (.int .i64 a3.Work.e2.Z), .d (.int .i64 a3.Work.e3.X), .d (.int .i64 a3.Work.e3.Y), .d (.int .i64 a3.Work.e3.Z), .d (.int .i64 a3.Work.e4.X), .d (.int .i64 a3.Work.e4.Y), .d (.int .i64 a3.Work.e4.Z), .d (.int .i64 a3.Work.e5.X), .d (.int .i64 a3.Work.e5.Y), .d (.int .i64 a3.Work.e5.Z), .d (.list (List.map encTableLength a3.Lengths))], .agg [.d (.int .i64 a4.X), .d (.int .i64 a4.Y), .d (.int .i64 a4.Z)]] 62 (List.map encApiMotion y.1) [.agg [.d (.int .i64 y.2.1.Motion), .d (.int .i64 y.2.1.Distance), .d (.int .i64 y.2.1.Work), .d (.int .i64 y.2.1.Length), .d (.int .i64 y.2.1.Return), .d (.int .i64 y.2.1.Feed), .d (.int .i64 y.2.1.Tool), .d (.int .i64 y.2.1.Offset)], .agg [.d (.int .i64 y.2.2.1.Code), .d (.int .i64 y.2.2.1.R), .d (.int .i64 y.2.2.1.Z), .d (.int .i64 y.2.2.1.Q), .d (.int .i64 y.2.2.1.Rate), .d (.int .i64 y.2.2.1.Initial), .d (.bool y.2.2.1.High)], .d (.int .i64 y.2.2.2)] := by
  refine specX_mir Tryd.func21 rfl (by kernel_rfl) (by kernel_rfl) (fun y : (List ApiMotion) × ModalState × CycleCycle × Int => List.map encApiMotion y.1) (fun y : (List ApiMotion) × ModalState × CycleCycle × Int => [.agg [.d (.int .i64 y.2.1.Motion), .d (.int .i64 y.2.1.Distance), .d (.int .i64 y.2.1.Work), .d (.int .i64 y.2.1.Length), .d (.int .i64 y.2.1.Return), .d (.int .i64 y.2.1.Feed), .d (.int .i64 y.2.1.Tool), .d (.int .i64 y.2.1.Offset)], .agg [.d (.int .i64 y.2.2.1.Code), .d (.int .i64 y.2.2.1.R), .d (.int .i64 y.2.2.1.Z), .d (.int .i64 y.2.2.1.Q), .d (.int .i64 y.2.2.1.Rate), .d (.int .i64 y.2.2.1.Initial), .d (.bool y.2.2.1.High)], .d (.int .i64 y.2.2.2)]) (sc_map (fun _ => rfl) _) (by rw [show Tryd.prog.cellsOf 62 = 9 from (by kernel_rfl)]; exact al_ApiMotion) rfl ?_ h
  unfold inp_Step
  simp only [List.replicate, List.length, nS, nA, Tryd.ntmps21, SV]
  refine Mir.seqK ?_
  refine Mir.region fun e h => ?_
  simp only [↓reduceIte, reduceCtorEq, nA, nS, nM, nE, nL, nT, nB, iT, iN, iE, and_self, SR, SV, zero_65, zero_68, encApiMotion, encApiWord, encInterpreterReached, encTableLength]
  refine Mir.use (e := e) ?_ h
  refine Mir.seqK ?_
  refine Mir.seqK ?_
  refine Mir.bind fun y101 hy1 => ?_
  refine Mir.region fun e h => ?_
  simp only [↓reduceIte, reduceCtorEq, nA, nS, nM, nE, nL, nT, nB, iT, iN, iE, and_self, SR, SV, ag_54, sz_54, ag_24, sz_24, encApiMotion, encApiWord, encInterpreterReached, encTableLength]
  refine SpecS.by (inp_checked_spec hy1) (by simp only [↓reduceIte, reduceCtorEq, nA, nE, nL, and_self, and_true, true_and, SL, encApiMotion, encApiWord, encInterpreterReached, encTableLength]) ?_
  simp only [↓reduceIte, reduceCtorEq, nA, nS, nM, nE, nL, nT, nB, iT, iN, iE, and_self, SR, SV, encApiMotion, encApiWord, encInterpreterReached, encTableLength]
  refine Mir.use (e := e) ?_ h
  refine Mir.seqK ?_
  refine Mir.region fun e h => ?_
  simp only [↓reduceIte, reduceCtorEq, nA, nS, nM, nE, nL, nT, nB, iT, iN, iE, and_self, SR, SV, encApiMotion, encApiWord, encInterpreterReached, encTableLength]
  refine Mir.use (e := e) ?_ h
  refine Mir.cond rfl (fun hb4 => ?_) (fun hb4 => ?_)
  ·refine Mir.seqK ?_
   refine Mir.bind fun v103 hv5 => ?_
   refine Mir.region fun e h => ?_
   simp only [↓reduceIte, reduceCtorEq, nA, nS, nM, nE, nL, nT, nB, iT, iN, iE, and_self, SR, SV, encApiWord, encTableLength]
   refine SpecS.inl Tryd.func46 rfl (by kernel_rfl) (by kernel_rfl) (fun v103 : Unit => .tuple [.nil, .agg [.d (.int .i64 0), .d (.int .i64 0), .d (.int .i64 0), .d (.int .i64 0), .d (.int .i64 0), .d (.int .i64 0), .d (.int .i64 0), .d (.int .i64 0)], .agg [.d (.int .i64 0), .d (.int .i64 0), .d (.int .i64 0), .d (.int .i64 0), .d (.int .i64 0), .d (.int .i64 0), .d (.bool false)], .d (.int .i64 y101)]) (fun v103 : Unit => ⟨[[.d (.int .i64 a0.Motion), .d (.int .i64 a0.Distance), .d (.int .i64 a0.Work), .d (.int .i64 a0.Length), .d (.int .i64 a0.Return), .d (.int .i64 a0.Feed), .d (.int .i64 a0.Tool), .d (.int .i64 a0.Offset)], [.d (.int .i64 a1.Code), .d (.int .i64 a1.R), .d (.int .i64 a1.Z), .d (.int .i64 a1.Q), .d (.int .i64 a1.Rate), .d (.int .i64 a1.Initial), .d (.bool a1.High)], [.d (.bool a2.Skip), .d (.list (List.map encApiWord a2.Words)), .d (.str a2.Comment)], [.d (.int .i64 a3.Work.e0.X), .d (.int .i64 a3.Work.e0.Y), .d (.int .i64 a3.Work.e0.Z), .d (.int .i64 a3.Work.e1.X), .d (.int .i64 a3.Work.e1.Y), .d (.int .i64 a3.Work.e1.Z), .d (.int .i64 a3.Work.e2.X), .d (.int .i64 a3.Work.e2.Y), .d (.int .i64 a3.Work.e2.Z), .d (.int .i64 a3.Work.e3.X), .d (.int .i64 a3.Work.e3.Y), .d (.int .i64 a3.Work.e3.Z), .d (.int .i64 a3.Work.e4.X), .d (.int .i64 a3.Work.e4.Y), .d (.int .i64 a3.Work.e4.Z), .d (.int .i64 a3.Work.e5.X), .d (.int .i64 a3.Work.e5.Y), .d (.int .i64 a3.Work.e5.Z), .d (.list (List.map encTableLength a3.Lengths))], [.d (.int .i64 a4.X), .d (.int .i64 a4.Y), .d (.int .i64 a4.Z)], [.d (.int .i64 0), .d (.int .i64 0), .d (.int .i64 0), .d (.int .i64 0), .d (.int .i64 0), .d (.int .i64 0), .d (.int .i64 0), .d (.int .i64 0)], [.d (.int .i64 0), .d (.int .i64 0), .d (.int .i64 0), .d (.int .i64 0), .d (.int .i64 0), .d (.int .i64 0), .d (.bool false)]], []⟩) hv5 rfl ?_ ?_
   ·simp only [List.replicate, List.length, nS, nA, Tryd.ntmps46, SV]
    refine Mir.seqK ?_
    refine Mir.region fun e h => ?_
    simp only [↓reduceIte, reduceCtorEq, nA, nS, nM, nE, nL, nT, nB, iT, iN, iE, and_self, SR, SV, zero_65, zero_68, encApiWord, encTableLength]
    refine Mir.use (e := e) ?_ h
    refine Mir.seqK ?_
    refine Mir.region fun e h => ?_
    simp only [↓reduceIte, reduceCtorEq, nA, nS, nM, nE, nL, nT, nB, iT, iN, iE, and_self, SR, SV, zero_65, pl_65, zero_68, pl_68, sz_65, sz_68, encApiWord, encTableLength]
    refine Mir.use (e := e) ?_ h
    refine Mir.ret fun e h => ?_
    cases h
    simp only [↓reduceIte, reduceCtorEq, nA, nE, nL, and_self, and_true, true_and, SL, encApiWord, encTableLength, Tryd.results46, ag_65, sz_65, ag_68, sz_68]
   simp only [↓reduceIte, reduceCtorEq, nA, nS, nM, nE, nL, nT, nB, iT, iN, iE, and_self, SR, SV, sz_65, sz_68, encApiWord, encTableLength]
   refine Mir.use (e := e) ?_ h
   refine Mir.ret fun e h => ?_
   cases h
   simp only [↓reduceIte, reduceCtorEq, nA, nE, nL, and_self, and_true, true_and, SL, encApiWord, encTableLength, Tryd.results21, ag_65, sz_65, ag_68, sz_68, fx_r, fx_n, xr_o, xr_n, rowT]
  ·refine Mir.skip ?_
   refine Mir.toK ?_
   refine Mir.seqK ?_
   refine Mir.seqK ?_
   refine Mir.joinO (fun v107 : Bool => [U, U, U, U, U, .ptr 0 0, .ptr 1 0, .ptr 2 0, .ptr 3 0, .ptr 4 0, U, .ptr 5 0, .ptr 6 0, U, U, U, U, U, U, U, U, U, U, U, U, U, U, U, U, U, U, U, U, U, U, U, U, U, U, U, U, U, U, U, U, U, U, .d (.bool v107), U, U, U, U, U, U, U, U, U, U, U, U, U, U, U, U, U, U, U, U, U, U, U, U, U, U, U, U, U, U, U, U, U, U, U, U, U, U, U, U, U, U, U, U, U, U, U, U, U, U, U, U, U, U, U, U, U, U, U, U, U, U, U, U, U, U, U, U, U, U, U, U, U, U, U, U, U, U, U, U, U, U, U, U, U, U, U, U, U, U, U, U, U, U, U, U, U, U, U, U, U, U, U, U, U, U, U, U, U, U, U, U, U, U, U, U, U, U, U, U, U, U, U, U, U, U, U, U, U, U, U, U, U, U, U, U, U, U, U, U, U, U, U, U, U, U, U, U, U, U, U, U, U, U, U, U, U]) (fun v107 : Bool => ⟨[[.d (.int .i64 a0.Motion), .d (.int .i64 a0.Distance), .d (.int .i64 a0.Work), .d (.int .i64 a0.Length), .d (.int .i64 a0.Return), .d (.int .i64 a0.Feed), .d (.int .i64 a0.Tool), .d (.int .i64 a0.Offset)], [.d (.int .i64 a1.Code), .d (.int .i64 a1.R), .d (.int .i64 a1.Z), .d (.int .i64 a1.Q), .d (.int .i64 a1.Rate), .d (.int .i64 a1.Initial), .d (.bool a1.High)], [.d (.bool a2.Skip), .d (.list (List.map encApiWord a2.Words)), .d (.str a2.Comment)], [.d (.int .i64 a3.Work.e0.X), .d (.int .i64 a3.Work.e0.Y), .d (.int .i64 a3.Work.e0.Z), .d (.int .i64 a3.Work.e1.X), .d (.int .i64 a3.Work.e1.Y), .d (.int .i64 a3.Work.e1.Z), .d (.int .i64 a3.Work.e2.X), .d (.int .i64 a3.Work.e2.Y), .d (.int .i64 a3.Work.e2.Z), .d (.int .i64 a3.Work.e3.X), .d (.int .i64 a3.Work.e3.Y), .d (.int .i64 a3.Work.e3.Z), .d (.int .i64 a3.Work.e4.X), .d (.int .i64 a3.Work.e4.Y), .d (.int .i64 a3.Work.e4.Z), .d (.int .i64 a3.Work.e5.X), .d (.int .i64 a3.Work.e5.Y), .d (.int .i64 a3.Work.e5.Z), .d (.list (List.map encTableLength a3.Lengths))], [.d (.int .i64 a4.X), .d (.int .i64 a4.Y), .d (.int .i64 a4.Z)], [.d (.int .i64 0), .d (.int .i64 0), .d (.int .i64 0), .d (.int .i64 0), .d (.int .i64 0), .d (.int .i64 0), .d (.int .i64 0), .d (.int .i64 0)], [.d (.int .i64 0), .d (.int .i64 0), .d (.int .i64 0), .d (.int .i64 0), .d (.int .i64 0), .d (.int .i64 0), .d (.bool false)]], []⟩) (fun _ => rfl) ?_ ?_
   ·refine Mir.bind fun y104 hy6 => ?_
    refine Mir.ite (fun hb7 => ?_) (fun hb7 => ?_)
    ·refine Mir.region fun e h => ?_
     simp only [↓reduceIte, reduceCtorEq, nA, nS, nM, nE, nL, nT, nB, iT, iN, iE, and_self, SR, SV, ag_42, sz_42, encApiWord, encTableLength, hb7]
     refine SpecS.by (bk_Valid_spec hy6) (by simp only [↓reduceIte, reduceCtorEq, nA, nE, nL, and_self, and_true, true_and, SL, encApiWord, encTableLength, hb7]) ?_
     simp only [↓reduceIte, reduceCtorEq, nA, nS, nM, nE, nL, nT, nB, iT, iN, iE, and_self, SR, SV, encApiWord, encTableLength, hb7]
     cases h
     simp only [↓reduceIte, reduceCtorEq, nA, nE, nL, and_self, and_true, true_and, SL, encApiWord, encTableLength, hb7]
    ·refine Mir.bind fun y105 hy8 => ?_
     refine Mir.ite (fun hb9 => ?_) (fun hb9 => ?_)
     ·refine Mir.region fun e h => ?_
      simp only [↓reduceIte, reduceCtorEq, nA, nS, nM, nE, nL, nT, nB, iT, iN, iE, and_self, SR, SV, ag_42, sz_42, encApiWord, encTableLength, hb7, hb9]
      refine SpecS.by (bk_Valid_spec hy6) (by simp only [↓reduceIte, reduceCtorEq, nA, nE, nL, and_self, and_true, true_and, SL, encApiWord, encTableLength, hb7, hb9]) ?_
      simp only [↓reduceIte, reduceCtorEq, nA, nS, nM, nE, nL, nT, nB, iT, iN, iE, and_self, SR, SV, ag_42, sz_42, encApiWord, encTableLength, hb7, hb9]
      refine SpecS.by (md_Check_spec hy8) (by simp only [↓reduceIte, reduceCtorEq, nA, nE, nL, and_self, and_true, true_and, SL, encApiWord, encTableLength, hb7, hb9]) ?_
      simp only [↓reduceIte, reduceCtorEq, nA, nS, nM, nE, nL, nT, nB, iT, iN, iE, and_self, SR, SV, encApiWord, encTableLength, hb7, hb9]
      cases h
      simp only [↓reduceIte, reduceCtorEq, nA, nE, nL, and_self, and_true, true_and, SL, encApiWord, encTableLength, hb7, hb9]
     ·refine Mir.bind fun y106 hy10 => ?_
      refine Mir.region fun e h => ?_
      simp only [↓reduceIte, reduceCtorEq, nA, nS, nM, nE, nL, nT, nB, iT, iN, iE, and_self, SR, SV, ag_42, sz_42, encApiWord, encTableLength, hb7, hb9]
      refine SpecS.by (bk_Valid_spec hy6) (by simp only [↓reduceIte, reduceCtorEq, nA, nE, nL, and_self, and_true, true_and, SL, encApiWord, encTableLength, hb7, hb9]) ?_
      simp only [↓reduceIte, reduceCtorEq, nA, nS, nM, nE, nL, nT, nB, iT, iN, iE, and_self, SR, SV, ag_42, sz_42, encApiWord, encTableLength, hb7, hb9]
      refine SpecS.by (md_Check_spec hy8) (by simp only [↓reduceIte, reduceCtorEq, nA, nE, nL, and_self, and_true, true_and, SL, encApiWord, encTableLength, hb7, hb9]) ?_
      simp only [↓reduceIte, reduceCtorEq, nA, nS, nM, nE, nL, nT, nB, iT, iN, iE, and_self, SR, SV, ag_42, sz_42, encApiWord, encTableLength, hb7, hb9]
      refine SpecS.by (inp_known_spec hy10) (by simp only [↓reduceIte, reduceCtorEq, nA, nE, nL, and_self, and_true, true_and, SL, encApiWord, encTableLength, hb7, hb9]) ?_
      simp only [↓reduceIte, reduceCtorEq, nA, nS, nM, nE, nL, nT, nB, iT, iN, iE, and_self, SR, SV, encApiWord, encTableLength, hb7, hb9]
      cases h
      simp only [↓reduceIte, reduceCtorEq, nA, nE, nL, and_self, and_true, true_and, SL, encApiWord, encTableLength, hb7, hb9]
   ·intro v107
    refine Mir.toK ?_
    refine Mir.cond rfl (fun hb13 => ?_) (fun hb13 => ?_)
    ·refine Mir.seqK ?_
     refine Mir.bind fun v109 hv14 => ?_
     refine Mir.region fun e h => ?_
     simp only [↓reduceIte, reduceCtorEq, nA, nS, nM, nE, nL, nT, nB, iT, iN, iE, and_self, SR, SV, encApiWord, encTableLength]
     refine SpecS.inl Tryd.func46 rfl (by kernel_rfl) (by kernel_rfl) (fun v109 : Unit => .tuple [.nil, .agg [.d (.int .i64 0), .d (.int .i64 0), .d (.int .i64 0), .d (.int .i64 0), .d (.int .i64 0), .d (.int .i64 0), .d (.int .i64 0), .d (.int .i64 0)], .agg [.d (.int .i64 0), .d (.int .i64 0), .d (.int .i64 0), .d (.int .i64 0), .d (.int .i64 0), .d (.int .i64 0), .d (.bool false)], .d (.int .i64 1)]) (fun v109 : Unit => ⟨[[.d (.int .i64 a0.Motion), .d (.int .i64 a0.Distance), .d (.int .i64 a0.Work), .d (.int .i64 a0.Length), .d (.int .i64 a0.Return), .d (.int .i64 a0.Feed), .d (.int .i64 a0.Tool), .d (.int .i64 a0.Offset)], [.d (.int .i64 a1.Code), .d (.int .i64 a1.R), .d (.int .i64 a1.Z), .d (.int .i64 a1.Q), .d (.int .i64 a1.Rate), .d (.int .i64 a1.Initial), .d (.bool a1.High)], [.d (.bool a2.Skip), .d (.list (List.map encApiWord a2.Words)), .d (.str a2.Comment)], [.d (.int .i64 a3.Work.e0.X), .d (.int .i64 a3.Work.e0.Y), .d (.int .i64 a3.Work.e0.Z), .d (.int .i64 a3.Work.e1.X), .d (.int .i64 a3.Work.e1.Y), .d (.int .i64 a3.Work.e1.Z), .d (.int .i64 a3.Work.e2.X), .d (.int .i64 a3.Work.e2.Y), .d (.int .i64 a3.Work.e2.Z), .d (.int .i64 a3.Work.e3.X), .d (.int .i64 a3.Work.e3.Y), .d (.int .i64 a3.Work.e3.Z), .d (.int .i64 a3.Work.e4.X), .d (.int .i64 a3.Work.e4.Y), .d (.int .i64 a3.Work.e4.Z), .d (.int .i64 a3.Work.e5.X), .d (.int .i64 a3.Work.e5.Y), .d (.int .i64 a3.Work.e5.Z), .d (.list (List.map encTableLength a3.Lengths))], [.d (.int .i64 a4.X), .d (.int .i64 a4.Y), .d (.int .i64 a4.Z)], [.d (.int .i64 0), .d (.int .i64 0), .d (.int .i64 0), .d (.int .i64 0), .d (.int .i64 0), .d (.int .i64 0), .d (.int .i64 0), .d (.int .i64 0)], [.d (.int .i64 0), .d (.int .i64 0), .d (.int .i64 0), .d (.int .i64 0), .d (.int .i64 0), .d (.int .i64 0), .d (.bool false)]], []⟩) hv14 rfl ?_ ?_
     ·simp only [List.replicate, List.length, nS, nA, Tryd.ntmps46, SV]
      refine Mir.seqK ?_
      refine Mir.region fun e h => ?_
      simp only [↓reduceIte, reduceCtorEq, nA, nS, nM, nE, nL, nT, nB, iT, iN, iE, and_self, SR, SV, zero_65, zero_68, encApiWord, encTableLength]
      refine Mir.use (e := e) ?_ h
      refine Mir.seqK ?_
      refine Mir.region fun e h => ?_
      simp only [↓reduceIte, reduceCtorEq, nA, nS, nM, nE, nL, nT, nB, iT, iN, iE, and_self, SR, SV, zero_65, pl_65, zero_68, pl_68, sz_65, sz_68, encApiWord, encTableLength]
      refine Mir.use (e := e) ?_ h
      refine Mir.ret fun e h => ?_
      cases h
      simp only [↓reduceIte, reduceCtorEq, nA, nE, nL, and_self, and_true, true_and, SL, encApiWord, encTableLength, Tryd.results46, ag_65, sz_65, ag_68, sz_68]
     simp only [↓reduceIte, reduceCtorEq, nA, nS, nM, nE, nL, nT, nB, iT, iN, iE, and_self, SR, SV, sz_65, sz_68, encApiWord, encTableLength]
     refine Mir.use (e := e) ?_ h
     refine Mir.ret fun e h => ?_
     cases h
     simp only [↓reduceIte, reduceCtorEq, nA, nE, nL, and_self, and_true, true_and, SL, encApiWord, encTableLength, Tryd.results21, ag_65, sz_65, ag_68, sz_68, fx_r, fx_n, xr_o, xr_n, rowT]
    ·refine Mir.skip ?_
     refine Mir.toK ?_
     refine Mir.seqK ?_
     refine Mir.bind fun y110 hy15 => ?_
     refine Mir.region fun e h => ?_
     simp only [↓reduceIte, reduceCtorEq, nA, nS, nM, nE, nL, nT, nB, iT, iN, iE, and_self, SR, SV, ag_65, sz_65, ag_42, sz_42, encApiMotion, encApiWord, encInterpreterReached, encTableLength]
     refine SpecS.by (md_Apply_spec hy15) (by simp only [↓reduceIte, reduceCtorEq, nA, nE, nL, and_self, and_true, true_and, SL, encApiMotion, encApiWord, encInterpreterReached, encTableLength]) ?_
     simp only [↓reduceIte, reduceCtorEq, nA, nS, nM, nE, nL, nT, nB, iT, iN, iE, and_self, SR, SV, sz_65, encApiMotion, encApiWord, encInterpreterReached, encTableLength]
     refine Mir.use (e := e) ?_ h
     refine Mir.seqK ?_
     refine Mir.seqK ?_
     refine Mir.region fun e h => ?_
     simp only [↓reduceIte, reduceCtorEq, nA, nS, nM, nE, nL, nT, nB, iT, iN, iE, and_self, SR, SV, encApiMotion, encApiWord, encInterpreterReached, encTableLength]
     refine Mir.use (e := e) ?_ h
     refine Mir.cond rfl (fun hb18 => ?_) (fun hb18 => ?_)
     ·refine Mir.seqK ?_
      refine Mir.bind fun v112 hv19 => ?_
      refine Mir.region fun e h => ?_
      simp only [↓reduceIte, reduceCtorEq, nA, nS, nM, nE, nL, nT, nB, iT, iN, iE, and_self, SR, SV, encApiWord, encTableLength]
      refine SpecS.inl Tryd.func46 rfl (by kernel_rfl) (by kernel_rfl) (fun v112 : Unit => .tuple [.nil, .agg [.d (.int .i64 0), .d (.int .i64 0), .d (.int .i64 0), .d (.int .i64 0), .d (.int .i64 0), .d (.int .i64 0), .d (.int .i64 0), .d (.int .i64 0)], .agg [.d (.int .i64 0), .d (.int .i64 0), .d (.int .i64 0), .d (.int .i64 0), .d (.int .i64 0), .d (.int .i64 0), .d (.bool false)], .d (.int .i64 y110.2)]) (fun v112 : Unit => ⟨[[.d (.int .i64 y110.1.Motion), .d (.int .i64 y110.1.Distance), .d (.int .i64 y110.1.Work), .d (.int .i64 y110.1.Length), .d (.int .i64 y110.1.Return), .d (.int .i64 y110.1.Feed), .d (.int .i64 y110.1.Tool), .d (.int .i64 y110.1.Offset)], [.d (.int .i64 a1.Code), .d (.int .i64 a1.R), .d (.int .i64 a1.Z), .d (.int .i64 a1.Q), .d (.int .i64 a1.Rate), .d (.int .i64 a1.Initial), .d (.bool a1.High)], [.d (.bool a2.Skip), .d (.list (List.map encApiWord a2.Words)), .d (.str a2.Comment)], [.d (.int .i64 a3.Work.e0.X), .d (.int .i64 a3.Work.e0.Y), .d (.int .i64 a3.Work.e0.Z), .d (.int .i64 a3.Work.e1.X), .d (.int .i64 a3.Work.e1.Y), .d (.int .i64 a3.Work.e1.Z), .d (.int .i64 a3.Work.e2.X), .d (.int .i64 a3.Work.e2.Y), .d (.int .i64 a3.Work.e2.Z), .d (.int .i64 a3.Work.e3.X), .d (.int .i64 a3.Work.e3.Y), .d (.int .i64 a3.Work.e3.Z), .d (.int .i64 a3.Work.e4.X), .d (.int .i64 a3.Work.e4.Y), .d (.int .i64 a3.Work.e4.Z), .d (.int .i64 a3.Work.e5.X), .d (.int .i64 a3.Work.e5.Y), .d (.int .i64 a3.Work.e5.Z), .d (.list (List.map encTableLength a3.Lengths))], [.d (.int .i64 a4.X), .d (.int .i64 a4.Y), .d (.int .i64 a4.Z)], [.d (.int .i64 0), .d (.int .i64 0), .d (.int .i64 0), .d (.int .i64 0), .d (.int .i64 0), .d (.int .i64 0), .d (.int .i64 0), .d (.int .i64 0)], [.d (.int .i64 0), .d (.int .i64 0), .d (.int .i64 0), .d (.int .i64 0), .d (.int .i64 0), .d (.int .i64 0), .d (.bool false)]], []⟩) hv19 rfl ?_ ?_
      ·simp only [List.replicate, List.length, nS, nA, Tryd.ntmps46, SV]
       refine Mir.seqK ?_
       refine Mir.region fun e h => ?_
       simp only [↓reduceIte, reduceCtorEq, nA, nS, nM, nE, nL, nT, nB, iT, iN, iE, and_self, SR, SV, zero_65, zero_68, encApiWord, encTableLength]
       refine Mir.use (e := e) ?_ h
       refine Mir.seqK ?_
       refine Mir.region fun e h => ?_
       simp only [↓reduceIte, reduceCtorEq, nA, nS, nM, nE, nL, nT, nB, iT, iN, iE, and_self, SR, SV, zero_65, pl_65, zero_68, pl_68, sz_65, sz_68, encApiWord, encTableLength]
       refine Mir.use (e := e) ?_ h
       refine Mir.ret fun e h => ?_
       cases h
       simp only [↓reduceIte, reduceCtorEq, nA, nE, nL, and_self, and_true, true_and, SL, encApiWord, encTableLength, Tryd.results46, ag_65, sz_65, ag_68, sz_68]
      simp only [↓reduceIte, reduceCtorEq, nA, nS, nM, nE, nL, nT, nB, iT, iN, iE, and_self, SR, SV, sz_65, sz_68, encApiWord, encTableLength]
      refine Mir.use (e := e) ?_ h
      refine Mir.ret fun e h => ?_
      cases h
      simp only [↓reduceIte, reduceCtorEq, nA, nE, nL, and_self, and_true, true_and, SL, encApiWord, encTableLength, Tryd.results21, ag_65, sz_65, ag_68, sz_68, fx_r, fx_n, xr_o, xr_n, rowT]
     ·refine Mir.skip ?_
      refine Mir.toK ?_
      refine Mir.seqK ?_
      refine Mir.seqK ?_
      refine Mir.bind fun y113 hy20 => ?_
      refine Mir.region fun e h => ?_
      simp only [↓reduceIte, reduceCtorEq, nA, nS, nM, nE, nL, nT, nB, iT, iN, iE, and_self, SR, SV, fld_65_0, sz_2, ag_2, encApiMotion, encApiWord, encInterpreterReached, encTableLength]
      refine SpecS.by (inp_cycles_spec hy20) (by simp only [↓reduceIte, reduceCtorEq, nA, nE, nL, and_self, and_true, true_and, SL, encApiMotion, encApiWord, encInterpreterReached, encTableLength]) ?_
      simp only [↓reduceIte, reduceCtorEq, nA, nS, nM, nE, nL, nT, nB, iT, iN, iE, and_self, SR, SV, encApiMotion, encApiWord, encInterpreterReached, encTableLength]
      refine Mir.use (e := e) ?_ h
      refine Mir.joinO (fun v114 : CycleCycle => [U, U, U, U, U, .ptr 0 0, .ptr 1 0, .ptr 2 0, .ptr 3 0, .ptr 4 0, U, .ptr 5 0, .ptr 6 0, U, U, U, U, U, U, U, U, U, U, U, U, U, U, U, U, U, U, U, U, U, U, U, U, U, U, U, U, U, U, U, U, U, U, U, U, U, U, U, U, U, U, U, U, U, U, U, U, U, U, U, U, U, U, U, U, U, U, U, U, U, U, U, U, U, U, U, U, U, U, U, U, U, U, U, U, U, U, U, U, U, U, U, U, U, U, U, U, U, U, U, U, U, U, U, U, U, U, U, U, U, U, U, U, U, U, U, U, U, U, U, U, U, U, U, U, U, U, U, U, U, U, U, U, U, U, U, U, U, U, U, U, U, U, U, U, U, U, U, U, U, U, U, U, U, U, U, U, U, U, U, U, U, U, U, U, U, U, U, U, U, U, U, U, U, U, U, U, U, U, U, U, U, U, U, U, U, U, U, U, U, U, U, U, U, U, U, U, U, U, U, U]) (fun v114 : CycleCycle => ⟨[[.d (.int .i64 y110.1.Motion), .d (.int .i64 y110.1.Distance), .d (.int .i64 y110.1.Work), .d (.int .i64 y110.1.Length), .d (.int .i64 y110.1.Return), .d (.int .i64 y110.1.Feed), .d (.int .i64 y110.1.Tool), .d (.int .i64 y110.1.Offset)], [.d (.int .i64 v114.Code), .d (.int .i64 v114.R), .d (.int .i64 v114.Z), .d (.int .i64 v114.Q), .d (.int .i64 v114.Rate), .d (.int .i64 v114.Initial), .d (.bool v114.High)], [.d (.bool a2.Skip), .d (.list (List.map encApiWord a2.Words)), .d (.str a2.Comment)], [.d (.int .i64 a3.Work.e0.X), .d (.int .i64 a3.Work.e0.Y), .d (.int .i64 a3.Work.e0.Z), .d (.int .i64 a3.Work.e1.X), .d (.int .i64 a3.Work.e1.Y), .d (.int .i64 a3.Work.e1.Z), .d (.int .i64 a3.Work.e2.X), .d (.int .i64 a3.Work.e2.Y), .d (.int .i64 a3.Work.e2.Z), .d (.int .i64 a3.Work.e3.X), .d (.int .i64 a3.Work.e3.Y), .d (.int .i64 a3.Work.e3.Z), .d (.int .i64 a3.Work.e4.X), .d (.int .i64 a3.Work.e4.Y), .d (.int .i64 a3.Work.e4.Z), .d (.int .i64 a3.Work.e5.X), .d (.int .i64 a3.Work.e5.Y), .d (.int .i64 a3.Work.e5.Z), .d (.list (List.map encTableLength a3.Lengths))], [.d (.int .i64 a4.X), .d (.int .i64 a4.Y), .d (.int .i64 a4.Z)], [.d (.int .i64 0), .d (.int .i64 0), .d (.int .i64 0), .d (.int .i64 0), .d (.int .i64 0), .d (.int .i64 0), .d (.int .i64 0), .d (.int .i64 0)], [.d (.int .i64 0), .d (.int .i64 0), .d (.int .i64 0), .d (.int .i64 0), .d (.int .i64 0), .d (.int .i64 0), .d (.bool false)]], []⟩) (fun _ => rfl) ?_ ?_
      ·refine Mir.cond rfl (fun hb22 => ?_) (fun hb22 => ?_)
       ·refine Mir.region fun e h => ?_
        simp only [↓reduceIte, reduceCtorEq, nA, nS, nM, nE, nL, nT, nB, iT, iN, iE, and_self, SR, SV, zero_68, pl_68, sz_68, encApiWord, encTableLength]
        cases h
        simp only [↓reduceIte, reduceCtorEq, nA, nE, nL, and_self, and_true, true_and, SL, encApiWord, encTableLength, Tryd.results21, ag_65, sz_65, ag_68, sz_68]
       ·refine Mir.skip fun e h => ?_
        cases h
        simp only [↓reduceIte, reduceCtorEq, nA, nE, nL, and_self, and_true, true_and, SL, encApiWord, encTableLength, Tryd.results21, ag_65, sz_65, ag_68, sz_68]
      ·intro v114
       refine Mir.toK ?_
       refine Mir.seqK ?_
       refine Mir.seqK ?_
       refine Mir.bind fun y115 hy23 => ?_
       refine Mir.region fun e h => ?_
       simp only [↓reduceIte, reduceCtorEq, nA, nS, nM, nE, nL, nT, nB, iT, iN, iE, and_self, SR, SV, ag_42, sz_42, encApiMotion, encApiWord, encInterpreterReached, encTableLength]
       refine SpecS.by (inp_has_spec hy23) (by simp only [↓reduceIte, reduceCtorEq, nA, nE, nL, and_self, and_true, true_and, SL, encApiMotion, encApiWord, encInterpreterReached, encTableLength]) ?_
       simp only [↓reduceIte, reduceCtorEq, nA, nS, nM, nE, nL, nT, nB, iT, iN, iE, and_self, SR, SV, encApiMotion, encApiWord, encInterpreterReached, encTableLength]
       refine Mir.use (e := e) ?_ h
       refine Mir.cond rfl (fun hb25 => ?_) (fun hb25 => ?_)
       ·refine Mir.seqK ?_
        refine Mir.regionD [(6, 11)] (by kernel_rfl) fun e h => ?_
        simp only [↓reduceIte, reduceCtorEq, nA, nS, nM, nE, nL, nT, nB, iT, iN, iE, and_self, SR, SV, sepL_nil, sepL_cons, sepV_ne, sepV_d, sepV_i, true_and, Bool.and_self, ag_65, sz_65, ag_68, sz_68, encApiWord, encTableLength]
        refine Mir.use (e := e) ?_ h
        refine Mir.ret fun e h => ?_
        cases h
        simp only [↓reduceIte, reduceCtorEq, nA, nE, nL, and_self, and_true, true_and, SL, encApiWord, encTableLength, Tryd.results21, ag_65, sz_65, ag_68, sz_68, fx_r, fx_n, xr_o, xr_n, rowT]
       ·refine Mir.skip ?_
        refine Mir.toK ?_
        refine Mir.seqK ?_
        refine Mir.seqK ?_
        refine Mir.joinO (fun v123 : Bool => [U, U, U, U, U, .ptr 0 0, .ptr 1 0, .ptr 2 0, .ptr 3 0, .ptr 4 0, U, .ptr 5 0, .ptr 6 0, U, U, U, U, U, U, U, U, U, U, U, U, U, U, U, U, U, U, U, U, U, U, U, U, U, U, U, U, U, U, U, U, U, U, U, U, U, U, U, U, U, U, U, U, U, U, U, U, U, U, U, U, U, U, U, U, U, U, U, U, U, U, U, U, U, U, U, U, U, U, U, U, U, U, U, U, U, U, U, U, U, U, U, U, U, .d (.bool v123), U, U, U, U, U, U, U, U, U, U, U, U, U, U, U, U, U, U, U, U, U, U, U, U, U, U, U, U, U, U, U, U, U, U, U, U, U, U, U, U, U, U, U, U, U, U, U, U, U, U, U, U, U, U, U, U, U, U, U, U, U, U, U, U, U, U, U, U, U, U, U, U, U, U, U, U, U, U, U, U, U, U, U, U, U, U, U, U, U, U, U, U, U, U, U, U, U, U, U, U, U, U, U, U, U, U]) (fun v123 : Bool => ⟨[[.d (.int .i64 y110.1.Motion), .d (.int .i64 y110.1.Distance), .d (.int .i64 y110.1.Work), .d (.int .i64 y110.1.Length), .d (.int .i64 y110.1.Return), .d (.int .i64 y110.1.Feed), .d (.int .i64 y110.1.Tool), .d (.int .i64 y110.1.Offset)], [.d (.int .i64 v114.Code), .d (.int .i64 v114.R), .d (.int .i64 v114.Z), .d (.int .i64 v114.Q), .d (.int .i64 v114.Rate), .d (.int .i64 v114.Initial), .d (.bool v114.High)], [.d (.bool a2.Skip), .d (.list (List.map encApiWord a2.Words)), .d (.str a2.Comment)], [.d (.int .i64 a3.Work.e0.X), .d (.int .i64 a3.Work.e0.Y), .d (.int .i64 a3.Work.e0.Z), .d (.int .i64 a3.Work.e1.X), .d (.int .i64 a3.Work.e1.Y), .d (.int .i64 a3.Work.e1.Z), .d (.int .i64 a3.Work.e2.X), .d (.int .i64 a3.Work.e2.Y), .d (.int .i64 a3.Work.e2.Z), .d (.int .i64 a3.Work.e3.X), .d (.int .i64 a3.Work.e3.Y), .d (.int .i64 a3.Work.e3.Z), .d (.int .i64 a3.Work.e4.X), .d (.int .i64 a3.Work.e4.Y), .d (.int .i64 a3.Work.e4.Z), .d (.int .i64 a3.Work.e5.X), .d (.int .i64 a3.Work.e5.Y), .d (.int .i64 a3.Work.e5.Z), .d (.list (List.map encTableLength a3.Lengths))], [.d (.int .i64 a4.X), .d (.int .i64 a4.Y), .d (.int .i64 a4.Z)], [.d (.int .i64 0), .d (.int .i64 0), .d (.int .i64 0), .d (.int .i64 0), .d (.int .i64 0), .d (.int .i64 0), .d (.int .i64 0), .d (.int .i64 0)], [.d (.int .i64 0), .d (.int .i64 0), .d (.int .i64 0), .d (.int .i64 0), .d (.int .i64 0), .d (.int .i64 0), .d (.bool false)]], []⟩) (fun _ => rfl) ?_ ?_
        ·refine Mir.bind fun y116 hy26 => ?_
         refine Mir.ite (fun hb27 => ?_) (fun hb27 => ?_)
         ·refine Mir.ite (fun hb28 => ?_) (fun hb28 => ?_)
          ·refine Mir.ite (fun hb29 => ?_) (fun hb29 => ?_)
           ·refine Mir.region fun e h => ?_
            simp only [↓reduceIte, reduceCtorEq, nA, nS, nM, nE, nL, nT, nB, iT, iN, iE, and_self, SR, SV, ag_42, sz_42, encApiWord, encTableLength, hb27, hb28, hb29]
            refine SpecS.by (inp_has_spec hy26) (by simp only [↓reduceIte, reduceCtorEq, nA, nE, nL, and_self, and_true, true_and, SL, encApiWord, encTableLength, hb27, hb28, hb29]) ?_
            simp only [↓reduceIte, reduceCtorEq, nA, nS, nM, nE, nL, nT, nB, iT, iN, iE, and_self, SR, SV, fld_65_0, sz_2, ag_2, encApiWord, encTableLength, hb27, hb28, hb29]
            cases h
            simp only [↓reduceIte, reduceCtorEq, nA, nE, nL, and_self, and_true, true_and, SL, encApiWord, encTableLength, hb27, hb28, hb29]
           ·refine Mir.bind fun y117 hy30 => ?_
            refine Mir.ite (fun hb31 => ?_) (fun hb31 => ?_)
            ·refine Mir.bind fun y118 hy32 => ?_
             refine Mir.region fun e h => ?_
             simp only [↓reduceIte, reduceCtorEq, nA, nS, nM, nE, nL, nT, nB, iT, iN, iE, and_self, SR, SV, ag_42, sz_42, encApiWord, encTableLength, hb27, hb28, hb29, hb31]
             refine SpecS.by (inp_has_spec hy26) (by simp only [↓reduceIte, reduceCtorEq, nA, nE, nL, and_self, and_true, true_and, SL, encApiWord, encTableLength, hb27, hb28, hb29, hb31]) ?_
             simp only [↓reduceIte, reduceCtorEq, nA, nS, nM, nE, nL, nT, nB, iT, iN, iE, and_self, SR, SV, fld_65_0, sz_2, ag_2, ag_42, sz_42, encApiWord, encTableLength, hb27, hb28, hb29, hb31]
             refine SpecS.by (inp_has_spec hy30) (by simp only [↓reduceIte, reduceCtorEq, nA, nE, nL, and_self, and_true, true_and, SL, encApiWord, encTableLength, hb27, hb28, hb29, hb31]) ?_
             simp only [↓reduceIte, reduceCtorEq, nA, nS, nM, nE, nL, nT, nB, iT, iN, iE, and_self, SR, SV, fld_65_0, sz_2, ag_2, encApiWord, encTableLength, hb27, hb28, hb29, hb31]
             refine SpecS.by (inp_cycles_spec hy32) (by simp only [↓reduceIte, reduceCtorEq, nA, nE, nL, and_self, and_true, true_and, SL, encApiWord, encTableLength, hb27, hb28, hb29, hb31]) ?_
             simp only [↓reduceIte, reduceCtorEq, nA, nS, nM, nE, nL, nT, nB, iT, iN, iE, and_self, SR, SV, encApiWord, encTableLength, hb27, hb28, hb29, hb31]
             cases h
             simp only [↓reduceIte, reduceCtorEq, nA, nE, nL, and_self, and_true, true_and, SL, encApiWord, encTableLength, hb27, hb28, hb29, hb31]
            ·refine Mir.region fun e h => ?_
             simp only [↓reduceIte, reduceCtorEq, nA, nS, nM, nE, nL, nT, nB, iT, iN, iE, and_self, SR, SV, ag_42, sz_42, encApiWord, encTableLength, hb27, hb28, hb29, hb31]
             refine SpecS.by (inp_has_spec hy26) (by simp only [↓reduceIte, reduceCtorEq, nA, nE, nL, and_self, and_true, true_and, SL, encApiWord, encTableLength, hb27, hb28, hb29, hb31]) ?_
             simp only [↓reduceIte, reduceCtorEq, nA, nS, nM, nE, nL, nT, nB, iT, iN, iE, and_self, SR, SV, fld_65_0, sz_2, ag_2, ag_42, sz_42, encApiWord, encTableLength, hb27, hb28, hb29, hb31]
             refine SpecS.by (inp_has_spec hy30) (by simp only [↓reduceIte, reduceCtorEq, nA, nE, nL, and_self, and_true, true_and, SL, encApiWord, encTableLength, hb27, hb28, hb29, hb31]) ?_
             simp only [↓reduceIte, reduceCtorEq, nA, nS, nM, nE, nL, nT, nB, iT, iN, iE, and_self, SR, SV, encApiWord, encTableLength, hb27, hb28, hb29, hb31]
             cases h
             simp only [↓reduceIte, reduceCtorEq, nA, nE, nL, and_self, and_true, true_and, SL, encApiWord, encTableLength, hb27, hb28, hb29, hb31]
          ·refine Mir.bind fun y119 hy33 => ?_
           refine Mir.ite (fun hb34 => ?_) (fun hb34 => ?_)
           ·refine Mir.bind fun y120 hy35 => ?_
            refine Mir.region fun e h => ?_
            simp only [↓reduceIte, reduceCtorEq, nA, nS, nM, nE, nL, nT, nB, iT, iN, iE, and_self, SR, SV, ag_42, sz_42, encApiWord, encTableLength, hb27, hb28, hb34]
            refine SpecS.by (inp_has_spec hy26) (by simp only [↓reduceIte, reduceCtorEq, nA, nE, nL, and_self, and_true, true_and, SL, encApiWord, encTableLength, hb27, hb28, hb34]) ?_
            simp only [↓reduceIte, reduceCtorEq, nA, nS, nM, nE, nL, nT, nB, iT, iN, iE, and_self, SR, SV, fld_65_0, sz_2, ag_2, ag_42, sz_42, encApiWord, encTableLength, hb27, hb28, hb34]
            refine SpecS.by (inp_has_spec hy33) (by simp only [↓reduceIte, reduceCtorEq, nA, nE, nL, and_self, and_true, true_and, SL, encApiWord, encTableLength, hb27, hb28, hb34]) ?_
            simp only [↓reduceIte, reduceCtorEq, nA, nS, nM, nE, nL, nT, nB, iT, iN, iE, and_self, SR, SV, fld_65_0, sz_2, ag_2, encApiWord, encTableLength, hb27, hb28, hb34]
            refine SpecS.by (inp_cycles_spec hy35) (by simp only [↓reduceIte, reduceCtorEq, nA, nE, nL, and_self, and_true, true_and, SL, encApiWord, encTableLength, hb27, hb28, hb34]) ?_
            simp only [↓reduceIte, reduceCtorEq, nA, nS, nM, nE, nL, nT, nB, iT, iN, iE, and_self, SR, SV, encApiWord, encTableLength, hb27, hb28, hb34]
            cases h
            simp only [↓reduceIte, reduceCtorEq, nA, nE, nL, and_self, and_true, true_and, SL, encApiWord, encTableLength, hb27, hb28, hb34]
           ·refine Mir.region fun e h => ?_
            simp only [↓reduceIte, reduceCtorEq, nA, nS, nM, nE, nL, nT, nB, iT, iN, iE, and_self, SR, SV, ag_42, sz_42, encApiWord, encTableLength, hb27, hb28, hb34]
            refine SpecS.by (inp_has_spec hy26) (by simp only [↓reduceIte, reduceCtorEq, nA, nE, nL, and_self, and_true, true_and, SL, encApiWord, encTableLength, hb27, hb28, hb34]) ?_
            simp only [↓reduceIte, reduceCtorEq, nA, nS, nM, nE, nL, nT, nB, iT, iN, iE, and_self, SR, SV, fld_65_0, sz_2, ag_2, ag_42, sz_42, encApiWord, encTableLength, hb27, hb28, hb34]
            refine SpecS.by (inp_has_spec hy33) (by simp only [↓reduceIte, reduceCtorEq, nA, nE, nL, and_self, and_true, true_and, SL, encApiWord, encTableLength, hb27, hb28, hb34]) ?_
            simp only [↓reduceIte, reduceCtorEq, nA, nS, nM, nE, nL, nT, nB, iT, iN, iE, and_self, SR, SV, encApiWord, encTableLength, hb27, hb28, hb34]
            cases h
            simp only [↓reduceIte, reduceCtorEq, nA, nE, nL, and_self, and_true, true_and, SL, encApiWord, encTableLength, hb27, hb28, hb34]
         ·refine Mir.bind fun y121 hy36 => ?_
          refine Mir.ite (fun hb37 => ?_) (fun hb37 => ?_)
          ·refine Mir.bind fun y122 hy38 => ?_
           refine Mir.region fun e h => ?_
           simp only [↓reduceIte, reduceCtorEq, nA, nS, nM, nE, nL, nT, nB, iT, iN, iE, and_self, SR, SV, ag_42, sz_42, encApiWord, encTableLength, hb27, hb37]
           refine SpecS.by (inp_has_spec hy26) (by simp only [↓reduceIte, reduceCtorEq, nA, nE, nL, and_self, and_true, true_and, SL, encApiWord, encTableLength, hb27, hb37]) ?_
           simp only [↓reduceIte, reduceCtorEq, nA, nS, nM, nE, nL, nT, nB, iT, iN, iE, and_self, SR, SV, ag_42, sz_42, encApiWord, encTableLength, hb27, hb37]
           refine SpecS.by (inp_has_spec hy36) (by simp only [↓reduceIte, reduceCtorEq, nA, nE, nL, and_self, and_true, true_and, SL, encApiWord, encTableLength, hb27, hb37]) ?_
           simp only [↓reduceIte, reduceCtorEq, nA, nS, nM, nE, nL, nT, nB, iT, iN, iE, and_self, SR, SV, fld_65_0, sz_2, ag_2, encApiWord, encTableLength, hb27, hb37]
           refine SpecS.by (inp_cycles_spec hy38) (by simp only [↓reduceIte, reduceCtorEq, nA, nE, nL, and_self, and_true, true_and, SL, encApiWord, encTableLength, hb27, hb37]) ?_
           simp only [↓reduceIte, reduceCtorEq, nA, nS, nM, nE, nL, nT, nB, iT, iN, iE, and_self, SR, SV, encApiWord, encTableLength, hb27, hb37]
           cases h
           simp only [↓reduceIte, reduceCtorEq, nA, nE, nL, and_self, and_true, true_and, SL, encApiWord, encTableLength, hb27, hb37]
          ·refine Mir.region fun e h => ?_
           simp only [↓reduceIte, reduceCtorEq, nA, nS, nM, nE, nL, nT, nB, iT, iN, iE, and_self, SR, SV, ag_42, sz_42, encApiWord, encTableLength, hb27, hb37]
           refine SpecS.by (inp_has_spec hy26) (by simp only [↓reduceIte, reduceCtorEq, nA, nE, nL, and_self, and_true, true_and, SL, encApiWord, encTableLength, hb27, hb37]) ?_
           simp only [↓reduceIte, reduceCtorEq, nA, nS, nM, nE, nL, nT, nB, iT, iN, iE, and_self, SR, SV, ag_42, sz_42, encApiWord, encTableLength, hb27, hb37]
           refine SpecS.by (inp_has_spec hy36) (by simp only [↓reduceIte, reduceCtorEq, nA, nE, nL, and_self, and_true, true_and, SL, encApiWord, encTableLength, hb27, hb37]) ?_
           simp only [↓reduceIte, reduceCtorEq, nA, nS, nM, nE, nL, nT, nB, iT, iN, iE, and_self, SR, SV, encApiWord, encTableLength, hb27, hb37]
           cases h
           simp only [↓reduceIte, reduceCtorEq, nA, nE, nL, and_self, and_true, true_and, SL, encApiWord, encTableLength, hb27, hb37]
        ·intro v123
         refine Mir.toK ?_
         refine Mir.cond rfl (fun hb41 => ?_) (fun hb41 => ?_)
         ·refine Mir.seqK ?_
          refine Mir.bind fun v125 hv42 => ?_
          refine Mir.region fun e h => ?_
          simp only [↓reduceIte, reduceCtorEq, nA, nS, nM, nE, nL, nT, nB, iT, iN, iE, and_self, SR, SV, encApiWord, encTableLength]
          refine SpecS.inl Tryd.func46 rfl (by kernel_rfl) (by kernel_rfl) (fun v125 : Unit => .tuple [.nil, .agg [.d (.int .i64 0), .d (.int .i64 0), .d (.int .i64 0), .d (.int .i64 0), .d (.int .i64 0), .d (.int .i64 0), .d (.int .i64 0), .d (.int .i64 0)], .agg [.d (.int .i64 0), .d (.int .i64 0), .d (.int .i64 0), .d (.int .i64 0), .d (.int .i64 0), .d (.int .i64 0), .d (.bool false)], .d (.int .i64 1)]) (fun v125 : Unit => ⟨[[.d (.int .i64 y110.1.Motion), .d (.int .i64 y110.1.Distance), .d (.int .i64 y110.1.Work), .d (.int .i64 y110.1.Length), .d (.int .i64 y110.1.Return), .d (.int .i64 y110.1.Feed), .d (.int .i64 y110.1.Tool), .d (.int .i64 y110.1.Offset)], [.d (.int .i64 v114.Code), .d (.int .i64 v114.R), .d (.int .i64 v114.Z), .d (.int .i64 v114.Q), .d (.int .i64 v114.Rate), .d (.int .i64 v114.Initial), .d (.bool v114.High)], [.d (.bool a2.Skip), .d (.list (List.map encApiWord a2.Words)), .d (.str a2.Comment)], [.d (.int .i64 a3.Work.e0.X), .d (.int .i64 a3.Work.e0.Y), .d (.int .i64 a3.Work.e0.Z), .d (.int .i64 a3.Work.e1.X), .d (.int .i64 a3.Work.e1.Y), .d (.int .i64 a3.Work.e1.Z), .d (.int .i64 a3.Work.e2.X), .d (.int .i64 a3.Work.e2.Y), .d (.int .i64 a3.Work.e2.Z), .d (.int .i64 a3.Work.e3.X), .d (.int .i64 a3.Work.e3.Y), .d (.int .i64 a3.Work.e3.Z), .d (.int .i64 a3.Work.e4.X), .d (.int .i64 a3.Work.e4.Y), .d (.int .i64 a3.Work.e4.Z), .d (.int .i64 a3.Work.e5.X), .d (.int .i64 a3.Work.e5.Y), .d (.int .i64 a3.Work.e5.Z), .d (.list (List.map encTableLength a3.Lengths))], [.d (.int .i64 a4.X), .d (.int .i64 a4.Y), .d (.int .i64 a4.Z)], [.d (.int .i64 0), .d (.int .i64 0), .d (.int .i64 0), .d (.int .i64 0), .d (.int .i64 0), .d (.int .i64 0), .d (.int .i64 0), .d (.int .i64 0)], [.d (.int .i64 0), .d (.int .i64 0), .d (.int .i64 0), .d (.int .i64 0), .d (.int .i64 0), .d (.int .i64 0), .d (.bool false)]], []⟩) hv42 rfl ?_ ?_
          ·simp only [List.replicate, List.length, nS, nA, Tryd.ntmps46, SV]
           refine Mir.seqK ?_
           refine Mir.region fun e h => ?_
           simp only [↓reduceIte, reduceCtorEq, nA, nS, nM, nE, nL, nT, nB, iT, iN, iE, and_self, SR, SV, zero_65, zero_68, encApiWord, encTableLength]
           refine Mir.use (e := e) ?_ h
           refine Mir.seqK ?_
           refine Mir.region fun e h => ?_
           simp only [↓reduceIte, reduceCtorEq, nA, nS, nM, nE, nL, nT, nB, iT, iN, iE, and_self, SR, SV, zero_65, pl_65, zero_68, pl_68, sz_65, sz_68, encApiWord, encTableLength]
           refine Mir.use (e := e) ?_ h
           refine Mir.ret fun e h => ?_
           cases h
           simp only [↓reduceIte, reduceCtorEq, nA, nE, nL, and_self, and_true, true_and, SL, encApiWord, encTableLength, Tryd.results46, ag_65, sz_65, ag_68, sz_68]
          simp only [↓reduceIte, reduceCtorEq, nA, nS, nM, nE, nL, nT, nB, iT, iN, iE, and_self, SR, SV, sz_65, sz_68, encApiWord, encTableLength]
          refine Mir.use (e := e) ?_ h
          refine Mir.ret fun e h => ?_
          cases h
          simp only [↓reduceIte, reduceCtorEq, nA, nE, nL, and_self, and_true, true_and, SL, encApiWord, encTableLength, Tryd.results21, ag_65, sz_65, ag_68, sz_68, fx_r, fx_n, xr_o, xr_n, rowT]
         ·refine Mir.skip ?_
          refine Mir.toK ?_
          refine Mir.seqK ?_
          refine Mir.seqK ?_
          refine Mir.joinV [U, U, U, U, U, .ptr 0 0, .ptr 1 0, .ptr 2 0, .ptr 3 0, .ptr 4 0, U, .ptr 5 0, .ptr 6 0, U, U, U, U, U, U, U, U, U, U, U, U, U, U, U, U, U, U, U, U, U, U, U, U, U, U, U, U, U, U, U, U, U, U, U, U, U, U, U, U, U, U, U, U, U, U, U, U, U, U, U, U, U, U, U, U, U, U, U, U, U, U, U, U, U, U, U, U, U, U, U, U, U, U, U, U, U, U, U, U, U, U, U, U, U, U, U, U, U, U, U, U, U, U, U, U, U, U, U, U, U, U, U, .d (.bool ((y110.1.Motion == 80000) || ((y110.1.Motion != 0) && (decide (y110.1.Feed ≤ 0))))), U, U, U, U, U, U, U, U, U, U, U, U, U, U, U, U, U, U, U, U, U, U, U, U, U, U, U, U, U, U, U, U, U, U, U, U, U, U, U, U, U, U, U, U, U, U, U, U, U, U, U, U, U, U, U, U, U, U, U, U, U, U, U, U, U, U, U, U, U, U, U, U, U, U, U, U, U, U, U, U, U, U, U, U, U, U, U, U] ⟨[[.d (.int .i64 y110.1.Motion), .d (.int .i64 y110.1.Distance), .d (.int .i64 y110.1.Work), .d (.int .i64 y110.1.Length), .d (.int .i64 y110.1.Return), .d (.int .i64 y110.1.Feed), .d (.int .i64 y110.1.Tool), .d (.int .i64 y110.1.Offset)], [.d (.int .i64 v114.Code), .d (.int .i64 v114.R), .d (.int .i64 v114.Z), .d (.int .i64 v114.Q), .d (.int .i64 v114.Rate), .d (.int .i64 v114.Initial), .d (.bool v114.High)], [.d (.bool a2.Skip), .d (.list (List.map encApiWord a2.Words)), .d (.str a2.Comment)], [.d (.int .i64 a3.Work.e0.X), .d (.int .i64 a3.Work.e0.Y), .d (.int .i64 a3.Work.e0.Z), .d (.int .i64 a3.Work.e1.X), .d (.int .i64 a3.Work.e1.Y), .d (.int .i64 a3.Work.e1.Z), .d (.int .i64 a3.Work.e2.X), .d (.int .i64 a3.Work.e2.Y), .d (.int .i64 a3.Work.e2.Z), .d (.int .i64 a3.Work.e3.X), .d (.int .i64 a3.Work.e3.Y), .d (.int .i64 a3.Work.e3.Z), .d (.int .i64 a3.Work.e4.X), .d (.int .i64 a3.Work.e4.Y), .d (.int .i64 a3.Work.e4.Z), .d (.int .i64 a3.Work.e5.X), .d (.int .i64 a3.Work.e5.Y), .d (.int .i64 a3.Work.e5.Z), .d (.list (List.map encTableLength a3.Lengths))], [.d (.int .i64 a4.X), .d (.int .i64 a4.Y), .d (.int .i64 a4.Z)], [.d (.int .i64 0), .d (.int .i64 0), .d (.int .i64 0), .d (.int .i64 0), .d (.int .i64 0), .d (.int .i64 0), .d (.int .i64 0), .d (.int .i64 0)], [.d (.int .i64 0), .d (.int .i64 0), .d (.int .i64 0), .d (.int .i64 0), .d (.int .i64 0), .d (.int .i64 0), .d (.bool false)]], []⟩ rfl ?_ ?_
          ·refine SWs.region ?_
           rcases Bool.eq_false_or_eq_true (y110.1.Motion == 80000) with hb43 | hb43
           ·simp only [↓reduceIte, reduceCtorEq, nA, nS, nM, nE, nL, nT, nB, iT, iN, iE, and_self, SR, SV, SL, Bool.true_and, Bool.false_and, Bool.true_or, Bool.false_or, Bool.or_true, Bool.or_false, Bool.and_true, Bool.and_false, Bool.not_true, Bool.not_false, fld_65_0, sz_2, ag_2, hb43, encApiMotion, encApiWord, encInterpreterReached, encTableLength]
           ·rcases Bool.eq_false_or_eq_true (y110.1.Motion != 0) with hb44 | hb44
            ·simp only [↓reduceIte, reduceCtorEq, nA, nS, nM, nE, nL, nT, nB, iT, iN, iE, and_self, SR, SV, SL, Bool.true_and, Bool.false_and, Bool.true_or, Bool.false_or, Bool.or_true, Bool.or_false, Bool.and_true, Bool.and_false, Bool.not_true, Bool.not_false, fld_65_0, sz_2, ag_2, fld_65_5, hb43, hb44, encApiMotion, encApiWord, encInterpreterReached, encTableLength]
            ·simp only [↓reduceIte, reduceCtorEq, nA, nS, nM, nE, nL, nT, nB, iT, iN, iE, and_self, SR, SV, SL, Bool.true_and, Bool.false_and, Bool.true_or, Bool.false_or, Bool.or_true, Bool.or_false, Bool.and_true, Bool.and_false, Bool.not_true, Bool.not_false, fld_65_0, sz_2, ag_2, hb43, hb44, encApiMotion, encApiWord, encInterpreterReached, encTableLength]
          ·refine Mir.toK ?_
           refine Mir.cond rfl (fun hb47 => ?_) (fun hb47 => ?_)
           ·refine Mir.seqK ?_
            refine Mir.bind fun v127 hv48 => ?_
            refine Mir.region fun e h => ?_
            simp only [↓reduceIte, reduceCtorEq, nA, nS, nM, nE, nL, nT, nB, iT, iN, iE, and_self, SR, SV, encApiWord, encTableLength]
            refine SpecS.inl Tryd.func46 rfl (by kernel_rfl) (by kernel_rfl) (fun v127 : Unit => .tuple [.nil, .agg [.d (.int .i64 0), .d (.int .i64 0), .d (.int .i64 0), .d (.int .i64 0), .d (.int .i64 0), .d (.int .i64 0), .d (.int .i64 0), .d (.int .i64 0)], .agg [.d (.int .i64 0), .d (.int .i64 0), .d (.int .i64 0), .d (.int .i64 0), .d (.int .i64 0), .d (.int .i64 0), .d (.bool false)], .d (.int .i64 13)]) (fun v127 : Unit => ⟨[[.d (.int .i64 y110.1.Motion), .d (.int .i64 y110.1.Distance), .d (.int .i64 y110.1.Work), .d (.int .i64 y110.1.Length), .d (.int .i64 y110.1.Return), .d (.int .i64 y110.1.Feed), .d (.int .i64 y110.1.Tool), .d (.int .i64 y110.1.Offset)], [.d (.int .i64 v114.Code), .d (.int .i64 v114.R), .d (.int .i64 v114.Z), .d (.int .i64 v114.Q), .d (.int .i64 v114.Rate), .d (.int .i64 v114.Initial), .d (.bool v114.High)], [.d (.bool a2.Skip), .d (.list (List.map encApiWord a2.Words)), .d (.str a2.Comment)], [.d (.int .i64 a3.Work.e0.X), .d (.int .i64 a3.Work.e0.Y), .d (.int .i64 a3.Work.e0.Z), .d (.int .i64 a3.Work.e1.X), .d (.int .i64 a3.Work.e1.Y), .d (.int .i64 a3.Work.e1.Z), .d (.int .i64 a3.Work.e2.X), .d (.int .i64 a3.Work.e2.Y), .d (.int .i64 a3.Work.e2.Z), .d (.int .i64 a3.Work.e3.X), .d (.int .i64 a3.Work.e3.Y), .d (.int .i64 a3.Work.e3.Z), .d (.int .i64 a3.Work.e4.X), .d (.int .i64 a3.Work.e4.Y), .d (.int .i64 a3.Work.e4.Z), .d (.int .i64 a3.Work.e5.X), .d (.int .i64 a3.Work.e5.Y), .d (.int .i64 a3.Work.e5.Z), .d (.list (List.map encTableLength a3.Lengths))], [.d (.int .i64 a4.X), .d (.int .i64 a4.Y), .d (.int .i64 a4.Z)], [.d (.int .i64 0), .d (.int .i64 0), .d (.int .i64 0), .d (.int .i64 0), .d (.int .i64 0), .d (.int .i64 0), .d (.int .i64 0), .d (.int .i64 0)], [.d (.int .i64 0), .d (.int .i64 0), .d (.int .i64 0), .d (.int .i64 0), .d (.int .i64 0), .d (.int .i64 0), .d (.bool false)]], []⟩) hv48 rfl ?_ ?_
            ·simp only [List.replicate, List.length, nS, nA, Tryd.ntmps46, SV]
             refine Mir.seqK ?_
             refine Mir.region fun e h => ?_
             simp only [↓reduceIte, reduceCtorEq, nA, nS, nM, nE, nL, nT, nB, iT, iN, iE, and_self, SR, SV, zero_65, zero_68, encApiWord, encTableLength]
             refine Mir.use (e := e) ?_ h
             refine Mir.seqK ?_
             refine Mir.region fun e h => ?_
             simp only [↓reduceIte, reduceCtorEq, nA, nS, nM, nE, nL, nT, nB, iT, iN, iE, and_self, SR, SV, zero_65, pl_65, zero_68, pl_68, sz_65, sz_68, encApiWord, encTableLength]
             refine Mir.use (e := e) ?_ h
             refine Mir.ret fun e h => ?_
             cases h
             simp only [↓reduceIte, reduceCtorEq, nA, nE, nL, and_self, and_true, true_and, SL, encApiWord, encTableLength, Tryd.results46, ag_65, sz_65, ag_68, sz_68]
            simp only [↓reduceIte, reduceCtorEq, nA, nS, nM, nE, nL, nT, nB, iT, iN, iE, and_self, SR, SV, sz_65, sz_68, encApiWord, encTableLength]
            refine Mir.use (e := e) ?_ h
            refine Mir.ret fun e h => ?_
            cases h
            simp only [↓reduceIte, reduceCtorEq, nA, nE, nL, and_self, and_true, true_and, SL, encApiWord, encTableLength, Tryd.results21, ag_65, sz_65, ag_68, sz_68, fx_r, fx_n, xr_o, xr_n, rowT]
           ·refine Mir.skip ?_
            refine Mir.toK ?_
            refine Mir.seqK ?_
            refine Mir.region fun e h => ?_
            simp only [↓reduceIte, reduceCtorEq, nA, nS, nM, nE, nL, nT, nB, iT, iN, iE, and_self, SR, SV, encApiMotion, encApiWord, encInterpreterReached, encTableLength]
            refine Mir.use (e := e) ?_ h
            refine Mir.seqK ?_
            refine Mir.seqK ?_
            refine Mir.region fun e h => ?_
            simp only [↓reduceIte, reduceCtorEq, nA, nS, nM, nE, nL, nT, nB, iT, iN, iE, and_self, SR, SV, fld_65_3, sz_2, ag_2, encApiMotion, encApiWord, encInterpreterReached, encTableLength]
            refine Mir.use (e := e) ?_ h
            refine Mir.joinO (fun v128 : Int => [U, U, U, U, U, .ptr 0 0, .ptr 1 0, .ptr 2 0, .ptr 3 0, .ptr 4 0, U, .ptr 5 0, .ptr 6 0, U, U, U, .d (.int .i64 v128), U, U, U, U, U, U, U, U, U, U, U, U, U, U, U, U, U, U, U, U, U, U, U, U, U, U, U, U, U, U, U, U, U, U, U, U, U, U, U, U, U, U, U, U, U, U, U, U, U, U, U, U, U, U, U, U, U, U, U, U, U, U, U, U, U, U, U, U, U, U, U, U, U, U, U, U, U, U, U, U, U, U, U, U, U, U, U, U, U, U, U, U, U, U, U, U, U, U, U, U, U, U, U, U, U, U, U, U, U, U, U, U, U, U, U, U, U, U, U, U, U, U, U, U, U, U, U, U, U, U, U, U, U, U, U, U, U, U, U, U, U, U, U, U, U, U, U, U, U, U, U, U, U, U, U, U, U, U, U, U, U, U, U, U, U, U, U, U, U, U, U, U, U, U, U, U, U, U, U, U, U, U, U, U, U, U, U, U]) (fun v128 : Int => ⟨[[.d (.int .i64 y110.1.Motion), .d (.int .i64 y110.1.Distance), .d (.int .i64 y110.1.Work), .d (.int .i64 y110.1.Length), .d (.int .i64 y110.1.Return), .d (.int .i64 y110.1.Feed), .d (.int .i64 y110.1.Tool), .d (.int .i64 y110.1.Offset)], [.d (.int .i64 v114.Code), .d (.int .i64 v114.R), .d (.int .i64 v114.Z), .d (.int .i64 v114.Q), .d (.int .i64 v114.Rate), .d (.int .i64 v114.Initial), .d (.bool v114.High)], [.d (.bool a2.Skip), .d (.list (List.map encApiWord a2.Words)), .d (.str a2.Comment)], [.d (.int .i64 a3.Work.e0.X), .d (.int .i64 a3.Work.e0.Y), .d (.int .i64 a3.Work.e0.Z), .d (.int .i64 a3.Work.e1.X), .d (.int .i64 a3.Work.e1.Y), .d (.int .i64 a3.Work.e1.Z), .d (.int .i64 a3.Work.e2.X), .d (.int .i64 a3.Work.e2.Y), .d (.int .i64 a3.Work.e2.Z), .d (.int .i64 a3.Work.e3.X), .d (.int .i64 a3.Work.e3.Y), .d (.int .i64 a3.Work.e3.Z), .d (.int .i64 a3.Work.e4.X), .d (.int .i64 a3.Work.e4.Y), .d (.int .i64 a3.Work.e4.Z), .d (.int .i64 a3.Work.e5.X), .d (.int .i64 a3.Work.e5.Y), .d (.int .i64 a3.Work.e5.Z), .d (.list (List.map encTableLength a3.Lengths))], [.d (.int .i64 a4.X), .d (.int .i64 a4.Y), .d (.int .i64 a4.Z)], [.d (.int .i64 0), .d (.int .i64 0), .d (.int .i64 0), .d (.int .i64 0), .d (.int .i64 0), .d (.int .i64 0), .d (.int .i64 0), .d (.int .i64 0)], [.d (.int .i64 0), .d (.int .i64 0), .d (.int .i64 0), .d (.int .i64 0), .d (.int .i64 0), .d (.int .i64 0), .d (.bool false)]], []⟩) (fun _ => rfl) ?_ ?_
            ·refine Mir.cond rfl (fun hb50 => ?_) (fun hb50 => ?_)
             ·refine Mir.region fun e h => ?_
              simp only [↓reduceIte, reduceCtorEq, nA, nS, nM, nE, nL, nT, nB, iT, iN, iE, and_self, SR, SV, fld_65_7, sz_2, ag_2, encApiWord, encTableLength]
              cases h
              simp only [↓reduceIte, reduceCtorEq, nA, nE, nL, and_self, and_true, true_and, SL, encApiWord, encTableLength, Tryd.results21, ag_65, sz_65, ag_68, sz_68]
             ·refine Mir.skip fun e h => ?_
              cases h
              simp only [↓reduceIte, reduceCtorEq, nA, nE, nL, and_self, and_true, true_and, SL, encApiWord, encTableLength, Tryd.results21, ag_65, sz_65, ag_68, sz_68]
            ·intro v128
             refine Mir.toK ?_
             refine Mir.seqK ?_
             refine Mir.bind fun y129 hy51 => ?_
             refine Mir.region fun e h => ?_
             simp only [↓reduceIte, reduceCtorEq, nA, nS, nM, nE, nL, nT, nB, iT, iN, iE, and_self, SR, SV, ag_54, sz_54, fld_65_2, sz_2, ag_2, ag_24, sz_24, encApiMotion, encApiWord, encInterpreterReached, encTableLength]
             refine SpecS.by (tb_Work_spec hy51) (by simp only [↓reduceIte, reduceCtorEq, nA, nE, nL, and_self, and_true, true_and, SL, encApiMotion, encApiWord, encInterpreterReached, encTableLength]) ?_
             simp only [↓reduceIte, reduceCtorEq, nA, nS, nM, nE, nL, nT, nB, iT, iN, iE, and_self, SR, SV, zero_24, sz_24, encApiMotion, encApiWord, encInterpreterReached, encTableLength]
             refine Mir.use (e := e) ?_ h
             refine Mir.seqK ?_
             refine Mir.seqK ?_
             refine Mir.region fun e h => ?_
             simp only [↓reduceIte, reduceCtorEq, nA, nS, nM, nE, nL, nT, nB, iT, iN, iE, and_self, SR, SV, encApiMotion, encApiWord, encInterpreterReached, encTableLength]
             refine Mir.use (e := e) ?_ h
             refine Mir.cond rfl (fun hb54 => ?_) (fun hb54 => ?_)
             ·refine Mir.seqK ?_
              refine Mir.bind fun v131 hv55 => ?_
              refine Mir.region fun e h => ?_
              simp only [↓reduceIte, reduceCtorEq, nA, nS, nM, nE, nL, nT, nB, iT, iN, iE, and_self, SR, SV, encApiWord, encTableLength]
              refine SpecS.inl Tryd.func46 rfl (by kernel_rfl) (by kernel_rfl) (fun v131 : Unit => .tuple [.nil, .agg [.d (.int .i64 0), .d (.int .i64 0), .d (.int .i64 0), .d (.int .i64 0), .d (.int .i64 0), .d (.int .i64 0), .d (.int .i64 0), .d (.int .i64 0)], .agg [.d (.int .i64 0), .d (.int .i64 0), .d (.int .i64 0), .d (.int .i64 0), .d (.int .i64 0), .d (.int .i64 0), .d (.bool false)], .d (.int .i64 y129.2)]) (fun v131 : Unit => ⟨[[.d (.int .i64 y110.1.Motion), .d (.int .i64 y110.1.Distance), .d (.int .i64 y110.1.Work), .d (.int .i64 y110.1.Length), .d (.int .i64 y110.1.Return), .d (.int .i64 y110.1.Feed), .d (.int .i64 y110.1.Tool), .d (.int .i64 y110.1.Offset)], [.d (.int .i64 v114.Code), .d (.int .i64 v114.R), .d (.int .i64 v114.Z), .d (.int .i64 v114.Q), .d (.int .i64 v114.Rate), .d (.int .i64 v114.Initial), .d (.bool v114.High)], [.d (.bool a2.Skip), .d (.list (List.map encApiWord a2.Words)), .d (.str a2.Comment)], [.d (.int .i64 a3.Work.e0.X), .d (.int .i64 a3.Work.e0.Y), .d (.int .i64 a3.Work.e0.Z), .d (.int .i64 a3.Work.e1.X), .d (.int .i64 a3.Work.e1.Y), .d (.int .i64 a3.Work.e1.Z), .d (.int .i64 a3.Work.e2.X), .d (.int .i64 a3.Work.e2.Y), .d (.int .i64 a3.Work.e2.Z), .d (.int .i64 a3.Work.e3.X), .d (.int .i64 a3.Work.e3.Y), .d (.int .i64 a3.Work.e3.Z), .d (.int .i64 a3.Work.e4.X), .d (.int .i64 a3.Work.e4.Y), .d (.int .i64 a3.Work.e4.Z), .d (.int .i64 a3.Work.e5.X), .d (.int .i64 a3.Work.e5.Y), .d (.int .i64 a3.Work.e5.Z), .d (.list (List.map encTableLength a3.Lengths))], [.d (.int .i64 a4.X), .d (.int .i64 a4.Y), .d (.int .i64 a4.Z)], [.d (.int .i64 0), .d (.int .i64 0), .d (.int .i64 0), .d (.int .i64 0), .d (.int .i64 0), .d (.int .i64 0), .d (.int .i64 0), .d (.int .i64 0)], [.d (.int .i64 0), .d (.int .i64 0), .d (.int .i64 0), .d (.int .i64 0), .d (.int .i64 0), .d (.int .i64 0), .d (.bool false)], [.d (.int .i64 y129.1.X), .d (.int .i64 y129.1.Y), .d (.int .i64 y129.1.Z)]], []⟩) hv55 rfl ?_ ?_
              ·simp only [List.replicate, List.length, nS, nA, Tryd.ntmps46, SV]
               refine Mir.seqK ?_
               refine Mir.region fun e h => ?_
               simp only [↓reduceIte, reduceCtorEq, nA, nS, nM, nE, nL, nT, nB, iT, iN, iE, and_self, SR, SV, zero_65, zero_68, encApiWord, encTableLength]
               refine Mir.use (e := e) ?_ h
               refine Mir.seqK ?_
               refine Mir.region fun e h => ?_
               simp only [↓reduceIte, reduceCtorEq, nA, nS, nM, nE, nL, nT, nB, iT, iN, iE, and_self, SR, SV, zero_65, pl_65, zero_68, pl_68, sz_65, sz_68, encApiWord, encTableLength]
               refine Mir.use (e := e) ?_ h
               refine Mir.ret fun e h => ?_
               cases h
               simp only [↓reduceIte, reduceCtorEq, nA, nE, nL, and_self, and_true, true_and, SL, encApiWord, encTableLength, Tryd.results46, ag_65, sz_65, ag_68, sz_68]
              simp only [↓reduceIte, reduceCtorEq, nA, nS, nM, nE, nL, nT, nB, iT, iN, iE, and_self, SR, SV, sz_65, sz_68, encApiWord, encTableLength]
              refine Mir.use (e := e) ?_ h
              refine Mir.ret fun e h => ?_
              cases h
              simp only [↓reduceIte, reduceCtorEq, nA, nE, nL, and_self, and_true, true_and, SL, encApiWord, encTableLength, Tryd.results21, ag_65, sz_65, ag_68, sz_68, fx_r, fx_n, xr_o, xr_n, rowT]
             ·refine Mir.skip ?_
              refine Mir.toK ?_
              refine Mir.seqK ?_
              refine Mir.bind fun y132 hy56 => ?_
              refine Mir.region fun e h => ?_
              simp only [↓reduceIte, reduceCtorEq, nA, nS, nM, nE, nL, nT, nB, iT, iN, iE, and_self, SR, SV, ag_65, sz_65, ag_68, sz_68, ag_42, sz_42, ag_24, sz_24, encApiMotion, encApiWord, encInterpreterReached, encTableLength]
              refine SpecS.by (inp_positions_spec hy56) (by simp only [↓reduceIte, reduceCtorEq, nA, nE, nL, and_self, and_true, true_and, SL, encApiMotion, encApiWord, encInterpreterReached, encTableLength]) ?_
              simp only [↓reduceIte, reduceCtorEq, nA, nS, nM, nE, nL, nT, nB, iT, iN, iE, and_self, SR, SV, sz_68, encApiMotion, encApiWord, encInterpreterReached, encTableLength]
              refine Mir.use (e := e) ?_ h
              refine Mir.seqK ?_
              refine Mir.seqK ?_
              refine Mir.region fun e h => ?_
              simp only [↓reduceIte, reduceCtorEq, nA, nS, nM, nE, nL, nT, nB, iT, iN, iE, and_self, SR, SV, encApiMotion, encApiWord, encInterpreterReached, encTableLength]
              refine Mir.use (e := e) ?_ h
              refine Mir.cond rfl (fun hb59 => ?_) (fun hb59 => ?_)
              ·refine Mir.seqK ?_
               refine Mir.bind fun v134 hv60 => ?_
               refine Mir.region fun e h => ?_
               simp only [↓reduceIte, reduceCtorEq, nA, nS, nM, nE, nL, nT, nB, iT, iN, iE, and_self, SR, SV, encApiWord, encTableLength]
               refine SpecS.inl Tryd.func46 rfl (by kernel_rfl) (by kernel_rfl) (fun v134 : Unit => .tuple [.nil, .agg [.d (.int .i64 0), .d (.int .i64 0), .d (.int .i64 0), .d (.int .i64 0), .d (.int .i64 0), .d (.int .i64 0), .d (.int .i64 0), .d (.int .i64 0)], .agg [.d (.int .i64 0), .d (.int .i64 0), .d (.int .i64 0), .d (.int .i64 0), .d (.int .i64 0), .d (.int .i64 0), .d (.bool false)], .d (.int .i64 y132.2.2)]) (fun v134 : Unit => ⟨[[.d (.int .i64 y110.1.Motion), .d (.int .i64 y110.1.Distance), .d (.int .i64 y110.1.Work), .d (.int .i64 y110.1.Length), .d (.int .i64 y110.1.Return), .d (.int .i64 y110.1.Feed), .d (.int .i64 y110.1.Tool), .d (.int .i64 y110.1.Offset)], [.d (.int .i64 y132.2.1.Code), .d (.int .i64 y132.2.1.R), .d (.int .i64 y132.2.1.Z), .d (.int .i64 y132.2.1.Q), .d (.int .i64 y132.2.1.Rate), .d (.int .i64 y132.2.1.Initial), .d (.bool y132.2.1.High)], [.d (.bool a2.Skip), .d (.list (List.map encApiWord a2.Words)), .d (.str a2.Comment)], [.d (.int .i64 a3.Work.e0.X), .d (.int .i64 a3.Work.e0.Y), .d (.int .i64 a3.Work.e0.Z), .d (.int .i64 a3.Work.e1.X), .d (.int .i64 a3.Work.e1.Y), .d (.int .i64 a3.Work.e1.Z), .d (.int .i64 a3.Work.e2.X), .d (.int .i64 a3.Work.e2.Y), .d (.int .i64 a3.Work.e2.Z), .d (.int .i64 a3.Work.e3.X), .d (.int .i64 a3.Work.e3.Y), .d (.int .i64 a3.Work.e3.Z), .d (.int .i64 a3.Work.e4.X), .d (.int .i64 a3.Work.e4.Y), .d (.int .i64 a3.Work.e4.Z), .d (.int .i64 a3.Work.e5.X), .d (.int .i64 a3.Work.e5.Y), .d (.int .i64 a3.Work.e5.Z), .d (.list (List.map encTableLength a3.Lengths))], [.d (.int .i64 a4.X), .d (.int .i64 a4.Y), .d (.int .i64 a4.Z)], [.d (.int .i64 0), .d (.int .i64 0), .d (.int .i64 0), .d (.int .i64 0), .d (.int .i64 0), .d (.int .i64 0), .d (.int .i64 0), .d (.int .i64 0)], [.d (.int .i64 0), .d (.int .i64 0), .d (.int .i64 0), .d (.int .i64 0), .d (.int .i64 0), .d (.int .i64 0), .d (.bool false)], [.d (.int .i64 y129.1.X), .d (.int .i64 y129.1.Y), .d (.int .i64 y129.1.Z)]], []⟩) hv60 rfl ?_ ?_
               ·simp only [List.replicate, List.length, nS, nA, Tryd.ntmps46, SV]
                refine Mir.seqK ?_
                refine Mir.region fun e h => ?_
                simp only [↓reduceIte, reduceCtorEq, nA, nS, nM, nE, nL, nT, nB, iT, iN, iE, and_self, SR, SV, zero_65, zero_68, encApiWord, encTableLength]
                refine Mir.use (e := e) ?_ h
                refine Mir.seqK ?_
                refine Mir.region fun e h => ?_
                simp only [↓reduceIte, reduceCtorEq, nA, nS, nM, nE, nL, nT, nB, iT, iN, iE, and_self, SR, SV, zero_65, pl_65, zero_68, pl_68, sz_65, sz_68, encApiWord, encTableLength]
                refine Mir.use (e := e) ?_ h
                refine Mir.ret fun e h => ?_
                cases h
                simp only [↓reduceIte, reduceCtorEq, nA, nE, nL, and_self, and_true, true_and, SL, encApiWord, encTableLength, Tryd.results46, ag_65, sz_65, ag_68, sz_68]
               simp only [↓reduceIte, reduceCtorEq, nA, nS, nM, nE, nL, nT, nB, iT, iN, iE, and_self, SR, SV, sz_65, sz_68, encApiWord, encTableLength]
               refine Mir.use (e := e) ?_ h
               refine Mir.ret fun e h => ?_
               cases h
               simp only [↓reduceIte, reduceCtorEq, nA, nE, nL, and_self, and_true, true_and, SL, encApiWord, encTableLength, Tryd.results21, ag_65, sz_65, ag_68, sz_68, fx_r, fx_n, xr_o, xr_n, rowT]
              ·refine Mir.skip ?_
               refine Mir.toK ?_
               refine Mir.seqK ?_
               refine Mir.region fun e h => ?_
               simp only [↓reduceIte, reduceCtorEq, nA, nS, nM, nE, nL, nT, nB, iT, iN, iE, and_self, SR, SV, encApiMotion, encApiWord, encInterpreterReached, encTableLength]
               refine Mir.use (e := e) ?_ h
               refine Mir.seqK ?_
               refine Mir.seqK ?_
               refine Mir.region fun e h => ?_
               simp only [↓reduceIte, reduceCtorEq, nA, nS, nM, nE, nL, nT, nB, iT, iN, iE, and_self, SR, SV, und_107, encApiMotion, encApiWord, encInterpreterReached, encTableLength]
               refine Mir.use (e := e) ?_ h
               refine Mir.gh [.slot 19 62] rfl ?_
               refine Mir.join (fun v238 : (List ApiMotion) × ApiPos => [U, U, U, U, U, .ptr 0 0, .ptr 1 0, U, U, U, U, .ptr 5 0, .ptr 6 0, U, U, U, U, U, U, .own 0 (List.map encApiMotion v238.1), U, U, U, U, U, U, U, U, U, U, U, U, U, U, U, U, U, U, U, U, U, U, U, U, U, U, U, U, U, U, U, U, U, U, U, U, U, U, U, U, U, U, U, U, U, U, U, U, U, U, U, U, U, U, U, U, U, U, U, U, U, U, U, U, U, U, U, U, U, U, U, U, U, U, U, U, U, U, U, U, U, U, U, U, U, U, U, U, U, U, U, U, U, U, U, U, U, U, U, U, U, U, U, U, U, U, U, U, U, U, U, U, U, U, U, U, U, U, U, U, U, U, U, U, U, U, U, U, U, U, U, U, U, U, U, U, U, U, U, U, U, U, U, U, U, U, U, U, U, U, U, U, U, U, U, U, U, U, U, U, U, U, U, U, U, U, U, U, U, U, U, U, U, U, U, U, U, U, U, U, U, U, U, U, U]) (fun v238 : (List ApiMotion) × ApiPos => ⟨[[.d (.int .i64 y110.1.Motion), .d (.int .i64 y110.1.Distance), .d (.int .i64 y110.1.Work), .d (.int .i64 y110.1.Length), .d (.int .i64 y110.1.Return), .d (.int .i64 y110.1.Feed), .d (.int .i64 y110.1.Tool), .d (.int .i64 y110.1.Offset)], [.d (.int .i64 y132.2.1.Code), .d (.int .i64 y132.2.1.R), .d (.int .i64 y132.2.1.Z), .d (.int .i64 y132.2.1.Q), .d (.int .i64 y132.2.1.Rate), .d (.int .i64 y132.2.1.Initial), .d (.bool y132.2.1.High)], [.d (.bool a2.Skip), .d (.list (List.map encApiWord a2.Words)), .d (.str a2.Comment)], [.d (.int .i64 a3.Work.e0.X), .d (.int .i64 a3.Work.e0.Y), .d (.int .i64 a3.Work.e0.Z), .d (.int .i64 a3.Work.e1.X), .d (.int .i64 a3.Work.e1.Y), .d (.int .i64 a3.Work.e1.Z), .d (.int .i64 a3.Work.e2.X), .d (.int .i64 a3.Work.e2.Y), .d (.int .i64 a3.Work.e2.Z), .d (.int .i64 a3.Work.e3.X), .d (.int .i64 a3.Work.e3.Y), .d (.int .i64 a3.Work.e3.Z), .d (.int .i64 a3.Work.e4.X), .d (.int .i64 a3.Work.e4.Y), .d (.int .i64 a3.Work.e4.Z), .d (.int .i64 a3.Work.e5.X), .d (.int .i64 a3.Work.e5.Y), .d (.int .i64 a3.Work.e5.Z), .d (.list (List.map encTableLength a3.Lengths))], [.d (.int .i64 v238.2.X), .d (.int .i64 v238.2.Y), .d (.int .i64 v238.2.Z)], [.d (.int .i64 0), .d (.int .i64 0), .d (.int .i64 0), .d (.int .i64 0), .d (.int .i64 0), .d (.int .i64 0), .d (.int .i64 0), .d (.int .i64 0)], [.d (.int .i64 0), .d (.int .i64 0), .d (.int .i64 0), .d (.int .i64 0), .d (.int .i64 0), .d (.int .i64 0), .d (.bool false)], [.d (.int .i64 y129.1.X), .d (.int .i64 y129.1.Y), .d (.int .i64 y129.1.Z)]], [(62, v238.1.length)]⟩) (fun _ => rfl) ?_ ?_
               ·refine Mir.block ?_
                refine Mir.guard fun qg311 => ?_
                refine Mir.range (fun (i274 : Nat) (v275 : (List ApiMotion) × ApiPos) => [U, U, U, U, U, .ptr 0 0, .ptr 1 0, U, .ptr 3 0, .ptr 4 0, U, .ptr 5 0, .ptr 6 0, U, U, U, .d (.int .i64 v128), U, U, .own 0 (List.map encApiMotion v275.1), U, U, U, U, U, U, U, U, U, U, U, U, U, U, U, U, U, U, U, U, U, U, U, U, U, U, U, U, U, U, U, U, U, U, U, U, U, U, U, U, U, U, U, U, U, U, U, U, U, U, U, U, U, U, U, U, U, U, U, U, U, U, U, U, U, U, U, U, U, U, U, U, U, U, U, U, U, U, U, U, U, U, U, U, U, U, U, U, U, U, U, U, U, U, U, U, U, U, U, U, U, U, U, U, U, U, U, U, U, U, U, U, U, U, U, U, U, U, U, U, U, U, U, U, U, U, U, U, U, U, U, U, U, U, U, U, U, U, U, U, U, U, .d (.list (List.map encInterpreterReached y132.1)), .d (.int .i64 (y132.1.length : Int)), .d (.int .i64 (i274 : Int)), U, U, U, U, U, U, U, U, U, U, U, U, U, U, U, U, U, U, U, U, U, U, U, U, U, U, U, U, U, U, U, U, U, U, U, U, U, U, U, U]) (fun (i274 : Nat) (v275 : (List ApiMotion) × ApiPos) => ⟨[[.d (.int .i64 y110.1.Motion), .d (.int .i64 y110.1.Distance), .d (.int .i64 y110.1.Work), .d (.int .i64 y110.1.Length), .d (.int .i64 y110.1.Return), .d (.int .i64 y110.1.Feed), .d (.int .i64 y110.1.Tool), .d (.int .i64 y110.1.Offset)], [.d (.int .i64 y132.2.1.Code), .d (.int .i64 y132.2.1.R), .d (.int .i64 y132.2.1.Z), .d (.int .i64 y132.2.1.Q), .d (.int .i64 y132.2.1.Rate), .d (.int .i64 y132.2.1.Initial), .d (.bool y132.2.1.High)], [.d (.bool a2.Skip), .d (.list (List.map encApiWord a2.Words)), .d (.str a2.Comment)], [.d (.int .i64 a3.Work.e0.X), .d (.int .i64 a3.Work.e0.Y), .d (.int .i64 a3.Work.e0.Z), .d (.int .i64 a3.Work.e1.X), .d (.int .i64 a3.Work.e1.Y), .d (.int .i64 a3.Work.e1.Z), .d (.int .i64 a3.Work.e2.X), .d (.int .i64 a3.Work.e2.Y), .d (.int .i64 a3.Work.e2.Z), .d (.int .i64 a3.Work.e3.X), .d (.int .i64 a3.Work.e3.Y), .d (.int .i64 a3.Work.e3.Z), .d (.int .i64 a3.Work.e4.X), .d (.int .i64 a3.Work.e4.Y), .d (.int .i64 a3.Work.e4.Z), .d (.int .i64 a3.Work.e5.X), .d (.int .i64 a3.Work.e5.Y), .d (.int .i64 a3.Work.e5.Z), .d (.list (List.map encTableLength a3.Lengths))], [.d (.int .i64 v275.2.X), .d (.int .i64 v275.2.Y), .d (.int .i64 v275.2.Z)], [.d (.int .i64 0), .d (.int .i64 0), .d (.int .i64 0), .d (.int .i64 0), .d (.int .i64 0), .d (.int .i64 0), .d (.int .i64 0), .d (.int .i64 0)], [.d (.int .i64 0), .d (.int .i64 0), .d (.int .i64 0), .d (.int .i64 0), .d (.int .i64 0), .d (.int .i64 0), .d (.bool false)], [.d (.int .i64 y129.1.X), .d (.int .i64 y129.1.Y), .d (.int .i64 y129.1.Z)]], [(62, v275.1.length)]⟩) qg311 (fun _ _ => rfl) (by simp only [↓reduceIte, reduceCtorEq, nA, nE, nL, and_self, and_true, true_and, SL, encApiMotion, encApiWord, encInterpreterReached, encTableLength, (nr rfl : ((0 : Nat) : Int) = 0)]) (by simp only [↓reduceIte, reduceCtorEq, nA, nE, nL, and_self, and_true, true_and, SL, encApiMotion, encApiWord, encInterpreterReached, encTableLength, (nr rfl : ((0 : Nat) : Int) = 0)]) ?_ ?_
                ·intro i274 e276 v275 qr309
                 refine Mir.seqK ?_
                 refine Mir.region fun e h => ?_
                 simp only [↓reduceIte, reduceCtorEq, nA, nS, nM, nE, nL, nT, nB, iT, iN, iE, and_self, SR, SV, qr309, encApiMotion, encApiWord, encInterpreterReached, encTableLength]
                 refine Mir.use (e := e) ?_ h
                 refine Mir.seqK ?_
                 refine Mir.condT rfl ?_
                 refine Mir.skip ?_
                 refine Mir.toK ?_
                 refine Mir.seqK ?_
                 refine Mir.block ?_
                 refine Mir.seqK ?_
                 refine Mir.region fun e h => ?_
                 simp only [↓reduceIte, reduceCtorEq, nA, nS, nM, nE, nL, nT, nB, iT, iN, iE, and_self, SR, SV, und_107, sz_111, qr309, Int.toNat_natCast, ag_111, zero_111, encApiMotion, encApiWord, encInterpreterReached, encTableLength]
                 refine Mir.use (e := e) ?_ h
                 refine Mir.seqK ?_
                 refine Mir.bind fun y281 hy321 => ?_
                 refine Mir.region fun e h => ?_
                 simp only [↓reduceIte, reduceCtorEq, nA, nS, nM, nE, nL, nT, nB, iT, iN, iE, and_self, SR, SV, ag_54, sz_54, fld_65_2, sz_2, ag_2, fld_111_0, sz_24, ag_24, encApiMotion, encApiWord, encInterpreterReached, encTableLength]
                 refine SpecS.by (tb_Machine_spec hy321) (by simp only [↓reduceIte, reduceCtorEq, nA, nE, nL, and_self, and_true, true_and, SL, encApiMotion, encApiWord, encInterpreterReached, encTableLength]) ?_
                 simp only [↓reduceIte, reduceCtorEq, nA, nS, nM, nE, nL, nT, nB, iT, iN, iE, and_self, SR, SV, zero_24, sz_24, encApiMotion, encApiWord, encInterpreterReached, encTableLength]
                 refine Mir.use (e := e) ?_ h
                 refine Mir.seqK ?_
                 refine Mir.seqK ?_
                 refine Mir.region fun e h => ?_
                 simp only [↓reduceIte, reduceCtorEq, nA, nS, nM, nE, nL, nT, nB, iT, iN, iE, and_self, SR, SV, encApiMotion, encApiWord, encInterpreterReached, encTableLength]
                 refine Mir.use (e := e) ?_ h
                 refine Mir.cond rfl (fun hb324 => ?_) (fun hb324 => ?_)
                 ·refine Mir.seqK ?_
                  refine Mir.bind fun v283 hv325 => ?_
                  refine Mir.region fun e h => ?_
                  simp only [↓reduceIte, reduceCtorEq, nA, nS, nM, nE, nL, nT, nB, iT, iN, iE, and_self, SR, SV, encApiMotion, encApiWord, encInterpreterReached, encTableLength]
                  refine SpecS.inl Tryd.func46 rfl (by kernel_rfl) (by kernel_rfl) (fun v283 : Unit => .tuple [.nil, .agg [.d (.int .i64 0), .d (.int .i64 0), .d (.int .i64 0), .d (.int .i64 0), .d (.int .i64 0), .d (.int .i64 0), .d (.int .i64 0), .d (.int .i64 0)], .agg [.d (.int .i64 0), .d (.int .i64 0), .d (.int .i64 0), .d (.int .i64 0), .d (.int .i64 0), .d (.int .i64 0), .d (.bool false)], .d (.int .i64 y281.2)]) (fun v283 : Unit => ⟨[[.d (.int .i64 y110.1.Motion), .d (.int .i64 y110.1.Distance), .d (.int .i64 y110.1.Work), .d (.int .i64 y110.1.Length), .d (.int .i64 y110.1.Return), .d (.int .i64 y110.1.Feed), .d (.int .i64 y110.1.Tool), .d (.int .i64 y110.1.Offset)], [.d (.int .i64 y132.2.1.Code), .d (.int .i64 y132.2.1.R), .d (.int .i64 y132.2.1.Z), .d (.int .i64 y132.2.1.Q), .d (.int .i64 y132.2.1.Rate), .d (.int .i64 y132.2.1.Initial), .d (.bool y132.2.1.High)], [.d (.bool a2.Skip), .d (.list (List.map encApiWord a2.Words)), .d (.str a2.Comment)], [.d (.int .i64 a3.Work.e0.X), .d (.int .i64 a3.Work.e0.Y), .d (.int .i64 a3.Work.e0.Z), .d (.int .i64 a3.Work.e1.X), .d (.int .i64 a3.Work.e1.Y), .d (.int .i64 a3.Work.e1.Z), .d (.int .i64 a3.Work.e2.X), .d (.int .i64 a3.Work.e2.Y), .d (.int .i64 a3.Work.e2.Z), .d (.int .i64 a3.Work.e3.X), .d (.int .i64 a3.Work.e3.Y), .d (.int .i64 a3.Work.e3.Z), .d (.int .i64 a3.Work.e4.X), .d (.int .i64 a3.Work.e4.Y), .d (.int .i64 a3.Work.e4.Z), .d (.int .i64 a3.Work.e5.X), .d (.int .i64 a3.Work.e5.Y), .d (.int .i64 a3.Work.e5.Z), .d (.list (List.map encTableLength a3.Lengths))], [.d (.int .i64 v275.2.X), .d (.int .i64 v275.2.Y), .d (.int .i64 v275.2.Z)], [.d (.int .i64 0), .d (.int .i64 0), .d (.int .i64 0), .d (.int .i64 0), .d (.int .i64 0), .d (.int .i64 0), .d (.int .i64 0), .d (.int .i64 0)], [.d (.int .i64 0), .d (.int .i64 0), .d (.int .i64 0), .d (.int .i64 0), .d (.int .i64 0), .d (.int .i64 0), .d (.bool false)], [.d (.int .i64 y129.1.X), .d (.int .i64 y129.1.Y), .d (.int .i64 y129.1.Z)], [.d (.int .i64 e276.at_.X), .d (.int .i64 e276.at_.Y), .d (.int .i64 e276.at_.Z), .d (.int .i64 e276.rate)], [.d (.int .i64 y281.1.X), .d (.int .i64 y281.1.Y), .d (.int .i64 y281.1.Z)]], [(62, v275.1.length)]⟩) hv325 rfl ?_ ?_
                  ·simp only [List.replicate, List.length, nS, nA, Tryd.ntmps46, SV]
                   refine Mir.seqK ?_
                   refine Mir.region fun e h => ?_
                   simp only [↓reduceIte, reduceCtorEq, nA, nS, nM, nE, nL, nT, nB, iT, iN, iE, and_self, SR, SV, zero_65, zero_68, encApiMotion, encApiWord, encInterpreterReached, encTableLength]
                   refine Mir.use (e := e) ?_ h
                   refine Mir.seqK ?_
                   refine Mir.region fun e h => ?_
                   simp only [↓reduceIte, reduceCtorEq, nA, nS, nM, nE, nL, nT, nB, iT, iN, iE, and_self, SR, SV, zero_65, pl_65, zero_68, pl_68, sz_65, sz_68, encApiMotion, encApiWord, encInterpreterReached, encTableLength]
                   refine Mir.use (e := e) ?_ h
                   refine Mir.ret fun e h => ?_
                   cases h
                   simp only [↓reduceIte, reduceCtorEq, nA, nE, nL, and_self, and_true, true_and, SL, encApiMotion, encApiWord, encInterpreterReached, encTableLength, Tryd.results46, ag_65, sz_65, ag_68, sz_68]
                  simp only [↓reduceIte, reduceCtorEq, nA, nS, nM, nE, nL, nT, nB, iT, iN, iE, and_self, SR, SV, sz_65, sz_68, encApiMotion, encApiWord, encInterpreterReached, encTableLength]
                  refine Mir.use (e := e) ?_ h
                  refine Mir.ret fun e h => ?_
                  cases h
                  simp only [↓reduceIte, reduceCtorEq, nA, nE, nL, and_self, and_true, true_and, SL, encApiMotion, encApiWord, encInterpreterReached, encTableLength, Tryd.results21, ag_65, sz_65, ag_68, sz_68, fx_r, fx_n, xr_o, xr_n, rowT]
                 ·refine Mir.skip ?_
                  refine Mir.toK ?_
                  refine Mir.seqK ?_
                  refine Mir.seqK ?_
                  refine Mir.region fun e h => ?_
                  simp only [↓reduceIte, reduceCtorEq, nA, nS, nM, nE, nL, nT, nB, iT, iN, iE, and_self, SR, SV, ag_24, sz_24, gE_24, encApiMotion, encApiWord, encInterpreterReached, encTableLength]
                  refine Mir.use (e := e) ?_ h
                  refine Mir.joinO (fun v284 : (List ApiMotion) => [U, U, U, U, U, .ptr 0 0, .ptr 1 0, U, .ptr 3 0, .ptr 4 0, U, .ptr 5 0, .ptr 6 0, U, U, U, .d (.int .i64 v128), U, U, .own 0 (List.map encApiMotion v284), U, U, .ptr 9 0, U, U, U, U, U, U, U, U, U, U, U, U, U, U, U, U, U, U, U, U, U, U, U, U, U, U, U, U, U, U, U, U, U, U, U, U, U, U, U, U, U, U, U, U, U, U, U, U, U, U, U, U, U, U, U, U, U, U, U, U, U, U, U, U, U, U, U, U, U, U, U, U, U, U, U, U, U, U, U, U, U, U, U, U, U, U, U, U, U, U, U, U, U, U, U, U, U, U, U, U, U, U, U, U, U, U, U, U, U, U, U, U, U, U, U, U, U, U, U, U, U, U, U, U, U, U, U, U, U, U, U, U, U, U, U, U, U, U, U, .d (.list (List.map encInterpreterReached y132.1)), .d (.int .i64 (y132.1.length : Int)), .d (.int .i64 (i274 : Int)), U, U, U, U, U, U, U, U, U, U, U, U, U, U, U, U, U, U, U, U, U, U, U, U, U, U, U, U, U, U, U, U, U, U, U, U, U, U, U, U]) (fun v284 : (List ApiMotion) => ⟨[[.d (.int .i64 y110.1.Motion), .d (.int .i64 y110.1.Distance), .d (.int .i64 y110.1.Work), .d (.int .i64 y110.1.Length), .d (.int .i64 y110.1.Return), .d (.int .i64 y110.1.Feed), .d (.int .i64 y110.1.Tool), .d (.int .i64 y110.1.Offset)], [.d (.int .i64 y132.2.1.Code), .d (.int .i64 y132.2.1.R), .d (.int .i64 y132.2.1.Z), .d (.int .i64 y132.2.1.Q), .d (.int .i64 y132.2.1.Rate), .d (.int .i64 y132.2.1.Initial), .d (.bool y132.2.1.High)], [.d (.bool a2.Skip), .d (.list (List.map encApiWord a2.Words)), .d (.str a2.Comment)], [.d (.int .i64 a3.Work.e0.X), .d (.int .i64 a3.Work.e0.Y), .d (.int .i64 a3.Work.e0.Z), .d (.int .i64 a3.Work.e1.X), .d (.int .i64 a3.Work.e1.Y), .d (.int .i64 a3.Work.e1.Z), .d (.int .i64 a3.Work.e2.X), .d (.int .i64 a3.Work.e2.Y), .d (.int .i64 a3.Work.e2.Z), .d (.int .i64 a3.Work.e3.X), .d (.int .i64 a3.Work.e3.Y), .d (.int .i64 a3.Work.e3.Z), .d (.int .i64 a3.Work.e4.X), .d (.int .i64 a3.Work.e4.Y), .d (.int .i64 a3.Work.e4.Z), .d (.int .i64 a3.Work.e5.X), .d (.int .i64 a3.Work.e5.Y), .d (.int .i64 a3.Work.e5.Z), .d (.list (List.map encTableLength a3.Lengths))], [.d (.int .i64 v275.2.X), .d (.int .i64 v275.2.Y), .d (.int .i64 v275.2.Z)], [.d (.int .i64 0), .d (.int .i64 0), .d (.int .i64 0), .d (.int .i64 0), .d (.int .i64 0), .d (.int .i64 0), .d (.int .i64 0), .d (.int .i64 0)], [.d (.int .i64 0), .d (.int .i64 0), .d (.int .i64 0), .d (.int .i64 0), .d (.int .i64 0), .d (.int .i64 0), .d (.bool false)], [.d (.int .i64 y129.1.X), .d (.int .i64 y129.1.Y), .d (.int .i64 y129.1.Z)], [.d (.int .i64 e276.at_.X), .d (.int .i64 e276.at_.Y), .d (.int .i64 e276.at_.Z), .d (.int .i64 e276.rate)], [.d (.int .i64 y281.1.X), .d (.int .i64 y281.1.Y), .d (.int .i64 y281.1.Z)]], [(62, v284.length)]⟩) (fun _ => rfl) ?_ ?_
                  ·refine Mir.cond rfl (fun hb328 => ?_) (fun hb328 => ?_)
                   ·refine Mir.guard fun q329 => ?_
                    refine Mir.region fun e h => ?_
                    simp only [↓reduceIte, reduceCtorEq, nA, nS, nM, nE, nL, nT, nB, iT, iN, iE, and_self, SR, SV, ag_24, sz_24, fld_111_1, sz_2, ag_2, fld_65_6, zero_62, pl_62, und_47, sz_62, (nr rfl : okLen 9 = true), app_47, al_ApiMotion, q329, encApiMotion, encApiWord, encInterpreterReached, encTableLength]
                    cases h
                    simp only [↓reduceIte, reduceCtorEq, nA, nE, nL, and_self, and_true, true_and, SL, encApiMotion, encApiWord, encInterpreterReached, encTableLength, Tryd.results21, ag_65, sz_65, ag_68, sz_68]
                   ·refine Mir.skip fun e h => ?_
                    cases h
                    simp only [↓reduceIte, reduceCtorEq, nA, nE, nL, and_self, and_true, true_and, SL, encApiMotion, encApiWord, encInterpreterReached, encTableLength, Tryd.results21, ag_65, sz_65, ag_68, sz_68]
                  ·intro v284
                   refine Mir.toK ?_
                   refine Mir.region fun e h => ?_
                   simp only [↓reduceIte, reduceCtorEq, nA, nS, nM, nE, nL, nT, nB, iT, iN, iE, and_self, SR, SV, ag_24, sz_24, encApiMotion, encApiWord, encInterpreterReached, encTableLength]
                   refine Mir.use (e := e) ?_ h
                   refine Mir.region fun e h => ?_
                   simp only [↓reduceIte, reduceCtorEq, nA, nS, nM, nE, nL, nT, nB, iT, iN, iE, and_self, SR, SV, encApiMotion, encApiWord, encInterpreterReached, encTableLength]
                   cases h
                   simp only [↓reduceIte, reduceCtorEq, nA, nE, nL, and_self, and_true, true_and, SL, encApiMotion, encApiWord, encInterpreterReached, encTableLength, Tryd.results21, ag_65, sz_65, ag_68, sz_68, qr309]
                ·intro v275 qd310
                 refine Mir.seqK ?_
                 refine Mir.region fun e h => ?_
                 simp only [↓reduceIte, reduceCtorEq, nA, nS, nM, nE, nL, nT, nB, iT, iN, iE, and_self, SR, SV, qd310, encApiMotion, encApiWord, encInterpreterReached, encTableLength]
                 refine Mir.use (e := e) ?_ h
                 refine Mir.seqK ?_
                 refine Mir.condF rfl ?_
                 refine Mir.exit fun e h => ?_
                 cases h
                 simp only [↓reduceIte, reduceCtorEq, nA, nE, nL, and_self, and_true, true_and, SL, encApiMotion, encApiWord, encInterpreterReached, encTableLength, Tryd.results21, ag_65, sz_65, ag_68, sz_68]
               ·intro v238
                refine Mir.toK ?_
                refine Mir.seqK ?_
                refine Mir.regionD [(6, 11)] (by kernel_rfl) fun e h => ?_
                simp only [↓reduceIte, reduceCtorEq, nA, nS, nM, nE, nL, nT, nB, iT, iN, iE, and_self, SR, SV, sepL_nil, sepL_cons, sepV_ne, sepV_d, sepV_i, true_and, Bool.and_self, ag_65, sz_65, ag_68, sz_68, encApiMotion, encApiWord, encInterpreterReached, encTableLength]
                refine Mir.use (e := e) ?_ h
                refine Mir.ret fun e h => ?_
                cases h
                simp only [↓reduceIte, reduceCtorEq, nA, nE, nL, and_self, and_true, true_and, SL, encApiMotion, encApiWord, encInterpreterReached, encTableLength, Tryd.results21, ag_65, sz_65, ag_68, sz_68, fx_r, fx_n, xr_o, xr_n, rowT]
theorem inp_Step_spec {a0 : ModalState} {a1 : CycleCycle} {a2 : ApiBlock} {a3 : TableTable} {a4 : ApiPos} {y : (List ApiMotion) × ModalState × CycleCycle × Int} (h : inp_Step a0 a1 a2 a3 a4 = some y) : Spec gP 21 [.agg [.d (.int .i64 a0.Motion), .d (.int .i64 a0.Distance), .d (.int .i64 a0.Work), .d (.int .i64 a0.Length), .d (.int .i64 a0.Return), .d (.int .i64 a0.Feed), .d (.int .i64 a0.Tool), .d (.int .i64 a0.Offset)], .agg [.d (.int .i64 a1.Code), .d (.int .i64 a1.R), .d (.int .i64 a1.Z), .d (.int .i64 a1.Q), .d (.int .i64 a1.Rate), .d (.int .i64 a1.Initial), .d (.bool a1.High)], .agg [.d (.bool a2.Skip), .d (.list (List.map encApiWord a2.Words)), .d (.str a2.Comment)], .agg [.d (.int .i64 a3.Work.e0.X), .d (.int .i64 a3.Work.e0.Y), .d (.int .i64 a3.Work.e0.Z), .d (.int .i64 a3.Work.e1.X), .d (.int .i64 a3.Work.e1.Y), .d (.int .i64 a3.Work.e1.Z), .d (.int .i64 a3.Work.e2.X), .d (.int .i64 a3.Work.e2.Y), .d (.int .i64 a3.Work.e2.Z), .d (.int .i64 a3.Work.e3.X), .d (.int .i64 a3.Work.e3.Y), .d (.int .i64 a3.Work.e3.Z), .d (.int .i64 a3.Work.e4.X), .d (.int .i64 a3.Work.e4.Y), .d (.int .i64 a3.Work.e4.Z), .d (.int .i64 a3.Work.e5.X), .d (.int .i64 a3.Work.e5.Y), .d (.int .i64 a3.Work.e5.Z), .d (.list (List.map encTableLength a3.Lengths))], .agg [.d (.int .i64 a4.X), .d (.int .i64 a4.Y), .d (.int .i64 a4.Z)]] (.tuple [.d (.list (List.map encApiMotion y.1)), .agg [.d (.int .i64 y.2.1.Motion), .d (.int .i64 y.2.1.Distance), .d (.int .i64 y.2.1.Work), .d (.int .i64 y.2.1.Length), .d (.int .i64 y.2.1.Return), .d (.int .i64 y.2.1.Feed), .d (.int .i64 y.2.1.Tool), .d (.int .i64 y.2.1.Offset)], .agg [.d (.int .i64 y.2.2.1.Code), .d (.int .i64 y.2.2.1.R), .d (.int .i64 y.2.2.1.Z), .d (.int .i64 y.2.2.1.Q), .d (.int .i64 y.2.2.1.Rate), .d (.int .i64 y.2.2.1.Initial), .d (.bool y.2.2.1.High)], .d (.int .i64 y.2.2.2)]) := (inp_Step_specX h).toSpec

def inp_End (a0 : ApiPos) (a1 : (List ApiMotion)) : Option ApiPos :=
  if ((a1.length : Int) == 0) = true then
    some a0
  else
    bindO (gt a1 (IntKind.i64.wrap ((a1.length : Int) - 1))) fun (e101 : ApiMotion) =>
    some e101.To
theorem inp_End_spec {a0 : ApiPos} {a1 : (List ApiMotion)} {y : ApiPos} (h : inp_End a0 a1 = some y) : Spec gP 22 [.agg [.d (.int .i64 a0.X), .d (.int .i64 a0.Y), .d (.int .i64 a0.Z)], .d (.list (List.map encApiMotion a1))] (.agg [.d (.int .i64 y.X), .d (.int .i64 y.Y), .d (.int .i64 y.Z)]) := by
  refine spec_mir Tryd.func22 rfl (by kernel_rfl) (by kernel_rfl) (fun y : ApiPos => .agg [.d (.int .i64 y.X), .d (.int .i64 y.Y), .d (.int .i64 y.Z)]) ?_ h
  unfold inp_End
  simp only [List.replicate, List.length, nS, nA, Tryd.ntmps22, SV]
  refine Mir.seqK ?_
  refine Mir.region fun e h => ?_
  simp only [↓reduceIte, reduceCtorEq, nA, nS, nM, nE, nL, nT, nB, iT, iN, iE, and_self, SR, SV, zero_24, encApiMotion]
  refine Mir.use (e := e) ?_ h
  refine Mir.seqK ?_
  refine Mir.seqK ?_
  refine Mir.region fun e h => ?_
  simp only [↓reduceIte, reduceCtorEq, nA, nS, nM, nE, nL, nT, nB, iT, iN, iE, and_self, SR, SV, und_47, encApiMotion]
  refine Mir.use (e := e) ?_ h
  refine Mir.cond rfl (fun hb2 => ?_) (fun hb2 => ?_)
  ·refine Mir.seqK ?_
   refine Mir.region fun e h => ?_
   simp only [↓reduceIte, reduceCtorEq, nA, nS, nM, nE, nL, nT, nB, iT, iN, iE, and_self, SR, SV, ag_24, sz_24, encApiMotion]
   refine Mir.use (e := e) ?_ h
   refine Mir.ret fun e h => ?_
   cases h
   simp only [↓reduceIte, reduceCtorEq, nA, nE, nL, and_self, and_true, true_and, SL, encApiMotion, Tryd.results22, ag_24, sz_24]
  ·refine Mir.skip ?_
   refine Mir.toK ?_
   refine Mir.seqK ?_
   refine Mir.bind fun e101 q3 => ?_
   replace q3 := gt_ok q3
   refine Mir.region fun e h => ?_
   simp only [↓reduceIte, reduceCtorEq, nA, nS, nM, nE, nL, nT, nB, iT, iN, iE, and_self, SR, SV, und_47, sz_62, q3, fld_62_1, sz_24, ag_24, encApiMotion]
   refine Mir.use (e := e) ?_ h
   refine Mir.ret fun e h => ?_
   cases h
   simp only [↓reduceIte, reduceCtorEq, nA, nE, nL, and_self, and_true, true_and, SL, encApiMotion, Tryd.results22, ag_24, sz_24]

end Go.Proofs.YtlcfgpjgjdjpoaaDoor
