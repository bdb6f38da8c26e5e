/-
  Mirrors of functions, written by wip/mir.py.
-/
import Derived.Test.YtlcfgpjgjdjpoaaDoorMBb
namespace Go.Proofs.YtlcfgpjgjdjpoaaDoor
open Go.RowKit
open Nat renaming reduceAdd → nA, reduceSub → nS, reduceMul → nM, reduceEqDiff → nE, reduceLeDiff → nL, reduceLT → nT, reduceBEq → nB
open Int renaming reduceLT → iT, reduceToNat → iN, reduceEq → iE
set_option linter.unusedVariables false
set_option linter.unusedSimpArgs false
set_option maxRecDepth 100000

def bk_Codes (a0 : ApiBlock) (a1 : Int) : Option (List Int) :=
  bindO (guardO (okIdx a0.Words) (
      rangeX (fun (i157 : Nat) (e159 : ApiWord) (v158 : (List Int)) =>
        bindO (if (e159.Letter == a1) = true then
              guardO (okLen (v158.length + 1)) (
              some (v158 ++ [e159.Value]))
            else
              some v158) fun (v160 : (List Int)) =>
        some (.go v160)) (fun (v158 : (List Int)) => some v158) a0.Words 0 [])) fun (v142 : (List Int)) =>
  some v142
theorem bk_Codes_spec {a0 : ApiBlock} {a1 : Int} {y : (List Int)} (h : bk_Codes a0 a1 = some y) : Spec gP 44 [.agg [.d (.bool a0.Skip), .d (.list (List.map encApiWord a0.Words)), .d (.str a0.Comment)], .d (.int .u8 a1)] (.d (.list (List.map (eInt .i64) y))) := by
  refine spec_mir Tryd.func44 rfl (by kernel_rfl) (by kernel_rfl) (fun y : (List Int) => .d (.list (List.map (eInt .i64) y))) ?_ h
  unfold bk_Codes
  simp only [List.replicate, List.length, nS, nA, Tryd.ntmps44, SV]
  refine Mir.seqK ?_
  refine Mir.region fun e h => ?_
  simp only [↓reduceIte, reduceCtorEq, nA, nS, nM, nE, nL, nT, nB, iT, iN, iE, and_self, SR, SV, eInt, encApiWord]
  refine Mir.use (e := e) ?_ h
  refine Mir.seqK ?_
  refine Mir.region fun e h => ?_
  simp only [↓reduceIte, reduceCtorEq, nA, nS, nM, nE, nL, nT, nB, iT, iN, iE, and_self, SR, SV, eInt, encApiWord]
  refine Mir.use (e := e) ?_ h
  refine Mir.seqK ?_
  refine Mir.seqK ?_
  refine Mir.region fun e h => ?_
  simp only [↓reduceIte, reduceCtorEq, nA, nS, nM, nE, nL, nT, nB, iT, iN, iE, and_self, SR, SV, fld_42_1, sz_40, ag_40, und_40, eInt, encApiWord]
  refine Mir.use (e := e) ?_ h
  refine Mir.gh [.slot 5 2] rfl ?_
  refine Mir.joinO (fun v142 : (List Int) => [U, U, U, U, U, .own 0 (List.map (eInt .i64) v142), U, U, U, U, U, U, U, U, U, U, U, U, U, U, U, U, U, U, U, U]) (fun v142 : (List Int) => ⟨[[.d (.bool a0.Skip), .d (.list (List.map encApiWord a0.Words)), .d (.str a0.Comment)]], [(2, v142.length)]⟩) (fun _ => rfl) ?_ ?_
  ·refine Mir.block ?_
   refine Mir.guard fun qg91 => ?_
   refine Mir.range (fun (i157 : Nat) (v158 : (List Int)) => [U, .d (.int .u8 a1), U, U, U, .own 0 (List.map (eInt .i64) v158), U, U, U, .d (.list (List.map encApiWord a0.Words)), .d (.int .i64 (a0.Words.length : Int)), .d (.int .i64 (i157 : Int)), U, U, U, U, U, U, U, U, U, U, U, U, U, U]) (fun (i157 : Nat) (v158 : (List Int)) => ⟨[[.d (.bool a0.Skip), .d (.list (List.map encApiWord a0.Words)), .d (.str a0.Comment)]], [(2, v158.length)]⟩) qg91 (fun _ _ => rfl) (by simp only [↓reduceIte, reduceCtorEq, nA, nE, nL, and_self, and_true, true_and, SL, eInt, encApiWord, (nr rfl : ((0 : Nat) : Int) = 0)]) (by simp only [↓reduceIte, reduceCtorEq, nA, nE, nL, and_self, and_true, true_and, SL, eInt, encApiWord, (nr rfl : ((0 : Nat) : Int) = 0)]) ?_ ?_
   ·intro i157 e159 v158 qr89
    refine Mir.seqK ?_
    refine Mir.region fun e h => ?_
    simp only [↓reduceIte, reduceCtorEq, nA, nS, nM, nE, nL, nT, nB, iT, iN, iE, and_self, SR, SV, qr89, eInt, encApiWord]
    refine Mir.use (e := e) ?_ h
    refine Mir.seqK ?_
    refine Mir.condT rfl ?_
    refine Mir.skip ?_
    refine Mir.toK ?_
    refine Mir.seqK ?_
    refine Mir.joinO (fun v160 : (List Int) => [U, .d (.int .u8 a1), U, U, U, .own 0 (List.map (eInt .i64) v160), U, U, U, .d (.list (List.map encApiWord a0.Words)), .d (.int .i64 (a0.Words.length : Int)), .d (.int .i64 (i157 : Int)), U, U, U, U, U, U, U, U, U, U, U, U, U, U]) (fun v160 : (List Int) => ⟨[[.d (.bool a0.Skip), .d (.list (List.map encApiWord a0.Words)), .d (.str a0.Comment)]], [(2, v160.length)]⟩) (fun _ => rfl) ?_ ?_
    ·refine Mir.block ?_
     refine Mir.seqK ?_
     refine Mir.region fun e h => ?_
     simp only [↓reduceIte, reduceCtorEq, nA, nS, nM, nE, nL, nT, nB, iT, iN, iE, and_self, SR, SV, und_40, sz_38, qr89, Int.toNat_natCast, ag_38, zero_38, eInt, encApiWord]
     refine Mir.use (e := e) ?_ h
     refine Mir.seqK ?_
     refine Mir.region fun e h => ?_
     simp only [↓reduceIte, reduceCtorEq, nA, nS, nM, nE, nL, nT, nB, iT, iN, iE, and_self, SR, SV, fld_38_0, sz_5, ag_5, eInt, encApiWord]
     refine Mir.use (e := e) ?_ h
     refine Mir.cond rfl (fun hb94 => ?_) (fun hb94 => ?_)
     ·refine Mir.guard fun q95 => ?_
      refine Mir.region fun e h => ?_
      simp only [↓reduceIte, reduceCtorEq, nA, nS, nM, nE, nL, nT, nB, iT, iN, iE, and_self, SR, SV, fld_38_1, sz_2, ag_2, und_98, zero_2, (nr rfl : okLen 1 = true), app_98, al_eInt, q95, eInt, encApiWord]
      cases h
      simp only [↓reduceIte, reduceCtorEq, nA, nE, nL, and_self, and_true, true_and, SL, eInt, encApiWord, Tryd.results44]
     ·refine Mir.skip fun e h => ?_
      cases h
      simp only [↓reduceIte, reduceCtorEq, nA, nE, nL, and_self, and_true, true_and, SL, eInt, encApiWord, Tryd.results44]
    ·intro v160
     refine Mir.toK ?_
     refine Mir.region fun e h => ?_
     simp only [↓reduceIte, reduceCtorEq, nA, nS, nM, nE, nL, nT, nB, iT, iN, iE, and_self, SR, SV, eInt, encApiWord]
     cases h
     simp only [↓reduceIte, reduceCtorEq, nA, nE, nL, and_self, and_true, true_and, SL, eInt, encApiWord, Tryd.results44, qr89]
   ·intro v158 qd90
    refine Mir.seqK ?_
    refine Mir.region fun e h => ?_
    simp only [↓reduceIte, reduceCtorEq, nA, nS, nM, nE, nL, nT, nB, iT, iN, iE, and_self, SR, SV, qd90, eInt, encApiWord]
    refine Mir.use (e := e) ?_ h
    refine Mir.seqK ?_
    refine Mir.condF rfl ?_
    refine Mir.exit fun e h => ?_
    cases h
    simp only [↓reduceIte, reduceCtorEq, nA, nE, nL, and_self, and_true, true_and, SL, eInt, encApiWord, Tryd.results44]
  ·intro v142
   refine Mir.toK ?_
   refine Mir.seqK ?_
   refine Mir.region fun e h => ?_
   simp only [↓reduceIte, reduceCtorEq, nA, nS, nM, nE, nL, nT, nB, iT, iN, iE, and_self, SR, SV, eInt, encApiWord]
   refine Mir.use (e := e) ?_ h
   refine Mir.ret fun e h => ?_
   cases h
   simp only [↓reduceIte, reduceCtorEq, nA, nE, nL, and_self, and_true, true_and, SL, eInt, encApiWord, Tryd.results44]

def inp_Blocks (a0 : (List ApiBlock)) (a1 : TableTable) (a2 : ApiPos) : Option ((List ApiMotion) × InterpreterAlarm) :=
  bindO (inp_checked (TableTable.mk a1.Work a1.Lengths) a2) fun (y101 : Int) =>
  if (y101 != 0) = true then
    some ([], InterpreterAlarm.mk (-1) y101)
  else
    bindO (md_New ) fun (y102 : ModalState) =>
    bindX (guardO (okIdx a0) (
        rangeX (fun (i1134 : Nat) (e1136 : ApiBlock) (v1135 : (List ApiMotion) × ApiPos × ModalState × CycleCycle) =>
          bindX (bindO (inp_Step v1135.2.2.1 v1135.2.2.2 e1136 (TableTable.mk a1.Work a1.Lengths) v1135.2.1) fun (y1177 : (List ApiMotion) × ModalState × CycleCycle × Int) =>
              bindO (if (y1177.2.2.2 == 0) = true then
                    some (decide ((IntKind.i64.wrap ((v1135.1.length : Int) + (y1177.1.length : Int))) > 20000))
                  else
                    some false) fun (v1178 : Bool) =>
              bindO (if v1178 = true then
                    some 3
                  else
                    some y1177.2.2.2) fun (v1179 : Int) =>
              if (v1179 != 0) = true then
                some (.ret (.ret (.ret (v1135.1, InterpreterAlarm.mk (i1134 : Int) v1179))))
              else
                bindO (guardO (okIdx y1177.1) (
                    rangeX (fun (i1208 : Nat) (e1210 : ApiMotion) (v1209 : (List ApiMotion)) =>
                      bindO (gt v1209 (i1208 : Int)) fun (e1212 : ApiMotion) =>
                      some (.go (v1209.set (Int.toNat (i1208 : Int)) (ApiMotion.mk e1212.From e1212.To e1212.Rate e1212.Tool (i1134 : Int))))) (fun (v1209 : (List ApiMotion)) => some v1209) y1177.1 0 y1177.1)) fun (v1196 : (List ApiMotion)) =>
                guardO (okLen (v1135.1.length + v1196.length)) (
                bindO (inp_End v1135.2.1 v1196) fun (y1213 : ApiPos) =>
                bindO (bk_Codes e1136 77) fun (y1214 : (List Int)) =>
                bindO (slices_Contains_int64_int64 y1214 30000) fun (y1215 : Bool) =>
                if y1215 = true then
                  some (.ret (.ret (.ret (v1135.1 ++ v1196, InterpreterAlarm.mk (-1) 0))))
                else
                  some (.go (v1135.1 ++ v1196, y1213, y1177.2.1, y1177.2.2.1)))) fun (v1176 : (List ApiMotion) × ApiPos × ModalState × CycleCycle) =>
          some (.go (v1176.1, v1176.2.1, v1176.2.2.1, v1176.2.2.2))) (fun (v1135 : (List ApiMotion) × ApiPos × ModalState × CycleCycle) => some (.go (v1135.1, v1135.2.1, v1135.2.2.1, v1135.2.2.2))) a0 0 ([], a2, y102, CycleCycle.mk 0 0 0 0 0 0 false))) fun (v885 : (List ApiMotion) × ApiPos × ModalState × CycleCycle) =>
    some (v885.1, InterpreterAlarm.mk (a0.length : Int) 13)
set_option maxHeartbeats 8000000 in
theorem inp_Blocks_spec {a0 : (List ApiBlock)} {a1 : TableTable} {a2 : ApiPos} {y : (List ApiMotion) × InterpreterAlarm} (h : inp_Blocks a0 a1 a2 = some y) : Spec gP 15 [.d (.list (List.map encApiBlock a0)), .agg [.d (.int .i64 a1.Work.e0.X), .d (.int .i64 a1.Work.e0.Y), .d (.int .i64 a1.Work.e0.Z), .d (.int .i64 a1.Work.e1.X), .d (.int .i64 a1.Work.e1.Y), .d (.int .i64 a1.Work.e1.Z), .d (.int .i64 a1.Work.e2.X), .d (.int .i64 a1.Work.e2.Y), .d (.int .i64 a1.Work.e2.Z), .d (.int .i64 a1.Work.e3.X), .d (.int .i64 a1.Work.e3.Y), .d (.int .i64 a1.Work.e3.Z), .d (.int .i64 a1.Work.e4.X), .d (.int .i64 a1.Work.e4.Y), .d (.int .i64 a1.Work.e4.Z), .d (.int .i64 a1.Work.e5.X), .d (.int .i64 a1.Work.e5.Y), .d (.int .i64 a1.Work.e5.Z), .d (.list (List.map encTableLength a1.Lengths))], .agg [.d (.int .i64 a2.X), .d (.int .i64 a2.Y), .d (.int .i64 a2.Z)]] (.tuple [.d (.list (List.map encApiMotion y.1)), .agg [.d (.int .i64 y.2.Block), .d (.int .i64 y.2.Code)]]) := by
  refine spec_mir Tryd.func15 rfl (by kernel_rfl) (by kernel_rfl) (fun y : (List ApiMotion) × InterpreterAlarm => .tuple [.d (.list (List.map encApiMotion y.1)), .agg [.d (.int .i64 y.2.Block), .d (.int .i64 y.2.Code)]]) ?_ h
  unfold inp_Blocks
  simp only [List.replicate, List.length, nS, nA, Tryd.ntmps15, SV]
  refine Mir.seqK ?_
  refine Mir.region fun e h => ?_
  simp only [↓reduceIte, reduceCtorEq, nA, nS, nM, nE, nL, nT, nB, iT, iN, iE, and_self, SR, SV, zero_49, encApiBlock, encApiMotion, encTableLength, rmap_set, spD]
  refine Mir.use (e := e) ?_ h
  refine Mir.seqK ?_
  refine Mir.seqK ?_
  refine Mir.bind fun y101 hy1 => ?_
  refine Mir.region fun e h => ?_
  simp only [↓reduceIte, reduceCtorEq, nA, nS, nM, nE, nL, nT, nB, iT, iN, iE, and_self, SR, SV, ag_54, sz_54, ag_24, sz_24, encApiBlock, encApiMotion, encTableLength, rmap_set, spD]
  refine SpecS.by (inp_checked_spec hy1) (by simp only [↓reduceIte, reduceCtorEq, nA, nE, nL, and_self, and_true, true_and, SL, encApiBlock, encApiMotion, encTableLength, rmap_set, spD]) ?_
  simp only [↓reduceIte, reduceCtorEq, nA, nS, nM, nE, nL, nT, nB, iT, iN, iE, and_self, SR, SV, encApiBlock, encApiMotion, encTableLength, rmap_set, spD]
  refine Mir.use (e := e) ?_ h
  refine Mir.seqK ?_
  refine Mir.region fun e h => ?_
  simp only [↓reduceIte, reduceCtorEq, nA, nS, nM, nE, nL, nT, nB, iT, iN, iE, and_self, SR, SV, encApiBlock, encApiMotion, encTableLength, rmap_set, spD]
  refine Mir.use (e := e) ?_ h
  refine Mir.cond rfl (fun hb3 => ?_) (fun hb3 => ?_)
  ·refine Mir.seqK ?_
   refine Mir.region fun e h => ?_
   simp only [↓reduceIte, reduceCtorEq, nA, nS, nM, nE, nL, nT, nB, iT, iN, iE, and_self, SR, SV, zero_49, pl_49, sz_49, encApiBlock, encTableLength]
   refine Mir.use (e := e) ?_ h
   refine Mir.ret fun e h => ?_
   cases h
   simp only [↓reduceIte, reduceCtorEq, nA, nE, nL, and_self, and_true, true_and, SL, encApiBlock, encTableLength, Tryd.results15, ag_49, sz_49]
  ·refine Mir.skip ?_
   refine Mir.toK ?_
   refine Mir.seqK ?_
   refine Mir.bind fun y102 hy4 => ?_
   refine Mir.region fun e h => ?_
   simp only [↓reduceIte, reduceCtorEq, nA, nS, nM, nE, nL, nT, nB, iT, iN, iE, and_self, SR, SV, encApiBlock, encApiMotion, encTableLength, rmap_set, spD]
   refine SpecS.by (md_New_spec hy4) (rfl) ?_
   simp only [↓reduceIte, reduceCtorEq, nA, nS, nM, nE, nL, nT, nB, iT, iN, iE, and_self, SR, SV, zero_68, pl_68, zero_65, sz_65, sz_68, encApiBlock, encApiMotion, encTableLength, rmap_set, spD]
   refine Mir.use (e := e) ?_ h
   refine Mir.seqK ?_
   refine Mir.region fun e h => ?_
   simp only [↓reduceIte, reduceCtorEq, nA, nS, nM, nE, nL, nT, nB, iT, iN, iE, and_self, SR, SV, encApiBlock, encApiMotion, encTableLength, rmap_set, spD]
   refine Mir.use (e := e) ?_ h
   refine Mir.seqK ?_
   refine Mir.seqK ?_
   refine Mir.region fun e h => ?_
   simp only [↓reduceIte, reduceCtorEq, nA, nS, nM, nE, nL, nT, nB, iT, iN, iE, and_self, SR, SV, und_43, encApiBlock, encApiMotion, encTableLength, rmap_set, spD]
   refine Mir.use (e := e) ?_ h
   refine Mir.gh [.slot 11 62] rfl ?_
   refine Mir.join (fun v885 : (List ApiMotion) × ApiPos × ModalState × CycleCycle => [.d (.list (List.map encApiBlock a0)), U, U, U, U, U, U, .ptr 2 0, U, U, U, .own 0 (List.map encApiMotion v885.1), U, U, U, U, U, U, U, U, U, U, U, U, U, U, U, U, U, U, U, U, U, U, U, U, U, U, U, U, U, U, U, U, U, U, U, U, U, U, U, U, U, U, U, U, U, U, U, U, U, U, U, U, U, U, U, U, U, U, U, U, U, U, U, U, U, U, U, U, U, U, U, U, U, U, U, U, U, U, U]) (fun v885 : (List ApiMotion) × ApiPos × ModalState × CycleCycle => ⟨[[.d (.int .i64 a1.Work.e0.X), .d (.int .i64 a1.Work.e0.Y), .d (.int .i64 a1.Work.e0.Z), .d (.int .i64 a1.Work.e1.X), .d (.int .i64 a1.Work.e1.Y), .d (.int .i64 a1.Work.e1.Z), .d (.int .i64 a1.Work.e2.X), .d (.int .i64 a1.Work.e2.Y), .d (.int .i64 a1.Work.e2.Z), .d (.int .i64 a1.Work.e3.X), .d (.int .i64 a1.Work.e3.Y), .d (.int .i64 a1.Work.e3.Z), .d (.int .i64 a1.Work.e4.X), .d (.int .i64 a1.Work.e4.Y), .d (.int .i64 a1.Work.e4.Z), .d (.int .i64 a1.Work.e5.X), .d (.int .i64 a1.Work.e5.Y), .d (.int .i64 a1.Work.e5.Z), .d (.list (List.map encTableLength a1.Lengths))], [.d (.int .i64 v885.2.1.X), .d (.int .i64 v885.2.1.Y), .d (.int .i64 v885.2.1.Z)], [.d (.int .i64 0), .d (.int .i64 0)], [.d (.int .i64 v885.2.2.1.Motion), .d (.int .i64 v885.2.2.1.Distance), .d (.int .i64 v885.2.2.1.Work), .d (.int .i64 v885.2.2.1.Length), .d (.int .i64 v885.2.2.1.Return), .d (.int .i64 v885.2.2.1.Feed), .d (.int .i64 v885.2.2.1.Tool), .d (.int .i64 v885.2.2.1.Offset)], [.d (.int .i64 v885.2.2.2.Code), .d (.int .i64 v885.2.2.2.R), .d (.int .i64 v885.2.2.2.Z), .d (.int .i64 v885.2.2.2.Q), .d (.int .i64 v885.2.2.2.Rate), .d (.int .i64 v885.2.2.2.Initial), .d (.bool v885.2.2.2.High)]], [(62, v885.1.length)]⟩) (fun _ => rfl) ?_ ?_
   ·refine Mir.block ?_
    refine Mir.guard fun qg1179 => ?_
    refine Mir.range (fun (i1134 : Nat) (v1135 : (List ApiMotion) × ApiPos × ModalState × CycleCycle) => [.d (.list (List.map encApiBlock a0)), U, U, U, .ptr 0 0, .ptr 1 0, U, .ptr 2 0, U, .ptr 3 0, .ptr 4 0, .own 0 (List.map encApiMotion v1135.1), U, U, U, U, U, U, U, U, U, U, U, U, U, U, U, U, .d (.list (List.map encApiBlock a0)), .d (.int .i64 (a0.length : Int)), .d (.int .i64 (i1134 : Int)), U, U, U, U, U, U, U, U, U, U, U, U, U, U, U, U, U, U, U, U, U, U, U, U, U, U, U, U, U, U, U, U, U, U, U, U, U, U, U, U, U, U, U, U, U, U, U, U, U, U, U, U, U, U, U, U, U, U, U, U]) (fun (i1134 : Nat) (v1135 : (List ApiMotion) × ApiPos × ModalState × CycleCycle) => ⟨[[.d (.int .i64 a1.Work.e0.X), .d (.int .i64 a1.Work.e0.Y), .d (.int .i64 a1.Work.e0.Z), .d (.int .i64 a1.Work.e1.X), .d (.int .i64 a1.Work.e1.Y), .d (.int .i64 a1.Work.e1.Z), .d (.int .i64 a1.Work.e2.X), .d (.int .i64 a1.Work.e2.Y), .d (.int .i64 a1.Work.e2.Z), .d (.int .i64 a1.Work.e3.X), .d (.int .i64 a1.Work.e3.Y), .d (.int .i64 a1.Work.e3.Z), .d (.int .i64 a1.Work.e4.X), .d (.int .i64 a1.Work.e4.Y), .d (.int .i64 a1.Work.e4.Z), .d (.int .i64 a1.Work.e5.X), .d (.int .i64 a1.Work.e5.Y), .d (.int .i64 a1.Work.e5.Z), .d (.list (List.map encTableLength a1.Lengths))], [.d (.int .i64 v1135.2.1.X), .d (.int .i64 v1135.2.1.Y), .d (.int .i64 v1135.2.1.Z)], [.d (.int .i64 0), .d (.int .i64 0)], [.d (.int .i64 v1135.2.2.1.Motion), .d (.int .i64 v1135.2.2.1.Distance), .d (.int .i64 v1135.2.2.1.Work), .d (.int .i64 v1135.2.2.1.Length), .d (.int .i64 v1135.2.2.1.Return), .d (.int .i64 v1135.2.2.1.Feed), .d (.int .i64 v1135.2.2.1.Tool), .d (.int .i64 v1135.2.2.1.Offset)], [.d (.int .i64 v1135.2.2.2.Code), .d (.int .i64 v1135.2.2.2.R), .d (.int .i64 v1135.2.2.2.Z), .d (.int .i64 v1135.2.2.2.Q), .d (.int .i64 v1135.2.2.2.Rate), .d (.int .i64 v1135.2.2.2.Initial), .d (.bool v1135.2.2.2.High)]], [(62, v1135.1.length)]⟩) qg1179 (fun _ _ => rfl) (by simp only [↓reduceIte, reduceCtorEq, nA, nE, nL, and_self, and_true, true_and, SL, encApiBlock, encApiMotion, encTableLength, rmap_set, spD, (nr rfl : ((0 : Nat) : Int) = 0)]) (by simp only [↓reduceIte, reduceCtorEq, nA, nE, nL, and_self, and_true, true_and, SL, encApiBlock, encApiMotion, encTableLength, rmap_set, spD, (nr rfl : ((0 : Nat) : Int) = 0)]) ?_ ?_
    ·intro i1134 e1136 v1135 qr1177
     refine Mir.seqK ?_
     refine Mir.region fun e h => ?_
     simp only [↓reduceIte, reduceCtorEq, nA, nS, nM, nE, nL, nT, nB, iT, iN, iE, and_self, SR, SV, qr1177, encApiBlock, encApiMotion, encTableLength, rmap_set, spD]
     refine Mir.use (e := e) ?_ h
     refine Mir.seqK ?_
     refine Mir.condT rfl ?_
     refine Mir.skip ?_
     refine Mir.toK ?_
     refine Mir.seqK ?_
     refine Mir.join (fun v1176 : (List ApiMotion) × ApiPos × ModalState × CycleCycle => [.d (.list (List.map encApiBlock a0)), U, U, U, .ptr 0 0, .ptr 1 0, U, .ptr 2 0, U, .ptr 3 0, .ptr 4 0, .own 0 (List.map encApiMotion v1176.1), U, U, U, U, U, U, U, U, U, U, U, U, U, U, U, U, .d (.list (List.map encApiBlock a0)), .d (.int .i64 (a0.length : Int)), .d (.int .i64 (i1134 : Int)), U, U, U, U, U, U, U, U, U, U, U, U, U, U, U, U, U, U, U, U, U, U, U, U, U, U, U, U, U, U, U, U, U, U, U, U, U, U, U, U, U, U, U, U, U, U, U, U, U, U, U, U, U, U, U, U, U, U, U, U]) (fun v1176 : (List ApiMotion) × ApiPos × ModalState × CycleCycle => ⟨[[.d (.int .i64 a1.Work.e0.X), .d (.int .i64 a1.Work.e0.Y), .d (.int .i64 a1.Work.e0.Z), .d (.int .i64 a1.Work.e1.X), .d (.int .i64 a1.Work.e1.Y), .d (.int .i64 a1.Work.e1.Z), .d (.int .i64 a1.Work.e2.X), .d (.int .i64 a1.Work.e2.Y), .d (.int .i64 a1.Work.e2.Z), .d (.int .i64 a1.Work.e3.X), .d (.int .i64 a1.Work.e3.Y), .d (.int .i64 a1.Work.e3.Z), .d (.int .i64 a1.Work.e4.X), .d (.int .i64 a1.Work.e4.Y), .d (.int .i64 a1.Work.e4.Z), .d (.int .i64 a1.Work.e5.X), .d (.int .i64 a1.Work.e5.Y), .d (.int .i64 a1.Work.e5.Z), .d (.list (List.map encTableLength a1.Lengths))], [.d (.int .i64 v1176.2.1.X), .d (.int .i64 v1176.2.1.Y), .d (.int .i64 v1176.2.1.Z)], [.d (.int .i64 0), .d (.int .i64 0)], [.d (.int .i64 v1176.2.2.1.Motion), .d (.int .i64 v1176.2.2.1.Distance), .d (.int .i64 v1176.2.2.1.Work), .d (.int .i64 v1176.2.2.1.Length), .d (.int .i64 v1176.2.2.1.Return), .d (.int .i64 v1176.2.2.1.Feed), .d (.int .i64 v1176.2.2.1.Tool), .d (.int .i64 v1176.2.2.1.Offset)], [.d (.int .i64 v1176.2.2.2.Code), .d (.int .i64 v1176.2.2.2.R), .d (.int .i64 v1176.2.2.2.Z), .d (.int .i64 v1176.2.2.2.Q), .d (.int .i64 v1176.2.2.2.Rate), .d (.int .i64 v1176.2.2.2.Initial), .d (.bool v1176.2.2.2.High)]], [(62, v1176.1.length)]⟩) (fun _ => rfl) ?_ ?_
     ·refine Mir.block ?_
      refine Mir.seqK ?_
      refine Mir.region fun e h => ?_
      simp only [↓reduceIte, reduceCtorEq, nA, nS, nM, nE, nL, nT, nB, iT, iN, iE, and_self, SR, SV, und_43, sz_42, qr1177, Int.toNat_natCast, ag_42, zero_42, encApiBlock, encApiMotion, encTableLength, rmap_set, spD]
      refine Mir.use (e := e) ?_ h
      refine Mir.seqK ?_
      refine Mir.bind fun y1177 hy1225 => ?_
      refine Mir.region fun e h => ?_
      simp only [↓reduceIte, reduceCtorEq, nA, nS, nM, nE, nL, nT, nB, iT, iN, iE, and_self, SR, SV, ag_65, sz_65, ag_68, sz_68, ag_42, sz_42, ag_54, sz_54, ag_24, sz_24, encApiBlock, encApiMotion, encTableLength, rmap_set, spD]
      refine SpecX.toS (inp_Step_specX hy1225) (by simp only [↓reduceIte, reduceCtorEq, nA, nE, nL, and_self, and_true, true_and, SL, encApiBlock, encApiMotion, encTableLength, rmap_set, spD]) ?_
      simp only [↓reduceIte, reduceCtorEq, nA, nS, nM, nE, nL, nT, nB, iT, iN, iE, and_self, SR, SV, zero_65, zero_68, sz_65, sz_68, encApiBlock, encApiMotion, encTableLength, rmap_set, spD]
      refine Mir.use (e := e) ?_ h
      refine Mir.seqK ?_
      refine Mir.seqK ?_
      refine Mir.joinO (fun v1178 : Bool => [.d (.list (List.map encApiBlock a0)), U, U, U, .ptr 0 0, .ptr 1 0, U, .ptr 2 0, U, .ptr 3 0, .ptr 4 0, .own 0 (List.map encApiMotion v1135.1), .d (.int .i64 (i1134 : Int)), .ptr 5 0, .gr 6 0, .ptr 7 0, .ptr 8 0, .d (.int .i64 y1177.2.2.2), U, U, U, U, U, U, U, U, U, U, .d (.list (List.map encApiBlock a0)), .d (.int .i64 (a0.length : Int)), .d (.int .i64 (i1134 : Int)), U, U, U, U, U, U, U, U, U, U, U, U, U, U, U, U, U, U, U, U, U, U, U, U, .d (.bool v1178), U, U, U, U, U, U, U, U, U, U, U, U, U, U, U, U, U, U, U, U, U, U, U, U, U, U, U, U, U, U, U, U, U, U, U]) (fun v1178 : Bool => ⟨[[.d (.int .i64 a1.Work.e0.X), .d (.int .i64 a1.Work.e0.Y), .d (.int .i64 a1.Work.e0.Z), .d (.int .i64 a1.Work.e1.X), .d (.int .i64 a1.Work.e1.Y), .d (.int .i64 a1.Work.e1.Z), .d (.int .i64 a1.Work.e2.X), .d (.int .i64 a1.Work.e2.Y), .d (.int .i64 a1.Work.e2.Z), .d (.int .i64 a1.Work.e3.X), .d (.int .i64 a1.Work.e3.Y), .d (.int .i64 a1.Work.e3.Z), .d (.int .i64 a1.Work.e4.X), .d (.int .i64 a1.Work.e4.Y), .d (.int .i64 a1.Work.e4.Z), .d (.int .i64 a1.Work.e5.X), .d (.int .i64 a1.Work.e5.Y), .d (.int .i64 a1.Work.e5.Z), .d (.list (List.map encTableLength a1.Lengths))], [.d (.int .i64 v1135.2.1.X), .d (.int .i64 v1135.2.1.Y), .d (.int .i64 v1135.2.1.Z)], [.d (.int .i64 0), .d (.int .i64 0)], [.d (.int .i64 v1135.2.2.1.Motion), .d (.int .i64 v1135.2.2.1.Distance), .d (.int .i64 v1135.2.2.1.Work), .d (.int .i64 v1135.2.2.1.Length), .d (.int .i64 v1135.2.2.1.Return), .d (.int .i64 v1135.2.2.1.Feed), .d (.int .i64 v1135.2.2.1.Tool), .d (.int .i64 v1135.2.2.1.Offset)], [.d (.int .i64 v1135.2.2.2.Code), .d (.int .i64 v1135.2.2.2.R), .d (.int .i64 v1135.2.2.2.Z), .d (.int .i64 v1135.2.2.2.Q), .d (.int .i64 v1135.2.2.2.Rate), .d (.int .i64 v1135.2.2.2.Initial), .d (.bool v1135.2.2.2.High)], [.d (.bool e1136.Skip), .d (.list (List.map encApiWord e1136.Words)), .d (.str e1136.Comment)], [.rowc 62 0 (List.map encApiMotion y1177.1)], [.d (.int .i64 y1177.2.1.Motion), .d (.int .i64 y1177.2.1.Distance), .d (.int .i64 y1177.2.1.Work), .d (.int .i64 y1177.2.1.Length), .d (.int .i64 y1177.2.1.Return), .d (.int .i64 y1177.2.1.Feed), .d (.int .i64 y1177.2.1.Tool), .d (.int .i64 y1177.2.1.Offset)], [.d (.int .i64 y1177.2.2.1.Code), .d (.int .i64 y1177.2.2.1.R), .d (.int .i64 y1177.2.2.1.Z), .d (.int .i64 y1177.2.2.1.Q), .d (.int .i64 y1177.2.2.1.Rate), .d (.int .i64 y1177.2.2.1.Initial), .d (.bool y1177.2.2.1.High)]], [(62, v1135.1.length)]⟩) (fun _ => rfl) ?_ ?_
      ·refine Mir.ite (fun hb1226 => ?_) (fun hb1226 => ?_)
       ·refine Mir.regionW fun e h => ?_
        refine regW.alt 6 rfl ?_
        simp only [↓reduceIte, reduceCtorEq, nA, nS, nM, nE, nL, nT, nB, iT, iN, iE, and_self, SR, SV, w_none, w_eq, and_true, true_and, tkS, tk0, tkN, dpS, dp0, und_47, encApiBlock, encApiMotion, encTableLength, rmap_set, spD, hb1226]
        refine alt_lenR rfl rfl und_47 ?_
        refine regW.of ?_
        simp only [↓reduceIte, reduceCtorEq, nA, nS, nM, nE, nL, nT, nB, iT, iN, iE, and_self, SR, SV, w_none, w_eq, and_true, true_and, tkS, tk0, tkN, dpS, dp0, und_47, encApiBlock, encApiMotion, encTableLength, rmap_set, spD, hb1226]
        cases h
        simp only [↓reduceIte, reduceCtorEq, nA, nE, nL, and_self, and_true, true_and, SL, encApiBlock, encApiMotion, encTableLength, rmap_set, spD, hb1226]
       ·refine Mir.region fun e h => ?_
        simp only [↓reduceIte, reduceCtorEq, nA, nS, nM, nE, nL, nT, nB, iT, iN, iE, and_self, SR, SV, encApiBlock, encApiMotion, encTableLength, rmap_set, spD, hb1226]
        cases h
        simp only [↓reduceIte, reduceCtorEq, nA, nE, nL, and_self, and_true, true_and, SL, encApiBlock, encApiMotion, encTableLength, rmap_set, spD, hb1226]
      ·intro v1178
       refine Mir.toK ?_
       refine Mir.joinO (fun v1179 : Int => [.d (.list (List.map encApiBlock a0)), U, U, U, .ptr 0 0, .ptr 1 0, U, .ptr 2 0, U, .ptr 3 0, .ptr 4 0, .own 0 (List.map encApiMotion v1135.1), .d (.int .i64 (i1134 : Int)), .ptr 5 0, .gr 6 0, .ptr 7 0, .ptr 8 0, .d (.int .i64 v1179), U, U, U, U, U, U, U, U, U, U, .d (.list (List.map encApiBlock a0)), .d (.int .i64 (a0.length : Int)), .d (.int .i64 (i1134 : Int)), U, U, U, U, U, U, U, U, U, U, U, U, U, U, U, U, U, U, U, U, U, U, U, U, U, U, U, U, U, U, U, U, U, U, U, U, U, U, U, U, U, U, U, U, U, U, U, U, U, U, U, U, U, U, U, U, U, U, U, U]) (fun v1179 : Int => ⟨[[.d (.int .i64 a1.Work.e0.X), .d (.int .i64 a1.Work.e0.Y), .d (.int .i64 a1.Work.e0.Z), .d (.int .i64 a1.Work.e1.X), .d (.int .i64 a1.Work.e1.Y), .d (.int .i64 a1.Work.e1.Z), .d (.int .i64 a1.Work.e2.X), .d (.int .i64 a1.Work.e2.Y), .d (.int .i64 a1.Work.e2.Z), .d (.int .i64 a1.Work.e3.X), .d (.int .i64 a1.Work.e3.Y), .d (.int .i64 a1.Work.e3.Z), .d (.int .i64 a1.Work.e4.X), .d (.int .i64 a1.Work.e4.Y), .d (.int .i64 a1.Work.e4.Z), .d (.int .i64 a1.Work.e5.X), .d (.int .i64 a1.Work.e5.Y), .d (.int .i64 a1.Work.e5.Z), .d (.list (List.map encTableLength a1.Lengths))], [.d (.int .i64 v1135.2.1.X), .d (.int .i64 v1135.2.1.Y), .d (.int .i64 v1135.2.1.Z)], [.d (.int .i64 0), .d (.int .i64 0)], [.d (.int .i64 v1135.2.2.1.Motion), .d (.int .i64 v1135.2.2.1.Distance), .d (.int .i64 v1135.2.2.1.Work), .d (.int .i64 v1135.2.2.1.Length), .d (.int .i64 v1135.2.2.1.Return), .d (.int .i64 v1135.2.2.1.Feed), .d (.int .i64 v1135.2.2.1.Tool), .d (.int .i64 v1135.2.2.1.Offset)], [.d (.int .i64 v1135.2.2.2.Code), .d (.int .i64 v1135.2.2.2.R), .d (.int .i64 v1135.2.2.2.Z), .d (.int .i64 v1135.2.2.2.Q), .d (.int .i64 v1135.2.2.2.Rate), .d (.int .i64 v1135.2.2.2.Initial), .d (.bool v1135.2.2.2.High)], [.d (.bool e1136.Skip), .d (.list (List.map encApiWord e1136.Words)), .d (.str e1136.Comment)], [.rowc 62 0 (List.map encApiMotion y1177.1)], [.d (.int .i64 y1177.2.1.Motion), .d (.int .i64 y1177.2.1.Distance), .d (.int .i64 y1177.2.1.Work), .d (.int .i64 y1177.2.1.Length), .d (.int .i64 y1177.2.1.Return), .d (.int .i64 y1177.2.1.Feed), .d (.int .i64 y1177.2.1.Tool), .d (.int .i64 y1177.2.1.Offset)], [.d (.int .i64 y1177.2.2.1.Code), .d (.int .i64 y1177.2.2.1.R), .d (.int .i64 y1177.2.2.1.Z), .d (.int .i64 y1177.2.2.1.Q), .d (.int .i64 y1177.2.2.1.Rate), .d (.int .i64 y1177.2.2.1.Initial), .d (.bool y1177.2.2.1.High)]], [(62, v1135.1.length)]⟩) (fun _ => rfl) ?_ ?_
       ·refine Mir.cond rfl (fun hb1228 => ?_) (fun hb1228 => ?_)
        ·refine Mir.region fun e h => ?_
         simp only [↓reduceIte, reduceCtorEq, nA, nS, nM, nE, nL, nT, nB, iT, iN, iE, and_self, SR, SV, encApiBlock, encApiMotion, encTableLength, rmap_set, spD]
         cases h
         simp only [↓reduceIte, reduceCtorEq, nA, nE, nL, and_self, and_true, true_and, SL, encApiBlock, encApiMotion, encTableLength, rmap_set, spD, Tryd.results15, ag_49, sz_49]
        ·refine Mir.skip fun e h => ?_
         cases h
         simp only [↓reduceIte, reduceCtorEq, nA, nE, nL, and_self, and_true, true_and, SL, encApiBlock, encApiMotion, encTableLength, rmap_set, spD, Tryd.results15, ag_49, sz_49]
       ·intro v1179
        refine Mir.toK ?_
        refine Mir.seqK ?_
        refine Mir.seqK ?_
        refine Mir.region fun e h => ?_
        simp only [↓reduceIte, reduceCtorEq, nA, nS, nM, nE, nL, nT, nB, iT, iN, iE, and_self, SR, SV, encApiBlock, encApiMotion, encTableLength, rmap_set, spD]
        refine Mir.use (e := e) ?_ h
        refine Mir.cond rfl (fun hb1230 => ?_) (fun hb1230 => ?_)
        ·refine Mir.seqK ?_
         refine Mir.region fun e h => ?_
         simp only [↓reduceIte, reduceCtorEq, nA, nS, nM, nE, nL, nT, nB, iT, iN, iE, and_self, SR, SV, zero_49, pl_49, sz_49, encApiBlock, encApiMotion, encTableLength, rmap_set, spD]
         refine Mir.use (e := e) ?_ h
         refine Mir.ret fun e h => ?_
         cases h
         simp only [↓reduceIte, reduceCtorEq, nA, nE, nL, and_self, and_true, true_and, SL, encApiBlock, encApiMotion, encTableLength, rmap_set, spD, Tryd.results15, ag_49, sz_49]
        ·refine Mir.skip ?_
         refine Mir.toK ?_
         refine Mir.seqK ?_
         refine Mir.seqK ?_
         refine Mir.regionW fun e h => ?_
         refine regW.alt 1 rfl ?_
         simp only [↓reduceIte, reduceCtorEq, nA, nS, nM, nE, nL, nT, nB, iT, iN, iE, and_self, SR, SV, w_none, w_eq, and_true, true_and, tkS, tk0, tkN, dpS, dp0, encApiBlock, encApiMotion, encTableLength, rmap_set, spD]
         refine alt_lenR rfl rfl und_47 ?_
         refine regW.of ?_
         simp only [↓reduceIte, reduceCtorEq, nA, nS, nM, nE, nL, nT, nB, iT, iN, iE, and_self, SR, SV, w_none, w_eq, and_true, true_and, tkS, tk0, tkN, dpS, dp0, und_47, encApiBlock, encApiMotion, encTableLength, rmap_set, spD]
         refine Mir.use (e := e) ?_ h
         refine Mir.joinO (fun v1196 : (List ApiMotion) => [.d (.list (List.map encApiBlock a0)), U, U, U, .ptr 0 0, .ptr 1 0, U, .ptr 2 0, U, .ptr 3 0, .ptr 4 0, .own 0 (List.map encApiMotion v1135.1), U, .ptr 5 0, .gr 6 0, .ptr 7 0, .ptr 8 0, U, U, U, U, U, U, U, U, U, U, U, .d (.list (List.map encApiBlock a0)), .d (.int .i64 (a0.length : Int)), .d (.int .i64 (i1134 : Int)), U, U, U, U, U, U, U, U, U, U, U, U, U, U, U, U, U, U, U, U, U, U, U, U, U, U, U, U, U, U, U, U, U, U, U, U, U, U, U, U, U, U, U, U, U, U, U, U, U, U, U, U, U, U, U, U, U, U, U, U]) (fun v1196 : (List ApiMotion) => ⟨[[.d (.int .i64 a1.Work.e0.X), .d (.int .i64 a1.Work.e0.Y), .d (.int .i64 a1.Work.e0.Z), .d (.int .i64 a1.Work.e1.X), .d (.int .i64 a1.Work.e1.Y), .d (.int .i64 a1.Work.e1.Z), .d (.int .i64 a1.Work.e2.X), .d (.int .i64 a1.Work.e2.Y), .d (.int .i64 a1.Work.e2.Z), .d (.int .i64 a1.Work.e3.X), .d (.int .i64 a1.Work.e3.Y), .d (.int .i64 a1.Work.e3.Z), .d (.int .i64 a1.Work.e4.X), .d (.int .i64 a1.Work.e4.Y), .d (.int .i64 a1.Work.e4.Z), .d (.int .i64 a1.Work.e5.X), .d (.int .i64 a1.Work.e5.Y), .d (.int .i64 a1.Work.e5.Z), .d (.list (List.map encTableLength a1.Lengths))], [.d (.int .i64 v1135.2.1.X), .d (.int .i64 v1135.2.1.Y), .d (.int .i64 v1135.2.1.Z)], [.d (.int .i64 0), .d (.int .i64 0)], [.d (.int .i64 v1135.2.2.1.Motion), .d (.int .i64 v1135.2.2.1.Distance), .d (.int .i64 v1135.2.2.1.Work), .d (.int .i64 v1135.2.2.1.Length), .d (.int .i64 v1135.2.2.1.Return), .d (.int .i64 v1135.2.2.1.Feed), .d (.int .i64 v1135.2.2.1.Tool), .d (.int .i64 v1135.2.2.1.Offset)], [.d (.int .i64 v1135.2.2.2.Code), .d (.int .i64 v1135.2.2.2.R), .d (.int .i64 v1135.2.2.2.Z), .d (.int .i64 v1135.2.2.2.Q), .d (.int .i64 v1135.2.2.2.Rate), .d (.int .i64 v1135.2.2.2.Initial), .d (.bool v1135.2.2.2.High)], [.d (.bool e1136.Skip), .d (.list (List.map encApiWord e1136.Words)), .d (.str e1136.Comment)], [.rowc 62 0 (List.map encApiMotion v1196)], [.d (.int .i64 y1177.2.1.Motion), .d (.int .i64 y1177.2.1.Distance), .d (.int .i64 y1177.2.1.Work), .d (.int .i64 y1177.2.1.Length), .d (.int .i64 y1177.2.1.Return), .d (.int .i64 y1177.2.1.Feed), .d (.int .i64 y1177.2.1.Tool), .d (.int .i64 y1177.2.1.Offset)], [.d (.int .i64 y1177.2.2.1.Code), .d (.int .i64 y1177.2.2.1.R), .d (.int .i64 y1177.2.2.1.Z), .d (.int .i64 y1177.2.2.1.Q), .d (.int .i64 y1177.2.2.1.Rate), .d (.int .i64 y1177.2.2.1.Initial), .d (.bool y1177.2.2.1.High)]], [(62, v1135.1.length)]⟩) (fun _ => rfl) ?_ ?_
         ·refine Mir.block ?_
          refine Mir.guard fun qg1262 => ?_
          refine Mir.range (fun (i1208 : Nat) (v1209 : (List ApiMotion)) => [.d (.list (List.map encApiBlock a0)), U, U, U, .ptr 0 0, .ptr 1 0, U, .ptr 2 0, U, .ptr 3 0, .ptr 4 0, .own 0 (List.map encApiMotion v1135.1), .d (.int .i64 (i1134 : Int)), .ptr 5 0, .gr 6 0, .ptr 7 0, .ptr 8 0, U, U, U, U, U, U, U, U, U, U, U, .d (.list (List.map encApiBlock a0)), .d (.int .i64 (a0.length : Int)), .d (.int .i64 (i1134 : Int)), U, U, U, U, U, U, U, U, U, U, U, U, U, U, U, U, U, U, U, U, U, U, U, U, U, U, U, U, U, U, U, U, .d (.int .i64 (y1177.1.length : Int)), .d (.int .i64 (i1208 : Int)), U, U, U, U, U, U, U, U, U, U, U, U, U, U, U, U, U, U, U, U, U, U, U, U, U, U]) (fun (i1208 : Nat) (v1209 : (List ApiMotion)) => ⟨[[.d (.int .i64 a1.Work.e0.X), .d (.int .i64 a1.Work.e0.Y), .d (.int .i64 a1.Work.e0.Z), .d (.int .i64 a1.Work.e1.X), .d (.int .i64 a1.Work.e1.Y), .d (.int .i64 a1.Work.e1.Z), .d (.int .i64 a1.Work.e2.X), .d (.int .i64 a1.Work.e2.Y), .d (.int .i64 a1.Work.e2.Z), .d (.int .i64 a1.Work.e3.X), .d (.int .i64 a1.Work.e3.Y), .d (.int .i64 a1.Work.e3.Z), .d (.int .i64 a1.Work.e4.X), .d (.int .i64 a1.Work.e4.Y), .d (.int .i64 a1.Work.e4.Z), .d (.int .i64 a1.Work.e5.X), .d (.int .i64 a1.Work.e5.Y), .d (.int .i64 a1.Work.e5.Z), .d (.list (List.map encTableLength a1.Lengths))], [.d (.int .i64 v1135.2.1.X), .d (.int .i64 v1135.2.1.Y), .d (.int .i64 v1135.2.1.Z)], [.d (.int .i64 0), .d (.int .i64 0)], [.d (.int .i64 v1135.2.2.1.Motion), .d (.int .i64 v1135.2.2.1.Distance), .d (.int .i64 v1135.2.2.1.Work), .d (.int .i64 v1135.2.2.1.Length), .d (.int .i64 v1135.2.2.1.Return), .d (.int .i64 v1135.2.2.1.Feed), .d (.int .i64 v1135.2.2.1.Tool), .d (.int .i64 v1135.2.2.1.Offset)], [.d (.int .i64 v1135.2.2.2.Code), .d (.int .i64 v1135.2.2.2.R), .d (.int .i64 v1135.2.2.2.Z), .d (.int .i64 v1135.2.2.2.Q), .d (.int .i64 v1135.2.2.2.Rate), .d (.int .i64 v1135.2.2.2.Initial), .d (.bool v1135.2.2.2.High)], [.d (.bool e1136.Skip), .d (.list (List.map encApiWord e1136.Words)), .d (.str e1136.Comment)], [.rowc 62 0 (List.map encApiMotion v1209)], [.d (.int .i64 y1177.2.1.Motion), .d (.int .i64 y1177.2.1.Distance), .d (.int .i64 y1177.2.1.Work), .d (.int .i64 y1177.2.1.Length), .d (.int .i64 y1177.2.1.Return), .d (.int .i64 y1177.2.1.Feed), .d (.int .i64 y1177.2.1.Tool), .d (.int .i64 y1177.2.1.Offset)], [.d (.int .i64 y1177.2.2.1.Code), .d (.int .i64 y1177.2.2.1.R), .d (.int .i64 y1177.2.2.1.Z), .d (.int .i64 y1177.2.2.1.Q), .d (.int .i64 y1177.2.2.1.Rate), .d (.int .i64 y1177.2.2.1.Initial), .d (.bool y1177.2.2.1.High)]], [(62, v1135.1.length)]⟩) qg1262 (fun _ _ => rfl) (by simp only [↓reduceIte, reduceCtorEq, nA, nE, nL, and_self, and_true, true_and, SL, encApiBlock, encApiMotion, encTableLength, rmap_set, spD, (nr rfl : ((0 : Nat) : Int) = 0)]) (by simp only [↓reduceIte, reduceCtorEq, nA, nE, nL, and_self, and_true, true_and, SL, encApiBlock, encApiMotion, encTableLength, rmap_set, spD, (nr rfl : ((0 : Nat) : Int) = 0)]) ?_ ?_
          ·intro i1208 e1210 v1209 qr1260
           refine Mir.seqK ?_
           refine Mir.region fun e h => ?_
           simp only [↓reduceIte, reduceCtorEq, nA, nS, nM, nE, nL, nT, nB, iT, iN, iE, and_self, SR, SV, qr1260, encApiBlock, encApiMotion, encTableLength, rmap_set, spD]
           refine Mir.use (e := e) ?_ h
           refine Mir.seqK ?_
           refine Mir.condT rfl ?_
           refine Mir.skip ?_
           refine Mir.toK ?_
           refine Mir.seqK ?_
           refine Mir.block ?_
           refine Mir.seqK ?_
           refine Mir.region fun e h => ?_
           simp only [↓reduceIte, reduceCtorEq, nA, nS, nM, nE, nL, nT, nB, iT, iN, iE, and_self, SR, SV, encApiBlock, encApiMotion, encTableLength, rmap_set, spD]
           refine Mir.use (e := e) ?_ h
           refine Mir.bind fun e1212 q1264 => ?_
           replace q1264 := gt_ok q1264
           refine Mir.regionW fun e h => ?_
           refine regW.alt 3 rfl ?_
           simp only [↓reduceIte, reduceCtorEq, nA, nS, nM, nE, nL, nT, nB, iT, iN, iE, and_self, SR, SV, w_none, w_eq, and_true, true_and, tkS, tk0, tkN, dpS, dp0, encApiBlock, encApiMotion, encTableLength, rmap_set, spD]
           refine alt_indexR rfl rfl rfl und_47 sz_62 (row_lo q1264.1) (row_hi q1264.2 q1264.1) ?_
           refine regW.alt 0 rfl ?_
           simp only [↓reduceIte, reduceCtorEq, nA, nS, nM, nE, nL, nT, nB, iT, iN, iE, and_self, SR, SV, w_none, w_eq, and_true, true_and, tkS, tk0, tkN, dpS, dp0, und_47, sz_62, encApiBlock, encApiMotion, encTableLength, rmap_set, spD]
           refine alt_fieldR rfl rfl fld_62_4 sz_3 (by decide) ?_
           refine regW.alt 0 rfl ?_
           simp only [↓reduceIte, reduceCtorEq, nA, nS, nM, nE, nL, nT, nB, iT, iN, iE, and_self, SR, SV, w_none, w_eq, and_true, true_and, tkS, tk0, tkN, dpS, dp0, fld_62_4, sz_3, encApiBlock, encApiMotion, encTableLength, rmap_set, spD]
           refine alt_storeR rfl rfl (row_at q1264.2) rfl rfl sz_3 rfl (Nat.le_of_ble_eq_true rfl) ?_
           refine regW.of ?_
           simp only [↓reduceIte, reduceCtorEq, nA, nS, nM, nE, nL, nT, nB, iT, iN, iE, and_self, SR, SV, w_none, w_eq, and_true, true_and, tkS, tk0, tkN, dpS, dp0, sz_3, encApiBlock, encApiMotion, encTableLength, rmap_set, spD]
           refine Mir.use (e := e) ?_ h
           refine Mir.region fun e h => ?_
           simp only [↓reduceIte, reduceCtorEq, nA, nS, nM, nE, nL, nT, nB, iT, iN, iE, and_self, SR, SV, encApiBlock, encApiMotion, encTableLength, rmap_set, spD]
           cases h
           simp only [↓reduceIte, reduceCtorEq, nA, nE, nL, and_self, and_true, true_and, SL, encApiBlock, encApiMotion, encTableLength, rmap_set, spD, Tryd.results15, ag_49, sz_49, qr1260]
          ·intro v1209 qd1261
           refine Mir.seqK ?_
           refine Mir.region fun e h => ?_
           simp only [↓reduceIte, reduceCtorEq, nA, nS, nM, nE, nL, nT, nB, iT, iN, iE, and_self, SR, SV, qd1261, encApiBlock, encApiMotion, encTableLength, rmap_set, spD]
           refine Mir.use (e := e) ?_ h
           refine Mir.seqK ?_
           refine Mir.condF rfl ?_
           refine Mir.exit fun e h => ?_
           cases h
           simp only [↓reduceIte, reduceCtorEq, nA, nE, nL, and_self, and_true, true_and, SL, encApiBlock, encApiMotion, encTableLength, rmap_set, spD, Tryd.results15, ag_49, sz_49]
         ·intro v1196
          refine Mir.toK ?_
          refine Mir.seqK ?_
          refine Mir.guard fun q1265 => ?_
          refine Mir.regionW fun e h => ?_
          refine regW.alt 2 rfl ?_
          simp only [↓reduceIte, reduceCtorEq, nA, nS, nM, nE, nL, nT, nB, iT, iN, iE, and_self, SR, SV, w_none, w_eq, and_true, true_and, tkS, tk0, tkN, dpS, dp0, encApiBlock, encApiMotion, encTableLength, rmap_set, spD]
          refine alt_appOwnR rfl rfl rfl app_47 (by kernel_rfl) (by simp only [ge0, geS, lm, xMA, xLA]) al_ApiMotion (ok2 q1265 (by simp only [lm]) (by simp only [lm])) ?_
          refine regW.of ?_
          simp only [↓reduceIte, reduceCtorEq, nA, nS, nM, nE, nL, nT, nB, iT, iN, iE, and_self, SR, SV, w_none, w_eq, and_true, true_and, tkS, tk0, tkN, dpS, dp0, lm, encApiBlock, encApiMotion, encTableLength, rmap_set, spD]
          refine Mir.use (e := e) ?_ h
          refine Mir.seqK ?_
          refine Mir.frz 6 rfl ?_
          simp only [↓reduceIte, reduceCtorEq, nA, nE, and_self, and_true, true_and, and_false, false_and, SZ]
          refine Mir.bind fun y1213 hy1266 => ?_
          refine Mir.regionD [(16, 9)] (by kernel_rfl) fun e h => ?_
          simp only [↓reduceIte, reduceCtorEq, nA, nS, nM, nE, nL, nT, nB, iT, iN, iE, and_self, SR, SV, sepL_nil, sepL_cons, sepV_ne, sepV_d, sepV_i, true_and, Bool.and_self, ag_65, sz_65, ag_68, sz_68, ag_24, sz_24, encApiBlock, encApiMotion, encTableLength, rmap_set, spD]
          refine Spec.by (inp_End_spec hy1266) (by simp only [↓reduceIte, reduceCtorEq, nA, nE, nL, and_self, and_true, true_and, SL, encApiBlock, encApiMotion, encTableLength, rmap_set, spD]) ?_
          simp only [↓reduceIte, reduceCtorEq, nA, nS, nM, nE, nL, nT, nB, iT, iN, iE, and_self, SR, SV, sepL_nil, sepL_cons, sepV_ne, sepV_d, sepV_i, true_and, Bool.and_self, sz_65, sz_68, sz_24, encApiBlock, encApiMotion, encTableLength, rmap_set, spD]
          refine Mir.use (e := e) ?_ h
          refine Mir.seqK ?_
          refine Mir.bind fun y1214 hy1267 => ?_
          refine Mir.bind fun y1215 hy1268 => ?_
          refine Mir.region fun e h => ?_
          simp only [↓reduceIte, reduceCtorEq, nA, nS, nM, nE, nL, nT, nB, iT, iN, iE, and_self, SR, SV, ag_42, sz_42, encApiBlock, encApiMotion, encTableLength, rmap_set, spD]
          refine SpecS.by (bk_Codes_spec hy1267) (by simp only [↓reduceIte, reduceCtorEq, nA, nE, nL, and_self, and_true, true_and, SL, encApiBlock, encApiMotion, encTableLength, rmap_set, spD]) ?_
          simp only [↓reduceIte, reduceCtorEq, nA, nS, nM, nE, nL, nT, nB, iT, iN, iE, and_self, SR, SV, encApiBlock, encApiMotion, encTableLength, rmap_set, spD]
          refine SpecS.by (slices_Contains_int64_int64_spec hy1268) (by simp only [↓reduceIte, reduceCtorEq, nA, nE, nL, and_self, and_true, true_and, SL, encApiBlock, encApiMotion, encTableLength, rmap_set, spD]) ?_
          simp only [↓reduceIte, reduceCtorEq, nA, nS, nM, nE, nL, nT, nB, iT, iN, iE, and_self, SR, SV, encApiBlock, encApiMotion, encTableLength, rmap_set, spD]
          refine Mir.use (e := e) ?_ h
          refine Mir.cond rfl (fun hb1269 => ?_) (fun hb1269 => ?_)
          ·refine Mir.seqK ?_
           refine Mir.region fun e h => ?_
           simp only [↓reduceIte, reduceCtorEq, nA, nS, nM, nE, nL, nT, nB, iT, iN, iE, and_self, SR, SV, zero_49, pl_49, sz_49, encApiBlock, encApiMotion, encTableLength, rmap_set, spD]
           refine Mir.use (e := e) ?_ h
           refine Mir.ret fun e h => ?_
           cases h
           simp only [↓reduceIte, reduceCtorEq, nA, nE, nL, and_self, and_true, true_and, SL, encApiBlock, encApiMotion, encTableLength, rmap_set, spD, Tryd.results15, ag_49, sz_49]
          ·refine Mir.skip fun e h => ?_
           cases h
           simp only [↓reduceIte, reduceCtorEq, nA, nE, nL, and_self, and_true, true_and, SL, encApiBlock, encApiMotion, encTableLength, rmap_set, spD, Tryd.results15, ag_49, sz_49]
     ·intro v1176
      refine Mir.toK ?_
      refine Mir.region fun e h => ?_
      simp only [↓reduceIte, reduceCtorEq, nA, nS, nM, nE, nL, nT, nB, iT, iN, iE, and_self, SR, SV, encApiBlock, encApiMotion, encTableLength, rmap_set, spD]
      cases h
      simp only [↓reduceIte, reduceCtorEq, nA, nE, nL, and_self, and_true, true_and, SL, encApiBlock, encApiMotion, encTableLength, rmap_set, spD, Tryd.results15, ag_49, sz_49, qr1177]
    ·intro v1135 qd1178
     refine Mir.seqK ?_
     refine Mir.region fun e h => ?_
     simp only [↓reduceIte, reduceCtorEq, nA, nS, nM, nE, nL, nT, nB, iT, iN, iE, and_self, SR, SV, qd1178, encApiBlock, encApiMotion, encTableLength, rmap_set, spD]
     refine Mir.use (e := e) ?_ h
     refine Mir.seqK ?_
     refine Mir.condF rfl ?_
     refine Mir.exit fun e h => ?_
     cases h
     simp only [↓reduceIte, reduceCtorEq, nA, nE, nL, and_self, and_true, true_and, SL, encApiBlock, encApiMotion, encTableLength, rmap_set, spD, Tryd.results15, ag_49, sz_49]
   ·intro v885
    refine Mir.toK ?_
    refine Mir.seqK ?_
    refine Mir.region fun e h => ?_
    simp only [↓reduceIte, reduceCtorEq, nA, nS, nM, nE, nL, nT, nB, iT, iN, iE, and_self, SR, SV, und_43, zero_49, pl_49, sz_49, encApiBlock, encApiMotion, encTableLength, rmap_set, spD]
    refine Mir.use (e := e) ?_ h
    refine Mir.ret fun e h => ?_
    cases h
    simp only [↓reduceIte, reduceCtorEq, nA, nE, nL, and_self, and_true, true_and, SL, encApiBlock, encApiMotion, encTableLength, rmap_set, spD, Tryd.results15, ag_49, sz_49]

def l47_awake  : Option Bool :=
  bindO (l47_program true) fun (y101 : (List ApiBlock)) =>
  bindO (r47_Table ) fun (y102 : R45Table) =>
  bindO (l47_theirs y102) fun (y103 : TableTable) =>
  bindO (inp_Blocks y101 y103 (ApiPos.mk 0 0 0)) fun (y104 : (List ApiMotion) × InterpreterAlarm) =>
  bindO (l47_program false) fun (y105 : (List ApiBlock)) =>
  bindO (r47_Table ) fun (y106 : R45Table) =>
  bindO (l47_theirs y106) fun (y107 : TableTable) =>
  bindO (inp_Blocks y105 y107 (ApiPos.mk 0 0 0)) fun (y108 : (List ApiMotion) × InterpreterAlarm) =>
  bindO (if ((y104.1.length : Int) == 2) = true then
        bindO (gt y104.1 0) fun (e109 : ApiMotion) =>
        if ((e109.From.X == 0) && ((e109.From.Y == 0) && ((e109.From.Z == 0) && ((e109.To.X == 1000) && ((e109.To.Y == 2000) && ((e109.To.Z == 74500) && ((e109.Rate == 0) && ((e109.Tool == 3) && (e109.Block == 1))))))))) = true then
          bindO (gt y104.1 1) fun (e110 : ApiMotion) =>
          if ((e110.From.X == 1000) && ((e110.From.Y == 2000) && ((e110.From.Z == 74500) && ((e110.To.X == 2000) && ((e110.To.Y == 2000) && ((e110.To.Z == 74500) && ((e110.Rate == 10000) && ((e110.Tool == 3) && (e110.Block == 2))))))))) = true then
            if ((y104.2.Block == (-1)) && (y104.2.Code == 0)) = true then
              some ((y108.2.Block == 2) && (y108.2.Code == 13))
            else
              some false
          else
            some false
        else
          some false
      else
        some false) fun (v111 : Bool) =>
  some v111
theorem l47_awake_spec  {y : Bool} (h : l47_awake = some y) : Spec gP 9 [] (.d (.bool y)) := by
  refine spec_mir Tryd.func9 rfl (by kernel_rfl) (by kernel_rfl) (fun y : Bool => .d (.bool y)) ?_ h
  unfold l47_awake
  simp only [List.replicate, List.length, nS, nA, Tryd.ntmps9, SV]
  refine Mir.seqK ?_
  refine Mir.region fun e h => ?_
  simp only [↓reduceIte, reduceCtorEq, nA, nS, nM, nE, nL, nT, nB, iT, iN, iE, and_self, SR, SV, encApiMotion]
  refine Mir.use (e := e) ?_ h
  refine Mir.seqK ?_
  refine Mir.bind fun y101 hy1 => ?_
  refine Mir.bind fun y102 hy2 => ?_
  refine Mir.bind fun y103 hy3 => ?_
  refine Mir.bind fun y104 hy4 => ?_
  refine Mir.region fun e h => ?_
  simp only [↓reduceIte, reduceCtorEq, nA, nS, nM, nE, nL, nT, nB, iT, iN, iE, and_self, SR, SV, encApiMotion]
  refine SpecS.by (l47_program_spec hy1) (by simp only [↓reduceIte, reduceCtorEq, nA, nE, nL, and_self, and_true, true_and, SL, encApiMotion]) ?_
  simp only [↓reduceIte, reduceCtorEq, nA, nS, nM, nE, nL, nT, nB, iT, iN, iE, and_self, SR, SV, encApiMotion]
  refine SpecS.by (r47_Table_spec hy2) (rfl) ?_
  simp only [↓reduceIte, reduceCtorEq, nA, nS, nM, nE, nL, nT, nB, iT, iN, iE, and_self, SR, SV, encApiMotion]
  refine SpecS.by (l47_theirs_spec hy3) (by simp only [↓reduceIte, reduceCtorEq, nA, nE, nL, and_self, and_true, true_and, SL, encApiMotion]) ?_
  simp only [↓reduceIte, reduceCtorEq, nA, nS, nM, nE, nL, nT, nB, iT, iN, iE, and_self, SR, SV, zero_24, pl_24, encApiMotion]
  refine SpecS.by (inp_Blocks_spec hy4) (by simp only [↓reduceIte, reduceCtorEq, nA, nE, nL, and_self, and_true, true_and, SL, encApiMotion]) ?_
  simp only [↓reduceIte, reduceCtorEq, nA, nS, nM, nE, nL, nT, nB, iT, iN, iE, and_self, SR, SV, zero_49, sz_49, encApiMotion]
  refine Mir.use (e := e) ?_ h
  refine Mir.seqK ?_
  refine Mir.bind fun y105 hy5 => ?_
  refine Mir.bind fun y106 hy6 => ?_
  refine Mir.bind fun y107 hy7 => ?_
  refine Mir.bind fun y108 hy8 => ?_
  refine Mir.region fun e h => ?_
  simp only [↓reduceIte, reduceCtorEq, nA, nS, nM, nE, nL, nT, nB, iT, iN, iE, and_self, SR, SV, encApiMotion]
  refine SpecS.by (l47_program_spec hy5) (by simp only [↓reduceIte, reduceCtorEq, nA, nE, nL, and_self, and_true, true_and, SL, encApiMotion]) ?_
  simp only [↓reduceIte, reduceCtorEq, nA, nS, nM, nE, nL, nT, nB, iT, iN, iE, and_self, SR, SV, encApiMotion]
  refine SpecS.by (r47_Table_spec hy6) (rfl) ?_
  simp only [↓reduceIte, reduceCtorEq, nA, nS, nM, nE, nL, nT, nB, iT, iN, iE, and_self, SR, SV, encApiMotion]
  refine SpecS.by (l47_theirs_spec hy7) (by simp only [↓reduceIte, reduceCtorEq, nA, nE, nL, and_self, and_true, true_and, SL, encApiMotion]) ?_
  simp only [↓reduceIte, reduceCtorEq, nA, nS, nM, nE, nL, nT, nB, iT, iN, iE, and_self, SR, SV, zero_24, pl_24, encApiMotion]
  refine SpecS.by (inp_Blocks_spec hy8) (by simp only [↓reduceIte, reduceCtorEq, nA, nE, nL, and_self, and_true, true_and, SL, encApiMotion]) ?_
  simp only [↓reduceIte, reduceCtorEq, nA, nS, nM, nE, nL, nT, nB, iT, iN, iE, and_self, SR, SV, zero_49, sz_49, encApiMotion]
  refine Mir.use (e := e) ?_ h
  refine Mir.seqK ?_
  refine Mir.region fun e h => ?_
  simp only [↓reduceIte, reduceCtorEq, nA, nS, nM, nE, nL, nT, nB, iT, iN, iE, and_self, SR, SV, zero_24, pl_24, sz_24, encApiMotion]
  refine Mir.use (e := e) ?_ h
  refine Mir.seqK ?_
  refine Mir.joinO (fun v111 : Bool => [.d (.bool v111), U, U, U, U, U, U, U, U, U, U, U, U, U, U, U, U, U, U, U, U, U, U, U, U, U, U, U, U, U, U, U, U, U, U, U, U, U, U, U, U, U, U, U, U, U, U, U, U, U, U, U, U]) (fun v111 : Bool => ⟨[[.d (.int .i64 y104.2.Block), .d (.int .i64 y104.2.Code)], [.d (.int .i64 y108.2.Block), .d (.int .i64 y108.2.Code)], [.d (.int .i64 1000), .d (.int .i64 2000), .d (.int .i64 74500)]], []⟩) (fun _ => rfl) ?_ ?_
  ·refine Mir.ite (fun hb9 => ?_) (fun hb9 => ?_)
   ·refine Mir.bind fun e109 q10 => ?_
    replace q10 := gt_ok q10
    simp only [Int.reduceToNat, Int.reduceLT, Nat.sub_zero, dp0] at q10
    refine Mir.ite (fun hb11 => ?_) (fun hb11 => ?_)
    ·refine Mir.bind fun e110 q12 => ?_
     replace q12 := gt_ok q12
     simp only [Int.reduceToNat, Int.reduceLT, Nat.sub_zero, dp0] at q12
     refine Mir.ite (fun hb13 => ?_) (fun hb13 => ?_)
     ·refine Mir.ite (fun hb14 => ?_) (fun hb14 => ?_)
      ·refine Mir.regionD [] (by kernel_rfl) fun e h => ?_
       simp only [↓reduceIte, reduceCtorEq, nA, nS, nM, nE, nL, nT, nB, iT, iN, iE, and_self, SR, SV, sepL_nil, sepL_cons, sepV_ne, sepV_d, sepV_i, true_and, Bool.and_self, und_47, sz_62, q10, ag_62, ag_24, sz_24, zero_62, pl_62, gE_62, q12, zero_24, pl_24, ag_49, sz_49, zero_49, pl_49, gE_49, encApiMotion, hb9, hb11, hb13, hb14]
       cases h
       simp only [↓reduceIte, reduceCtorEq, nA, nE, nL, and_self, and_true, true_and, SL, encApiMotion, hb9, hb11, hb13, hb14]
      ·refine Mir.regionD [] (by kernel_rfl) fun e h => ?_
       simp only [↓reduceIte, reduceCtorEq, nA, nS, nM, nE, nL, nT, nB, iT, iN, iE, and_self, SR, SV, sepL_nil, sepL_cons, sepV_ne, sepV_d, sepV_i, true_and, Bool.and_self, und_47, sz_62, q10, ag_62, ag_24, sz_24, zero_62, pl_62, gE_62, q12, zero_24, pl_24, ag_49, sz_49, zero_49, pl_49, gE_49, encApiMotion, hb9, hb11, hb13, hb14]
       cases h
       simp only [↓reduceIte, reduceCtorEq, nA, nE, nL, and_self, and_true, true_and, SL, encApiMotion, hb9, hb11, hb13, hb14]
     ·refine Mir.regionD [] (by kernel_rfl) fun e h => ?_
      simp only [↓reduceIte, reduceCtorEq, nA, nS, nM, nE, nL, nT, nB, iT, iN, iE, and_self, SR, SV, sepL_nil, sepL_cons, sepV_ne, sepV_d, sepV_i, true_and, Bool.and_self, und_47, sz_62, q10, ag_62, ag_24, sz_24, zero_62, pl_62, gE_62, q12, zero_24, pl_24, encApiMotion, hb9, hb11, hb13]
      cases h
      simp only [↓reduceIte, reduceCtorEq, nA, nE, nL, and_self, and_true, true_and, SL, encApiMotion, hb9, hb11, hb13]
    ·refine Mir.regionD [] (by kernel_rfl) fun e h => ?_
     simp only [↓reduceIte, reduceCtorEq, nA, nS, nM, nE, nL, nT, nB, iT, iN, iE, and_self, SR, SV, sepL_nil, sepL_cons, sepV_ne, sepV_d, sepV_i, true_and, Bool.and_self, und_47, sz_62, q10, ag_62, ag_24, sz_24, zero_62, pl_62, gE_62, encApiMotion, hb9, hb11]
     cases h
     simp only [↓reduceIte, reduceCtorEq, nA, nE, nL, and_self, and_true, true_and, SL, encApiMotion, hb9, hb11]
   ·refine Mir.regionD [] (by kernel_rfl) fun e h => ?_
    simp only [↓reduceIte, reduceCtorEq, nA, nS, nM, nE, nL, nT, nB, iT, iN, iE, and_self, SR, SV, sepL_nil, sepL_cons, sepV_ne, sepV_d, sepV_i, true_and, Bool.and_self, und_47, encApiMotion, hb9]
    cases h
    simp only [↓reduceIte, reduceCtorEq, nA, nE, nL, and_self, and_true, true_and, SL, encApiMotion, hb9]
  ·intro v111
   refine Mir.toK ?_
   refine Mir.ret fun e h => ?_
   cases h
   simp only [↓reduceIte, reduceCtorEq, nA, nE, nL, and_self, and_true, true_and, SL, encApiMotion, Tryd.results9]

end Go.Proofs.YtlcfgpjgjdjpoaaDoor
