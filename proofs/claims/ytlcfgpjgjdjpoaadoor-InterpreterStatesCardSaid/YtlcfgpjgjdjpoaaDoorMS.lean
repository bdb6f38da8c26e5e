/-
  Mirrors of functions, written by wip/mir.py.
-/
import Derived.Test.YtlcfgpjgjdjpoaaDoorMSc
namespace Go.Proofs.YtlcfgpjgjdjpoaaDoor
open Go.RowKit
open Nat renaming reduceAdd → nA, reduceSub → nS, reduceMul → nM, reduceEqDiff → nE, reduceLeDiff → nL, reduceLT → nT, reduceBEq → nB
open Int renaming reduceLT → iT, reduceToNat → iN, reduceEq → iE
set_option linter.unusedVariables false
set_option linter.unusedSimpArgs false
set_option maxRecDepth 100000

def inp_Tools (a0 : (List ApiMotion)) : Option (List Int) :=
  bindO (guardO (okIdx a0) (
      rangeX (fun (i184 : Nat) (e186 : ApiMotion) (v185 : (List Int)) =>
        bindO (bindO (if ((v185.length : Int) == 0) = true then
                  some true
                else
                  bindO (gt v185 (IntKind.i64.wrap ((v185.length : Int) - 1))) fun (e190 : Int) =>
                  some (e190 != e186.Tool)) fun (v191 : Bool) =>
            if v191 = true then
              guardO (okLen (v185.length + 1)) (
              some (v185 ++ [e186.Tool]))
            else
              some v185) fun (v189 : (List Int)) =>
        some (.go v189)) (fun (v185 : (List Int)) => some v185) a0 0 [])) fun (v162 : (List Int)) =>
  some v162
theorem inp_Tools_spec {a0 : (List ApiMotion)} {y : (List Int)} (h : inp_Tools a0 = some y) : Spec gP 32 [.d (.list (List.map encApiMotion a0))] (.d (.list (List.map (eInt .i64) y))) := by
  refine spec_mir Tryd.func32 rfl (by kernel_rfl) (by kernel_rfl) (fun y : (List Int) => .d (.list (List.map (eInt .i64) y))) ?_ h
  unfold inp_Tools
  simp only [List.replicate, List.length, nS, nA, Tryd.ntmps32, SV]
  refine Mir.seqK ?_
  refine Mir.region fun e h => ?_
  simp only [↓reduceIte, reduceCtorEq, nA, nS, nM, nE, nL, nT, nB, iT, iN, iE, and_self, SR, SV, eInt, encApiMotion]
  refine Mir.use (e := e) ?_ h
  refine Mir.seqK ?_
  refine Mir.region fun e h => ?_
  simp only [↓reduceIte, reduceCtorEq, nA, nS, nM, nE, nL, nT, nB, iT, iN, iE, and_self, SR, SV, eInt, encApiMotion]
  refine Mir.use (e := e) ?_ h
  refine Mir.seqK ?_
  refine Mir.seqK ?_
  refine Mir.region fun e h => ?_
  simp only [↓reduceIte, reduceCtorEq, nA, nS, nM, nE, nL, nT, nB, iT, iN, iE, and_self, SR, SV, und_47, eInt, encApiMotion]
  refine Mir.use (e := e) ?_ h
  refine Mir.gh [.slot 3 3] rfl ?_
  refine Mir.joinO (fun v162 : (List Int) => [U, U, U, .own 0 (List.map (eInt .i64) v162), U, U, U, U, U, U, U, U, U, U, U, U, U, U, U, U, U, U, U, U, U, U, U, U, U, U, U, U, U]) (fun v162 : (List Int) => ⟨[], [(3, v162.length)]⟩) (fun _ => rfl) ?_ ?_
  · refine Mir.block ?_
    refine Mir.guard fun qg113 => ?_
    refine Mir.range (fun (i184 : Nat) (v185 : (List Int)) => [U, U, U, .own 0 (List.map (eInt .i64) v185), U, U, .d (.list (List.map encApiMotion a0)), .d (.int .i64 (a0.length : Int)), .d (.int .i64 (i184 : Int)), U, U, U, U, U, U, U, U, U, U, U, U, U, U, U, U, U, U, U, U, U, U, U, U]) (fun (i184 : Nat) (v185 : (List Int)) => ⟨[], [(3, v185.length)]⟩) qg113 (fun _ _ => rfl) (by simp only [↓reduceIte, reduceCtorEq, nA, nE, nL, and_self, and_true, true_and, SL, eInt, encApiMotion, (nr rfl : ((0 : Nat) : Int) = 0)]) (by simp only [↓reduceIte, reduceCtorEq, nA, nE, nL, and_self, and_true, true_and, SL, eInt, encApiMotion, (nr rfl : ((0 : Nat) : Int) = 0)]) ?_ ?_
    · intro i184 e186 v185 qr111
      refine Mir.seqK ?_
      refine Mir.region fun e h => ?_
      simp only [↓reduceIte, reduceCtorEq, nA, nS, nM, nE, nL, nT, nB, iT, iN, iE, and_self, SR, SV, qr111, eInt, encApiMotion]
      refine Mir.use (e := e) ?_ h
      refine Mir.seqK ?_
      refine Mir.condT rfl ?_
      refine Mir.skip ?_
      refine Mir.toK ?_
      refine Mir.seqK ?_
      refine Mir.joinO (fun v189 : (List Int) => [U, U, U, .own 0 (List.map (eInt .i64) v189), U, U, .d (.list (List.map encApiMotion a0)), .d (.int .i64 (a0.length : Int)), .d (.int .i64 (i184 : Int)), U, U, U, U, U, U, U, U, U, U, U, U, U, U, U, U, U, U, U, U, U, U, U, U]) (fun v189 : (List Int) => ⟨[], [(3, v189.length)]⟩) (fun _ => rfl) ?_ ?_
      · refine Mir.block ?_
        refine Mir.seqK ?_
        refine Mir.region fun e h => ?_
        simp only [↓reduceIte, reduceCtorEq, nA, nS, nM, nE, nL, nT, nB, iT, iN, iE, and_self, SR, SV, und_47, sz_62, qr111, ag_62, zero_62, eInt, encApiMotion]
        refine Mir.use (e := e) ?_ h
        refine Mir.seqK ?_
        refine Mir.joinO (fun v191 : Bool => [U, U, U, .own 0 (List.map (eInt .i64) v185), U, .ptr 0 0, .d (.list (List.map encApiMotion a0)), .d (.int .i64 (a0.length : Int)), .d (.int .i64 (i184 : Int)), U, U, U, U, U, U, U, U, U, U, U, U, U, U, U, U, .d (.bool v191), U, U, U, U, U, U, U]) (fun v191 : Bool => ⟨[[.d (.int .i64 e186.From.X), .d (.int .i64 e186.From.Y), .d (.int .i64 e186.From.Z), .d (.int .i64 e186.To.X), .d (.int .i64 e186.To.Y), .d (.int .i64 e186.To.Z), .d (.int .i64 e186.Rate), .d (.int .i64 e186.Tool), .d (.int .i64 e186.Block)]], [(3, v185.length)]⟩) (fun _ => rfl) ?_ ?_
        · refine Mir.ite (fun hb118 => ?_) (fun hb118 => ?_)
          · refine Mir.regionD [] (by kernel_rfl) fun e h => ?_
            simp only [↓reduceIte, reduceCtorEq, nA, nS, nM, nE, nL, nT, nB, iT, iN, iE, and_self, SR, SV, sepL_nil, sepL_cons, sepV_ne, sepV_d, sepV_i, true_and, Bool.and_self, und_83, eInt, encApiMotion, hb118]
            cases h
            simp only [↓reduceIte, reduceCtorEq, nA, nE, nL, and_self, and_true, true_and, SL, eInt, encApiMotion, hb118]
          · refine Mir.bind fun e190 q119 => ?_
            replace q119 := gt_ok q119
            refine Mir.regionD [] (by kernel_rfl) fun e h => ?_
            simp only [↓reduceIte, reduceCtorEq, nA, nS, nM, nE, nL, nT, nB, iT, iN, iE, and_self, SR, SV, sepL_nil, sepL_cons, sepV_ne, sepV_d, sepV_i, true_and, Bool.and_self, und_83, sz_3, q119, ag_3, fld_62_3, eInt, encApiMotion, hb118]
            cases h
            simp only [↓reduceIte, reduceCtorEq, nA, nE, nL, and_self, and_true, true_and, SL, eInt, encApiMotion, hb118]
        · intro v191
          refine Mir.toK ?_
          refine Mir.cond rfl (fun hb120 => ?_) (fun hb120 => ?_)
          · refine Mir.guard fun q121 => ?_
            refine Mir.region fun e h => ?_
            simp only [↓reduceIte, reduceCtorEq, nA, nS, nM, nE, nL, nT, nB, iT, iN, iE, and_self, SR, SV, fld_62_3, sz_3, ag_3, und_83, zero_3, (nr rfl : okLen 1 = true), app_83, al_eInt, q121, eInt, encApiMotion]
            cases h
            simp only [↓reduceIte, reduceCtorEq, nA, nE, nL, and_self, and_true, true_and, SL, eInt, encApiMotion, Tryd.results32]
          · refine Mir.skip fun e h => ?_
            cases h
            simp only [↓reduceIte, reduceCtorEq, nA, nE, nL, and_self, and_true, true_and, SL, eInt, encApiMotion, Tryd.results32]
      · intro v189
        refine Mir.toK ?_
        refine Mir.region fun e h => ?_
        simp only [↓reduceIte, reduceCtorEq, nA, nS, nM, nE, nL, nT, nB, iT, iN, iE, and_self, SR, SV, eInt, encApiMotion]
        cases h
        simp only [↓reduceIte, reduceCtorEq, nA, nE, nL, and_self, and_true, true_and, SL, eInt, encApiMotion, Tryd.results32, qr111]
    · intro v185 qd112
      refine Mir.seqK ?_
      refine Mir.region fun e h => ?_
      simp only [↓reduceIte, reduceCtorEq, nA, nS, nM, nE, nL, nT, nB, iT, iN, iE, and_self, SR, SV, qd112, eInt, encApiMotion]
      refine Mir.use (e := e) ?_ h
      refine Mir.seqK ?_
      refine Mir.condF rfl ?_
      refine Mir.exit fun e h => ?_
      cases h
      simp only [↓reduceIte, reduceCtorEq, nA, nE, nL, and_self, and_true, true_and, SL, eInt, encApiMotion, Tryd.results32]
  · intro v162
    refine Mir.toK ?_
    refine Mir.seqK ?_
    refine Mir.region fun e h => ?_
    simp only [↓reduceIte, reduceCtorEq, nA, nS, nM, nE, nL, nT, nB, iT, iN, iE, and_self, SR, SV, eInt, encApiMotion]
    refine Mir.use (e := e) ?_ h
    refine Mir.ret fun e h => ?_
    cases h
    simp only [↓reduceIte, reduceCtorEq, nA, nE, nL, and_self, and_true, true_and, SL, eInt, encApiMotion, Tryd.results32]

def r47_Tools (a0 : (List ApiMotion)) : Option (List Int) :=
  bindO (guardO (okIdx a0) (
      rangeX (fun (i196 : Nat) (e198 : ApiMotion) (v197 : (List Int)) =>
        bindO (bindO (if ((i196 : Int) == 0) = true then
                  some true
                else
                  bindO (gt a0 (IntKind.i64.wrap ((i196 : Int) - 1))) fun (e202 : ApiMotion) =>
                  some (e198.Tool != e202.Tool)) fun (v203 : Bool) =>
            if v203 = true then
              guardO (okLen (v197.length + 1)) (
              some (v197 ++ [e198.Tool]))
            else
              some v197) fun (v201 : (List Int)) =>
        some (.go v201)) (fun (v197 : (List Int)) => some v197) a0 0 [])) fun (v170 : (List Int)) =>
  some v170
theorem r47_Tools_spec {a0 : (List ApiMotion)} {y : (List Int)} (h : r47_Tools a0 = some y) : Spec gP 33 [.d (.list (List.map encApiMotion a0))] (.d (.list (List.map (eInt .i64) y))) := by
  refine spec_mir Tryd.func33 rfl (by kernel_rfl) (by kernel_rfl) (fun y : (List Int) => .d (.list (List.map (eInt .i64) y))) ?_ h
  unfold r47_Tools
  simp only [List.replicate, List.length, nS, nA, Tryd.ntmps33, SV]
  refine Mir.seqK ?_
  refine Mir.region fun e h => ?_
  simp only [↓reduceIte, reduceCtorEq, nA, nS, nM, nE, nL, nT, nB, iT, iN, iE, and_self, SR, SV, eInt, encApiMotion]
  refine Mir.use (e := e) ?_ h
  refine Mir.seqK ?_
  refine Mir.region fun e h => ?_
  simp only [↓reduceIte, reduceCtorEq, nA, nS, nM, nE, nL, nT, nB, iT, iN, iE, and_self, SR, SV, eInt, encApiMotion]
  refine Mir.use (e := e) ?_ h
  refine Mir.seqK ?_
  refine Mir.seqK ?_
  refine Mir.region fun e h => ?_
  simp only [↓reduceIte, reduceCtorEq, nA, nS, nM, nE, nL, nT, nB, iT, iN, iE, and_self, SR, SV, eInt, encApiMotion]
  refine Mir.use (e := e) ?_ h
  refine Mir.gh [.slot 3 3] rfl ?_
  refine Mir.joinO (fun v170 : (List Int) => [U, U, U, .own 0 (List.map (eInt .i64) v170), U, U, U, U, U, U, U, U, U, U, U, U, U, U, U, U, U, U, U, U, U, U, U, U, U, U, U, U, U, U, U, U]) (fun v170 : (List Int) => ⟨[], [(3, v170.length)]⟩) (fun _ => rfl) ?_ ?_
  · refine Mir.block ?_
    refine Mir.guard fun qg125 => ?_
    refine Mir.range (fun (i196 : Nat) (v197 : (List Int)) => [.d (.list (List.map encApiMotion a0)), U, U, .own 0 (List.map (eInt .i64) v197), .d (.int .i64 (i196 : Int)), U, U, U, U, U, U, U, U, U, U, U, U, U, U, U, U, U, U, U, U, U, U, U, U, U, U, U, U, U, U, U]) (fun (i196 : Nat) (v197 : (List Int)) => ⟨[], [(3, v197.length)]⟩) qg125 (fun _ _ => rfl) (by simp only [↓reduceIte, reduceCtorEq, nA, nE, nL, and_self, and_true, true_and, SL, eInt, encApiMotion, (nr rfl : ((0 : Nat) : Int) = 0)]) (by simp only [↓reduceIte, reduceCtorEq, nA, nE, nL, and_self, and_true, true_and, SL, eInt, encApiMotion, (nr rfl : ((0 : Nat) : Int) = 0)]) ?_ ?_
    · intro i196 e198 v197 qr123
      refine Mir.seqK ?_
      refine Mir.seqK ?_
      refine Mir.region fun e h => ?_
      simp only [↓reduceIte, reduceCtorEq, nA, nS, nM, nE, nL, nT, nB, iT, iN, iE, and_self, SR, SV, und_47, qr123, eInt, encApiMotion]
      refine Mir.use (e := e) ?_ h
      refine Mir.condT rfl ?_
      refine Mir.skip ?_
      refine Mir.toK ?_
      refine Mir.seqK ?_
      refine Mir.joinO (fun v201 : (List Int) => [.d (.list (List.map encApiMotion a0)), U, U, .own 0 (List.map (eInt .i64) v201), .d (.int .i64 (i196 : Int)), U, U, U, U, U, U, U, U, U, U, U, U, U, U, U, U, U, U, U, U, U, U, U, U, U, U, U, U, U, U, U]) (fun v201 : (List Int) => ⟨[], [(3, v201.length)]⟩) (fun _ => rfl) ?_ ?_
      · refine Mir.block ?_
        refine Mir.seqK ?_
        refine Mir.joinO (fun v203 : Bool => [.d (.list (List.map encApiMotion a0)), U, U, .own 0 (List.map (eInt .i64) v197), .d (.int .i64 (i196 : Int)), U, U, U, U, U, U, U, U, U, U, U, U, U, U, U, U, U, U, U, U, U, .d (.bool v203), U, U, U, U, U, U, U, U, U]) (fun v203 : Bool => ⟨[], [(3, v197.length)]⟩) (fun _ => rfl) ?_ ?_
        · refine Mir.ite (fun hb130 => ?_) (fun hb130 => ?_)
          · refine Mir.regionD [] (by kernel_rfl) fun e h => ?_
            simp only [↓reduceIte, reduceCtorEq, nA, nS, nM, nE, nL, nT, nB, iT, iN, iE, and_self, SR, SV, sepL_nil, sepL_cons, sepV_ne, sepV_d, sepV_i, true_and, Bool.and_self, eInt, encApiMotion, hb130]
            cases h
            simp only [↓reduceIte, reduceCtorEq, nA, nE, nL, and_self, and_true, true_and, SL, eInt, encApiMotion, hb130]
          · refine Mir.bind fun e202 q131 => ?_
            replace q131 := gt_ok q131
            refine Mir.regionD [] (by kernel_rfl) fun e h => ?_
            simp only [↓reduceIte, reduceCtorEq, nA, nS, nM, nE, nL, nT, nB, iT, iN, iE, and_self, SR, SV, sepL_nil, sepL_cons, sepV_ne, sepV_d, sepV_i, true_and, Bool.and_self, und_47, sz_62, qr123, fld_62_3, sz_3, ag_3, q131, eInt, encApiMotion, hb130]
            cases h
            simp only [↓reduceIte, reduceCtorEq, nA, nE, nL, and_self, and_true, true_and, SL, eInt, encApiMotion, hb130]
        · intro v203
          refine Mir.toK ?_
          refine Mir.cond rfl (fun hb132 => ?_) (fun hb132 => ?_)
          · refine Mir.guard fun q133 => ?_
            refine Mir.region fun e h => ?_
            simp only [↓reduceIte, reduceCtorEq, nA, nS, nM, nE, nL, nT, nB, iT, iN, iE, and_self, SR, SV, und_47, sz_62, qr123, fld_62_3, sz_3, ag_3, und_83, zero_3, (nr rfl : okLen 1 = true), app_83, al_eInt, q133, eInt, encApiMotion]
            cases h
            simp only [↓reduceIte, reduceCtorEq, nA, nE, nL, and_self, and_true, true_and, SL, eInt, encApiMotion, Tryd.results33]
          · refine Mir.skip fun e h => ?_
            cases h
            simp only [↓reduceIte, reduceCtorEq, nA, nE, nL, and_self, and_true, true_and, SL, eInt, encApiMotion, Tryd.results33]
      · intro v201
        refine Mir.toK ?_
        refine Mir.region fun e h => ?_
        simp only [↓reduceIte, reduceCtorEq, nA, nS, nM, nE, nL, nT, nB, iT, iN, iE, and_self, SR, SV, eInt, encApiMotion]
        cases h
        simp only [↓reduceIte, reduceCtorEq, nA, nE, nL, and_self, and_true, true_and, SL, eInt, encApiMotion, Tryd.results33, qr123]
    · intro v197 qd124
      refine Mir.seqK ?_
      refine Mir.seqK ?_
      refine Mir.region fun e h => ?_
      simp only [↓reduceIte, reduceCtorEq, nA, nS, nM, nE, nL, nT, nB, iT, iN, iE, and_self, SR, SV, und_47, qd124, eInt, encApiMotion]
      refine Mir.use (e := e) ?_ h
      refine Mir.condF rfl ?_
      refine Mir.exit fun e h => ?_
      cases h
      simp only [↓reduceIte, reduceCtorEq, nA, nE, nL, and_self, and_true, true_and, SL, eInt, encApiMotion, Tryd.results33]
  · intro v170
    refine Mir.toK ?_
    refine Mir.seqK ?_
    refine Mir.region fun e h => ?_
    simp only [↓reduceIte, reduceCtorEq, nA, nS, nM, nE, nL, nT, nB, iT, iN, iE, and_self, SR, SV, eInt, encApiMotion]
    refine Mir.use (e := e) ?_ h
    refine Mir.ret fun e h => ?_
    cases h
    simp only [↓reduceIte, reduceCtorEq, nA, nE, nL, and_self, and_true, true_and, SL, eInt, encApiMotion, Tryd.results33]

def slices_Equal_int_int (a0 : (List Int)) (a1 : (List Int)) : Option Bool :=
  if ((a0.length : Int) != (a1.length : Int)) = true then
    some false
  else
    bindX (guardO (okIdx a0) (
        rangeX (fun (i141 : Nat) (e143 : Int) (v142 : Unit) =>
          bindO (gt a1 (i141 : Int)) fun (e145 : Int) =>
          if (e143 != e145) = true then
            some (.ret (.ret false))
          else
            some (.go ())) (fun (v142 : Unit) => some (.go ())) a0 0 ())) fun (v123 : Unit) =>
    some true
theorem slices_Equal_int_int_spec {a0 : (List Int)} {a1 : (List Int)} {y : Bool} (h : slices_Equal_int_int a0 a1 = some y) : Spec gP 31 [.d (.list (List.map (eInt .i64) a0)), .d (.list (List.map (eInt .i64) a1))] (.d (.bool y)) := by
  refine spec_mir Tryd.func31 rfl (by kernel_rfl) (by kernel_rfl) (fun y : Bool => .d (.bool y)) ?_ h
  unfold slices_Equal_int_int
  simp only [List.replicate, List.length, nS, nA, Tryd.ntmps31, SV]
  refine Mir.seqK ?_
  refine Mir.region fun e h => ?_
  simp only [↓reduceIte, reduceCtorEq, nA, nS, nM, nE, nL, nT, nB, iT, iN, iE, and_self, SR, SV, eInt]
  refine Mir.use (e := e) ?_ h
  refine Mir.seqK ?_
  refine Mir.seqK ?_
  refine Mir.region fun e h => ?_
  simp only [↓reduceIte, reduceCtorEq, nA, nS, nM, nE, nL, nT, nB, iT, iN, iE, and_self, SR, SV, und_83, eInt]
  refine Mir.use (e := e) ?_ h
  refine Mir.cond rfl (fun hb2 => ?_) (fun hb2 => ?_)
  · refine Mir.seqK ?_
    refine Mir.region fun e h => ?_
    simp only [↓reduceIte, reduceCtorEq, nA, nS, nM, nE, nL, nT, nB, iT, iN, iE, and_self, SR, SV, eInt]
    refine Mir.use (e := e) ?_ h
    refine Mir.ret fun e h => ?_
    cases h
    simp only [↓reduceIte, reduceCtorEq, nA, nE, nL, and_self, and_true, true_and, SL, eInt, Tryd.results31]
  · refine Mir.skip ?_
    refine Mir.toK ?_
    refine Mir.seqK ?_
    refine Mir.seqK ?_
    refine Mir.region fun e h => ?_
    simp only [↓reduceIte, reduceCtorEq, nA, nS, nM, nE, nL, nT, nB, iT, iN, iE, and_self, SR, SV, und_83, eInt]
    refine Mir.use (e := e) ?_ h
    refine Mir.join (fun v123 : Unit => [U, U, U, U, U, U, U, U, U, U, U, U, U, U, U, U, U, U, U, U, U, U, U, U, U, U]) (fun v123 : Unit => ⟨[], []⟩) (fun _ => rfl) ?_ ?_
    · refine Mir.block ?_
      refine Mir.guard fun qg67 => ?_
      refine Mir.range (fun (i141 : Nat) (v142 : Unit) => [.d (.list (List.map (eInt .i64) a0)), .d (.list (List.map (eInt .i64) a1)), U, U, U, U, U, U, U, U, U, U, .d (.int .i64 (a0.length : Int)), .d (.int .i64 (i141 : Int)), U, U, U, U, U, U, U, U, U, U, U, U]) (fun (i141 : Nat) (v142 : Unit) => ⟨[], []⟩) qg67 (fun _ _ => rfl) (by simp only [↓reduceIte, reduceCtorEq, nA, nE, nL, and_self, and_true, true_and, SL, eInt, (nr rfl : ((0 : Nat) : Int) = 0)]) (by simp only [↓reduceIte, reduceCtorEq, nA, nE, nL, and_self, and_true, true_and, SL, eInt, (nr rfl : ((0 : Nat) : Int) = 0)]) ?_ ?_
      · intro i141 e143 v142 qr65
        refine Mir.seqK ?_
        refine Mir.region fun e h => ?_
        simp only [↓reduceIte, reduceCtorEq, nA, nS, nM, nE, nL, nT, nB, iT, iN, iE, and_self, SR, SV, qr65, eInt]
        refine Mir.use (e := e) ?_ h
        refine Mir.seqK ?_
        refine Mir.condT rfl ?_
        refine Mir.skip ?_
        refine Mir.toK ?_
        refine Mir.seqK ?_
        refine Mir.block ?_
        refine Mir.seqK ?_
        refine Mir.region fun e h => ?_
        simp only [↓reduceIte, reduceCtorEq, nA, nS, nM, nE, nL, nT, nB, iT, iN, iE, and_self, SR, SV, eInt]
        refine Mir.use (e := e) ?_ h
        refine Mir.seqK ?_
        refine Mir.bind fun e145 q70 => ?_
        replace q70 := gt_ok q70
        simp only [Int.toNat_natCast] at q70
        refine Mir.regionD [] (by kernel_rfl) fun e h => ?_
        simp only [↓reduceIte, reduceCtorEq, nA, nS, nM, nE, nL, nT, nB, iT, iN, iE, and_self, SR, SV, sepL_nil, sepL_cons, sepV_ne, sepV_d, sepV_i, true_and, Bool.and_self, und_83, sz_3, qr65, ag_3, q70, eInt]
        refine Mir.use (e := e) ?_ h
        refine Mir.cond rfl (fun hb72 => ?_) (fun hb72 => ?_)
        · refine Mir.seqK ?_
          refine Mir.region fun e h => ?_
          simp only [↓reduceIte, reduceCtorEq, nA, nS, nM, nE, nL, nT, nB, iT, iN, iE, and_self, SR, SV, eInt]
          refine Mir.use (e := e) ?_ h
          refine Mir.ret fun e h => ?_
          cases h
          simp only [↓reduceIte, reduceCtorEq, nA, nE, nL, and_self, and_true, true_and, SL, eInt, Tryd.results31]
        · refine Mir.skip ?_
          refine Mir.toB ?_
          refine Mir.toK ?_
          refine Mir.region fun e h => ?_
          simp only [↓reduceIte, reduceCtorEq, nA, nS, nM, nE, nL, nT, nB, iT, iN, iE, and_self, SR, SV, eInt]
          cases h
          simp only [↓reduceIte, reduceCtorEq, nA, nE, nL, and_self, and_true, true_and, SL, eInt, Tryd.results31, qr65]
      · intro v142 qd66
        refine Mir.seqK ?_
        refine Mir.region fun e h => ?_
        simp only [↓reduceIte, reduceCtorEq, nA, nS, nM, nE, nL, nT, nB, iT, iN, iE, and_self, SR, SV, qd66, eInt]
        refine Mir.use (e := e) ?_ h
        refine Mir.seqK ?_
        refine Mir.condF rfl ?_
        refine Mir.exit fun e h => ?_
        cases h
        simp only [↓reduceIte, reduceCtorEq, nA, nE, nL, and_self, and_true, true_and, SL, eInt, Tryd.results31]
    · intro v123
      refine Mir.toK ?_
      refine Mir.seqK ?_
      refine Mir.region fun e h => ?_
      simp only [↓reduceIte, reduceCtorEq, nA, nS, nM, nE, nL, nT, nB, iT, iN, iE, and_self, SR, SV, eInt]
      refine Mir.use (e := e) ?_ h
      refine Mir.ret fun e h => ?_
      cases h
      simp only [↓reduceIte, reduceCtorEq, nA, nE, nL, and_self, and_true, true_and, SL, eInt, Tryd.results31]

def l47_InterpreterStates (a0 : (List ApiBlock)) (a1 : Int) (a2 : (List ApiMotion)) : Option Bool :=
  bindO (bindO (l47_awake ) fun (y101 : Bool) =>
      if y101 = true then
        bindO (r41_Few a0 40) fun (y102 : Bool) =>
        if y102 = true then
          some (decide ((a2.length : Int) > 20))
        else
          some true
      else
        some true) fun (v103 : Bool) =>
  if v103 = true then
    bindO (l47_awake ) fun (y105 : Bool) =>
    some y105
  else
    bindO (slices_Clone_api_Block_api_Block a0) fun (y106 : (List ApiBlock)) =>
    bindO (inp_States y106 a1) fun (y107 : ModalState × Int) =>
    bindO (r47_States a0 a1) fun (y108 : R42State × Int) =>
    bindO (if (y107.2 != y108.2) = true then
          some true
        else
          bindO (l47_back y107.1) fun (y109 : R42State) =>
          some (!((y109.Motion == y108.1.Motion) && ((y109.Distance == y108.1.Distance) && ((y109.Work == y108.1.Work) && ((y109.Length == y108.1.Length) && ((y109.Return == y108.1.Return) && ((y109.Feed == y108.1.Feed) && ((y109.Tool == y108.1.Tool) && (y109.Offset == y108.1.Offset)))))))))) fun (v110 : Bool) =>
    if v110 = true then
      some false
    else
      bindO (if (decide ((a2.length : Int) > 0)) = true then
            bindO (gt a2 0) fun (e113 : ApiMotion) =>
            some e113.From
          else
            some (ApiPos.mk 1 2 3)) fun (v112 : ApiPos) =>
      bindO (bindO (inp_End v112 a2) fun (y114 : ApiPos) =>
          bindO (r47_End v112 a2) fun (y115 : ApiPos) =>
          if ((y114.X == y115.X) && ((y114.Y == y115.Y) && (y114.Z == y115.Z))) = true then
            bindO (inp_Connected v112 a2) fun (y116 : Bool) =>
            bindO (r47_Connected v112 a2) fun (y117 : Bool) =>
            if (y116 == y117) = true then
              bindO (inp_Tools a2) fun (y118 : (List Int)) =>
              bindO (r47_Tools a2) fun (y119 : (List Int)) =>
              bindO (slices_Equal_int_int y118 y119) fun (y120 : Bool) =>
              some y120
            else
              some false
          else
            some false) fun (v121 : Bool) =>
      some v121
set_option maxHeartbeats 8000000 in
theorem l47_InterpreterStates_spec {a0 : (List ApiBlock)} {a1 : Int} {a2 : (List ApiMotion)} {y : Bool} (h : l47_InterpreterStates a0 a1 a2 = some y) : Spec gP 7 [.d (.list (List.map encApiBlock a0)), .d (.int .i64 a1), .d (.list (List.map encApiMotion a2))] (.d (.bool y)) := by
  refine spec_mir Tryd.func7 rfl (by kernel_rfl) (by kernel_rfl) (fun y : Bool => .d (.bool y)) ?_ h
  unfold l47_InterpreterStates
  simp only [List.replicate, List.length, nS, nA, Tryd.ntmps7, SV]
  refine Mir.seqK ?_
  refine Mir.region fun e h => ?_
  simp only [↓reduceIte, reduceCtorEq, nA, nS, nM, nE, nL, nT, nB, iT, iN, iE, and_self, SR, SV, encApiBlock, encApiMotion]
  refine Mir.use (e := e) ?_ h
  refine Mir.seqK ?_
  refine Mir.seqK ?_
  refine Mir.joinO (fun v103 : Bool => [.d (.list (List.map encApiBlock a0)), .d (.int .i64 a1), .d (.list (List.map encApiMotion a2)), U, U, U, U, U, U, U, U, U, U, U, U, U, U, U, U, U, U, U, U, .d (.bool v103), U, U, U, U, U, U, U, U, U, U, U, U, U, U, U, U, U, U, U, U, U, U, U, U, U, U, U, U, U, U, U, U, U, U, U, U, U, U, U, U, U, U, U, U, U, U, U, U, U, U, U, U, U, U]) (fun v103 : Bool => ⟨[], []⟩) (fun _ => rfl) ?_ ?_
  · refine Mir.bind fun y101 hy1 => ?_
    refine Mir.ite (fun hb2 => ?_) (fun hb2 => ?_)
    · refine Mir.bind fun y102 hy3 => ?_
      refine Mir.ite (fun hb4 => ?_) (fun hb4 => ?_)
      · refine Mir.region fun e h => ?_
        simp only [↓reduceIte, reduceCtorEq, nA, nS, nM, nE, nL, nT, nB, iT, iN, iE, and_self, SR, SV, encApiBlock, encApiMotion, hb2, hb4]
        refine SpecS.by (l47_awake_spec hy1) (rfl) ?_
        simp only [↓reduceIte, reduceCtorEq, nA, nS, nM, nE, nL, nT, nB, iT, iN, iE, and_self, SR, SV, encApiBlock, encApiMotion, hb2, hb4]
        refine SpecS.by (r41_Few_spec hy3) (by simp only [↓reduceIte, reduceCtorEq, nA, nE, nL, and_self, and_true, true_and, SL, encApiBlock, encApiMotion, hb2, hb4]) ?_
        simp only [↓reduceIte, reduceCtorEq, nA, nS, nM, nE, nL, nT, nB, iT, iN, iE, and_self, SR, SV, und_47, encApiBlock, encApiMotion, hb2, hb4]
        cases h
        simp only [↓reduceIte, reduceCtorEq, nA, nE, nL, and_self, and_true, true_and, SL, encApiBlock, encApiMotion, hb2, hb4]
      · refine Mir.region fun e h => ?_
        simp only [↓reduceIte, reduceCtorEq, nA, nS, nM, nE, nL, nT, nB, iT, iN, iE, and_self, SR, SV, encApiBlock, encApiMotion, hb2, hb4]
        refine SpecS.by (l47_awake_spec hy1) (rfl) ?_
        simp only [↓reduceIte, reduceCtorEq, nA, nS, nM, nE, nL, nT, nB, iT, iN, iE, and_self, SR, SV, encApiBlock, encApiMotion, hb2, hb4]
        refine SpecS.by (r41_Few_spec hy3) (by simp only [↓reduceIte, reduceCtorEq, nA, nE, nL, and_self, and_true, true_and, SL, encApiBlock, encApiMotion, hb2, hb4]) ?_
        simp only [↓reduceIte, reduceCtorEq, nA, nS, nM, nE, nL, nT, nB, iT, iN, iE, and_self, SR, SV, encApiBlock, encApiMotion, hb2, hb4]
        cases h
        simp only [↓reduceIte, reduceCtorEq, nA, nE, nL, and_self, and_true, true_and, SL, encApiBlock, encApiMotion, hb2, hb4]
    · refine Mir.region fun e h => ?_
      simp only [↓reduceIte, reduceCtorEq, nA, nS, nM, nE, nL, nT, nB, iT, iN, iE, and_self, SR, SV, encApiBlock, encApiMotion, hb2]
      refine SpecS.by (l47_awake_spec hy1) (rfl) ?_
      simp only [↓reduceIte, reduceCtorEq, nA, nS, nM, nE, nL, nT, nB, iT, iN, iE, and_self, SR, SV, encApiBlock, encApiMotion, hb2]
      cases h
      simp only [↓reduceIte, reduceCtorEq, nA, nE, nL, and_self, and_true, true_and, SL, encApiBlock, encApiMotion, hb2]
  · intro v103
    refine Mir.toK ?_
    refine Mir.cond rfl (fun hb7 => ?_) (fun hb7 => ?_)
    · refine Mir.seqK ?_
      refine Mir.bind fun y105 hy8 => ?_
      refine Mir.region fun e h => ?_
      simp only [↓reduceIte, reduceCtorEq, nA, nS, nM, nE, nL, nT, nB, iT, iN, iE, and_self, SR, SV, encApiBlock, encApiMotion]
      refine SpecS.by (l47_awake_spec hy8) (rfl) ?_
      simp only [↓reduceIte, reduceCtorEq, nA, nS, nM, nE, nL, nT, nB, iT, iN, iE, and_self, SR, SV, encApiBlock, encApiMotion]
      refine Mir.use (e := e) ?_ h
      refine Mir.ret fun e h => ?_
      cases h
      simp only [↓reduceIte, reduceCtorEq, nA, nE, nL, and_self, and_true, true_and, SL, encApiBlock, encApiMotion, Tryd.results7]
    · refine Mir.skip ?_
      refine Mir.toK ?_
      refine Mir.seqK ?_
      refine Mir.bind fun y106 hy9 => ?_
      refine Mir.bind fun y107 hy10 => ?_
      refine Mir.region fun e h => ?_
      simp only [↓reduceIte, reduceCtorEq, nA, nS, nM, nE, nL, nT, nB, iT, iN, iE, and_self, SR, SV, encApiBlock, encApiMotion]
      refine SpecS.by (slices_Clone_api_Block_api_Block_spec hy9) (by simp only [↓reduceIte, reduceCtorEq, nA, nE, nL, and_self, and_true, true_and, SL, encApiBlock, encApiMotion]) ?_
      simp only [↓reduceIte, reduceCtorEq, nA, nS, nM, nE, nL, nT, nB, iT, iN, iE, and_self, SR, SV, encApiBlock, encApiMotion]
      refine SpecS.by (inp_States_spec hy10) (by simp only [↓reduceIte, reduceCtorEq, nA, nE, nL, and_self, and_true, true_and, SL, encApiBlock, encApiMotion]) ?_
      simp only [↓reduceIte, reduceCtorEq, nA, nS, nM, nE, nL, nT, nB, iT, iN, iE, and_self, SR, SV, zero_65, sz_65, encApiBlock, encApiMotion]
      refine Mir.use (e := e) ?_ h
      refine Mir.seqK ?_
      refine Mir.bind fun y108 hy11 => ?_
      refine Mir.region fun e h => ?_
      simp only [↓reduceIte, reduceCtorEq, nA, nS, nM, nE, nL, nT, nB, iT, iN, iE, and_self, SR, SV, encApiBlock, encApiMotion]
      refine SpecS.by (r47_States_spec hy11) (by simp only [↓reduceIte, reduceCtorEq, nA, nE, nL, and_self, and_true, true_and, SL, encApiBlock, encApiMotion]) ?_
      simp only [↓reduceIte, reduceCtorEq, nA, nS, nM, nE, nL, nT, nB, iT, iN, iE, and_self, SR, SV, zero_78, sz_78, encApiBlock, encApiMotion]
      refine Mir.use (e := e) ?_ h
      refine Mir.seqK ?_
      refine Mir.seqK ?_
      refine Mir.joinO (fun v110 : Bool => [U, U, .d (.list (List.map encApiMotion a2)), U, U, U, U, U, U, U, U, U, U, U, U, U, U, U, U, U, U, U, U, U, U, U, U, U, U, U, U, U, U, U, U, U, U, U, U, U, U, U, U, U, U, U, .d (.bool v110), U, U, U, U, U, U, U, U, U, U, U, U, U, U, U, U, U, U, U, U, U, U, U, U, U, U, U, U, U, U, U]) (fun v110 : Bool => ⟨[[.d (.int .i64 y107.1.Motion), .d (.int .i64 y107.1.Distance), .d (.int .i64 y107.1.Work), .d (.int .i64 y107.1.Length), .d (.int .i64 y107.1.Return), .d (.int .i64 y107.1.Feed), .d (.int .i64 y107.1.Tool), .d (.int .i64 y107.1.Offset)], [.d (.int .i64 y108.1.Motion), .d (.int .i64 y108.1.Distance), .d (.int .i64 y108.1.Work), .d (.int .i64 y108.1.Length), .d (.int .i64 y108.1.Return), .d (.int .i64 y108.1.Feed), .d (.int .i64 y108.1.Tool), .d (.int .i64 y108.1.Offset)]], []⟩) (fun _ => rfl) ?_ ?_
      · refine Mir.ite (fun hb12 => ?_) (fun hb12 => ?_)
        · refine Mir.regionD [] (by kernel_rfl) fun e h => ?_
          simp only [↓reduceIte, reduceCtorEq, nA, nS, nM, nE, nL, nT, nB, iT, iN, iE, and_self, SR, SV, sepL_nil, sepL_cons, sepV_ne, sepV_d, sepV_i, true_and, Bool.and_self, encApiBlock, encApiMotion, hb12]
          cases h
          simp only [↓reduceIte, reduceCtorEq, nA, nE, nL, and_self, and_true, true_and, SL, encApiBlock, encApiMotion, hb12]
        · refine Mir.bind fun y109 hy13 => ?_
          refine Mir.regionD [] (by kernel_rfl) fun e h => ?_
          simp only [↓reduceIte, reduceCtorEq, nA, nS, nM, nE, nL, nT, nB, iT, iN, iE, and_self, SR, SV, sepL_nil, sepL_cons, sepV_ne, sepV_d, sepV_i, true_and, Bool.and_self, ag_65, sz_65, encApiBlock, encApiMotion, hb12]
          refine Spec.by (l47_back_spec hy13) (by simp only [↓reduceIte, reduceCtorEq, nA, nE, nL, and_self, and_true, true_and, SL, encApiBlock, encApiMotion, hb12]) ?_
          simp only [↓reduceIte, reduceCtorEq, nA, nS, nM, nE, nL, nT, nB, iT, iN, iE, and_self, SR, SV, sepL_nil, sepL_cons, sepV_ne, sepV_d, sepV_i, true_and, Bool.and_self, ag_78, sz_78, gE_78, encApiBlock, encApiMotion, hb12]
          cases h
          simp only [↓reduceIte, reduceCtorEq, nA, nE, nL, and_self, and_true, true_and, SL, encApiBlock, encApiMotion, hb12]
      · intro v110
        refine Mir.toK ?_
        refine Mir.cond rfl (fun hb15 => ?_) (fun hb15 => ?_)
        · refine Mir.seqK ?_
          refine Mir.region fun e h => ?_
          simp only [↓reduceIte, reduceCtorEq, nA, nS, nM, nE, nL, nT, nB, iT, iN, iE, and_self, SR, SV, encApiBlock, encApiMotion]
          refine Mir.use (e := e) ?_ h
          refine Mir.ret fun e h => ?_
          cases h
          simp only [↓reduceIte, reduceCtorEq, nA, nE, nL, and_self, and_true, true_and, SL, encApiBlock, encApiMotion, Tryd.results7]
        · refine Mir.skip ?_
          refine Mir.toK ?_
          refine Mir.seqK ?_
          refine Mir.region fun e h => ?_
          simp only [↓reduceIte, reduceCtorEq, nA, nS, nM, nE, nL, nT, nB, iT, iN, iE, and_self, SR, SV, zero_24, pl_24, sz_24, encApiBlock, encApiMotion]
          refine Mir.use (e := e) ?_ h
          refine Mir.seqK ?_
          refine Mir.seqK ?_
          refine Mir.region fun e h => ?_
          simp only [↓reduceIte, reduceCtorEq, nA, nS, nM, nE, nL, nT, nB, iT, iN, iE, and_self, SR, SV, und_47, encApiBlock, encApiMotion]
          refine Mir.use (e := e) ?_ h
          refine Mir.joinO (fun v112 : ApiPos => [U, U, .d (.list (List.map encApiMotion a2)), U, U, U, U, U, U, U, U, .ptr 2 0, U, U, U, U, U, U, U, U, U, U, U, U, U, U, U, U, U, U, U, U, U, U, U, U, U, U, U, U, U, U, U, U, U, U, U, U, U, U, U, U, U, U, U, U, U, U, U, U, U, U, U, U, U, U, U, U, U, U, U, U, U, U, U, U, U, U]) (fun v112 : ApiPos => ⟨[[.d (.int .i64 y107.1.Motion), .d (.int .i64 y107.1.Distance), .d (.int .i64 y107.1.Work), .d (.int .i64 y107.1.Length), .d (.int .i64 y107.1.Return), .d (.int .i64 y107.1.Feed), .d (.int .i64 y107.1.Tool), .d (.int .i64 y107.1.Offset)], [.d (.int .i64 y108.1.Motion), .d (.int .i64 y108.1.Distance), .d (.int .i64 y108.1.Work), .d (.int .i64 y108.1.Length), .d (.int .i64 y108.1.Return), .d (.int .i64 y108.1.Feed), .d (.int .i64 y108.1.Tool), .d (.int .i64 y108.1.Offset)], [.d (.int .i64 v112.X), .d (.int .i64 v112.Y), .d (.int .i64 v112.Z)]], []⟩) (fun _ => rfl) ?_ ?_
          · refine Mir.cond rfl (fun hb18 => ?_) (fun hb18 => ?_)
            · refine Mir.bind fun e113 q19 => ?_
              replace q19 := gt_ok q19
              simp only [Int.reduceToNat, Int.reduceLT, Nat.sub_zero, dp0] at q19
              refine Mir.region fun e h => ?_
              simp only [↓reduceIte, reduceCtorEq, nA, nS, nM, nE, nL, nT, nB, iT, iN, iE, and_self, SR, SV, und_47, sz_62, q19, fld_62_0, sz_24, ag_24, encApiBlock, encApiMotion]
              cases h
              simp only [↓reduceIte, reduceCtorEq, nA, nE, nL, and_self, and_true, true_and, SL, encApiBlock, encApiMotion, Tryd.results7]
            · refine Mir.skip fun e h => ?_
              cases h
              simp only [↓reduceIte, reduceCtorEq, nA, nE, nL, and_self, and_true, true_and, SL, encApiBlock, encApiMotion, Tryd.results7]
          · intro v112
            refine Mir.toK ?_
            refine Mir.seqK ?_
            refine Mir.joinO (fun v121 : Bool => [U, U, U, U, U, U, .d (.bool v121), U, U, U, U, U, U, U, U, U, U, U, U, U, U, U, U, U, U, U, U, U, U, U, U, U, U, U, U, U, U, U, U, U, U, U, U, U, U, U, U, U, U, U, U, U, U, U, U, U, U, U, U, U, U, U, U, U, U, U, U, U, U, U, U, U, U, U, U, U, U, U]) (fun v121 : Bool => ⟨[[.d (.int .i64 y107.1.Motion), .d (.int .i64 y107.1.Distance), .d (.int .i64 y107.1.Work), .d (.int .i64 y107.1.Length), .d (.int .i64 y107.1.Return), .d (.int .i64 y107.1.Feed), .d (.int .i64 y107.1.Tool), .d (.int .i64 y107.1.Offset)], [.d (.int .i64 y108.1.Motion), .d (.int .i64 y108.1.Distance), .d (.int .i64 y108.1.Work), .d (.int .i64 y108.1.Length), .d (.int .i64 y108.1.Return), .d (.int .i64 y108.1.Feed), .d (.int .i64 y108.1.Tool), .d (.int .i64 y108.1.Offset)], [.d (.int .i64 v112.X), .d (.int .i64 v112.Y), .d (.int .i64 v112.Z)]], []⟩) (fun _ => rfl) ?_ ?_
            · refine Mir.bind fun y114 hy20 => ?_
              refine Mir.bind fun y115 hy21 => ?_
              refine Mir.ite (fun hb22 => ?_) (fun hb22 => ?_)
              · refine Mir.bind fun y116 hy23 => ?_
                refine Mir.bind fun y117 hy24 => ?_
                refine Mir.ite (fun hb25 => ?_) (fun hb25 => ?_)
                · refine Mir.bind fun y118 hy26 => ?_
                  refine Mir.bind fun y119 hy27 => ?_
                  refine Mir.bind fun y120 hy28 => ?_
                  refine Mir.regionD [] (by kernel_rfl) fun e h => ?_
                  simp only [↓reduceIte, reduceCtorEq, nA, nS, nM, nE, nL, nT, nB, iT, iN, iE, and_self, SR, SV, sepL_nil, sepL_cons, sepV_ne, sepV_d, sepV_i, true_and, Bool.and_self, ag_24, sz_24, encApiBlock, encApiMotion, hb22, hb25]
                  refine Spec.by (inp_End_spec hy20) (by simp only [↓reduceIte, reduceCtorEq, nA, nE, nL, and_self, and_true, true_and, SL, encApiBlock, encApiMotion, hb22, hb25]) ?_
                  simp only [↓reduceIte, reduceCtorEq, nA, nS, nM, nE, nL, nT, nB, iT, iN, iE, and_self, SR, SV, sepL_nil, sepL_cons, sepV_ne, sepV_d, sepV_i, true_and, Bool.and_self, ag_24, sz_24, encApiBlock, encApiMotion, hb22, hb25]
                  refine Spec.by (r47_End_spec hy21) (by simp only [↓reduceIte, reduceCtorEq, nA, nE, nL, and_self, and_true, true_and, SL, encApiBlock, encApiMotion, hb22, hb25]) ?_
                  simp only [↓reduceIte, reduceCtorEq, nA, nS, nM, nE, nL, nT, nB, iT, iN, iE, and_self, SR, SV, sepL_nil, sepL_cons, sepV_ne, sepV_d, sepV_i, true_and, Bool.and_self, gE_24, ag_24, sz_24, encApiBlock, encApiMotion, hb22, hb25]
                  refine Spec.by (inp_Connected_spec hy23) (by simp only [↓reduceIte, reduceCtorEq, nA, nE, nL, and_self, and_true, true_and, SL, encApiBlock, encApiMotion, hb22, hb25]) ?_
                  simp only [↓reduceIte, reduceCtorEq, nA, nS, nM, nE, nL, nT, nB, iT, iN, iE, and_self, SR, SV, sepL_nil, sepL_cons, sepV_ne, sepV_d, sepV_i, true_and, Bool.and_self, ag_24, sz_24, encApiBlock, encApiMotion, hb22, hb25]
                  refine Spec.by (r47_Connected_spec hy24) (by simp only [↓reduceIte, reduceCtorEq, nA, nE, nL, and_self, and_true, true_and, SL, encApiBlock, encApiMotion, hb22, hb25]) ?_
                  simp only [↓reduceIte, reduceCtorEq, nA, nS, nM, nE, nL, nT, nB, iT, iN, iE, and_self, SR, SV, sepL_nil, sepL_cons, sepV_ne, sepV_d, sepV_i, true_and, Bool.and_self, und_4, encApiBlock, encApiMotion, hb22, hb25]
                  refine Spec.by (inp_Tools_spec hy26) (by simp only [↓reduceIte, reduceCtorEq, nA, nE, nL, and_self, and_true, true_and, SL, encApiBlock, encApiMotion, hb22, hb25]) ?_
                  simp only [↓reduceIte, reduceCtorEq, nA, nS, nM, nE, nL, nT, nB, iT, iN, iE, and_self, SR, SV, sepL_nil, sepL_cons, sepV_ne, sepV_d, sepV_i, true_and, Bool.and_self, encApiBlock, encApiMotion, hb22, hb25]
                  refine Spec.by (r47_Tools_spec hy27) (by simp only [↓reduceIte, reduceCtorEq, nA, nE, nL, and_self, and_true, true_and, SL, encApiBlock, encApiMotion, hb22, hb25]) ?_
                  simp only [↓reduceIte, reduceCtorEq, nA, nS, nM, nE, nL, nT, nB, iT, iN, iE, and_self, SR, SV, sepL_nil, sepL_cons, sepV_ne, sepV_d, sepV_i, true_and, Bool.and_self, encApiBlock, encApiMotion, hb22, hb25]
                  refine Spec.by (slices_Equal_int_int_spec hy28) (by simp only [↓reduceIte, reduceCtorEq, nA, nE, nL, and_self, and_true, true_and, SL, encApiBlock, encApiMotion, hb22, hb25]) ?_
                  simp only [↓reduceIte, reduceCtorEq, nA, nS, nM, nE, nL, nT, nB, iT, iN, iE, and_self, SR, SV, sepL_nil, sepL_cons, sepV_ne, sepV_d, sepV_i, true_and, Bool.and_self, encApiBlock, encApiMotion, hb22, hb25]
                  cases h
                  simp only [↓reduceIte, reduceCtorEq, nA, nE, nL, and_self, and_true, true_and, SL, encApiBlock, encApiMotion, hb22, hb25]
                · refine Mir.regionD [] (by kernel_rfl) fun e h => ?_
                  simp only [↓reduceIte, reduceCtorEq, nA, nS, nM, nE, nL, nT, nB, iT, iN, iE, and_self, SR, SV, sepL_nil, sepL_cons, sepV_ne, sepV_d, sepV_i, true_and, Bool.and_self, ag_24, sz_24, encApiBlock, encApiMotion, hb22, hb25]
                  refine Spec.by (inp_End_spec hy20) (by simp only [↓reduceIte, reduceCtorEq, nA, nE, nL, and_self, and_true, true_and, SL, encApiBlock, encApiMotion, hb22, hb25]) ?_
                  simp only [↓reduceIte, reduceCtorEq, nA, nS, nM, nE, nL, nT, nB, iT, iN, iE, and_self, SR, SV, sepL_nil, sepL_cons, sepV_ne, sepV_d, sepV_i, true_and, Bool.and_self, ag_24, sz_24, encApiBlock, encApiMotion, hb22, hb25]
                  refine Spec.by (r47_End_spec hy21) (by simp only [↓reduceIte, reduceCtorEq, nA, nE, nL, and_self, and_true, true_and, SL, encApiBlock, encApiMotion, hb22, hb25]) ?_
                  simp only [↓reduceIte, reduceCtorEq, nA, nS, nM, nE, nL, nT, nB, iT, iN, iE, and_self, SR, SV, sepL_nil, sepL_cons, sepV_ne, sepV_d, sepV_i, true_and, Bool.and_self, gE_24, ag_24, sz_24, encApiBlock, encApiMotion, hb22, hb25]
                  refine Spec.by (inp_Connected_spec hy23) (by simp only [↓reduceIte, reduceCtorEq, nA, nE, nL, and_self, and_true, true_and, SL, encApiBlock, encApiMotion, hb22, hb25]) ?_
                  simp only [↓reduceIte, reduceCtorEq, nA, nS, nM, nE, nL, nT, nB, iT, iN, iE, and_self, SR, SV, sepL_nil, sepL_cons, sepV_ne, sepV_d, sepV_i, true_and, Bool.and_self, ag_24, sz_24, encApiBlock, encApiMotion, hb22, hb25]
                  refine Spec.by (r47_Connected_spec hy24) (by simp only [↓reduceIte, reduceCtorEq, nA, nE, nL, and_self, and_true, true_and, SL, encApiBlock, encApiMotion, hb22, hb25]) ?_
                  simp only [↓reduceIte, reduceCtorEq, nA, nS, nM, nE, nL, nT, nB, iT, iN, iE, and_self, SR, SV, sepL_nil, sepL_cons, sepV_ne, sepV_d, sepV_i, true_and, Bool.and_self, und_4, encApiBlock, encApiMotion, hb22, hb25]
                  cases h
                  simp only [↓reduceIte, reduceCtorEq, nA, nE, nL, and_self, and_true, true_and, SL, encApiBlock, encApiMotion, hb22, hb25]
              · refine Mir.regionD [] (by kernel_rfl) fun e h => ?_
                simp only [↓reduceIte, reduceCtorEq, nA, nS, nM, nE, nL, nT, nB, iT, iN, iE, and_self, SR, SV, sepL_nil, sepL_cons, sepV_ne, sepV_d, sepV_i, true_and, Bool.and_self, ag_24, sz_24, encApiBlock, encApiMotion, hb22]
                refine Spec.by (inp_End_spec hy20) (by simp only [↓reduceIte, reduceCtorEq, nA, nE, nL, and_self, and_true, true_and, SL, encApiBlock, encApiMotion, hb22]) ?_
                simp only [↓reduceIte, reduceCtorEq, nA, nS, nM, nE, nL, nT, nB, iT, iN, iE, and_self, SR, SV, sepL_nil, sepL_cons, sepV_ne, sepV_d, sepV_i, true_and, Bool.and_self, ag_24, sz_24, encApiBlock, encApiMotion, hb22]
                refine Spec.by (r47_End_spec hy21) (by simp only [↓reduceIte, reduceCtorEq, nA, nE, nL, and_self, and_true, true_and, SL, encApiBlock, encApiMotion, hb22]) ?_
                simp only [↓reduceIte, reduceCtorEq, nA, nS, nM, nE, nL, nT, nB, iT, iN, iE, and_self, SR, SV, sepL_nil, sepL_cons, sepV_ne, sepV_d, sepV_i, true_and, Bool.and_self, gE_24, encApiBlock, encApiMotion, hb22]
                cases h
                simp only [↓reduceIte, reduceCtorEq, nA, nE, nL, and_self, and_true, true_and, SL, encApiBlock, encApiMotion, hb22]
            · intro v121
              refine Mir.toK ?_
              refine Mir.ret fun e h => ?_
              cases h
              simp only [↓reduceIte, reduceCtorEq, nA, nE, nL, and_self, and_true, true_and, SL, encApiBlock, encApiMotion, Tryd.results7]

theorem co_4 : Tryd.prog.cellsOf 4 = 1 := by kernel_rfl
theorem opn_4 : Opn Tryd.prog 4 eBool inBool := Opn.bool Tryd.underlying4
theorem co_5 : Tryd.prog.cellsOf 5 = 1 := by kernel_rfl
theorem opn_5 : Opn Tryd.prog 5 (eInt .u8) (inInt .u8) := Opn.int Tryd.underlying5
theorem co_2 : Tryd.prog.cellsOf 2 = 1 := by kernel_rfl
theorem opn_2 : Opn Tryd.prog 2 (eInt .i64) (inInt .i64) := Opn.int Tryd.underlying2
def inApiWord (x : ApiWord) : Prop := (inInt .u8) x.Letter ∧ (inInt .i64) x.Value
theorem co_38 : Tryd.prog.cellsOf 38 = 2 := by kernel_rfl
theorem opn_38 : Opn Tryd.prog 38 encApiWord inApiWord := by
  intro w H enc fuel cs x h
  obtain ⟨xs, n, _, _, hl, hxl, hf⟩ := DataW.trod_struct Tryd.underlying38 h
  have hxl' : xs.length = 2 := hxl
  obtain ⟨s0, r0, o0⟩ := Opn.field hf 0 5 0 1 rfl co_5 (by omega) opn_5
  obtain ⟨s1, r1, o1⟩ := Opn.field hf 1 2 1 1 rfl co_2 (by omega) opn_2
  refine ⟨⟨s0, s1⟩, ?_, o0, o1⟩
  exact (RelC.cut 0 1 r0 rfl (RelC.cut 1 1 r1 rfl (RelC.nil (n := 2) (by rw [hl, co_38]; exact Nat.le_refl _))))
theorem co_40 : Tryd.prog.cellsOf 40 = 1 := by kernel_rfl
theorem opn_40 : Opn Tryd.prog 40 (eList encApiWord) (inList inApiWord) := Opn.slice Tryd.underlying40 opn_38 (fun _ => (rfl : _ = 2).trans co_38.symm) (by rw [co_38]; decide)
theorem co_9 : Tryd.prog.cellsOf 9 = 1 := by kernel_rfl
theorem opn_9 : Opn Tryd.prog 9 eStr inStr := Opn.str Tryd.underlying9
def inApiBlock (x : ApiBlock) : Prop := inBool x.Skip ∧ (inList inApiWord) x.Words ∧ inStr x.Comment
theorem co_42 : Tryd.prog.cellsOf 42 = 3 := by kernel_rfl
theorem opn_42 : Opn Tryd.prog 42 encApiBlock inApiBlock := by
  intro w H enc fuel cs x h
  obtain ⟨xs, n, _, _, hl, hxl, hf⟩ := DataW.trod_struct Tryd.underlying42 h
  have hxl' : xs.length = 3 := hxl
  obtain ⟨s0, r0, o0⟩ := Opn.field hf 0 4 0 1 rfl co_4 (by omega) opn_4
  obtain ⟨s1, r1, o1⟩ := Opn.field hf 1 40 1 1 rfl co_40 (by omega) opn_40
  obtain ⟨s2, r2, o2⟩ := Opn.field hf 2 9 2 1 rfl co_9 (by omega) opn_9
  refine ⟨⟨s0, s1, s2⟩, ?_, o0, o1, o2⟩
  exact (RelC.cut 0 1 r0 rfl (RelC.cut 1 1 r1 rfl (RelC.cut 2 1 r2 rfl (RelC.nil (n := 3) (by rw [hl, co_42]; exact Nat.le_refl _)))))
theorem co_43 : Tryd.prog.cellsOf 43 = 1 := by kernel_rfl
theorem opn_43 : Opn Tryd.prog 43 (eList encApiBlock) (inList inApiBlock) := Opn.slice Tryd.underlying43 opn_42 (fun _ => (rfl : _ = 3).trans co_42.symm) (by rw [co_42]; decide)
theorem co_3 : Tryd.prog.cellsOf 3 = 1 := by kernel_rfl
theorem opn_3 : Opn Tryd.prog 3 (eInt .i64) (inInt .i64) := Opn.int Tryd.underlying3
def inApiPos (x : ApiPos) : Prop := (inInt .i64) x.X ∧ (inInt .i64) x.Y ∧ (inInt .i64) x.Z
theorem co_24 : Tryd.prog.cellsOf 24 = 3 := by kernel_rfl
theorem opn_24 : Opn Tryd.prog 24 encApiPos inApiPos := by
  intro w H enc fuel cs x h
  obtain ⟨xs, n, _, _, hl, hxl, hf⟩ := DataW.trod_struct Tryd.underlying24 h
  have hxl' : xs.length = 3 := hxl
  obtain ⟨s0, r0, o0⟩ := Opn.field hf 0 2 0 1 rfl co_2 (by omega) opn_2
  obtain ⟨s1, r1, o1⟩ := Opn.field hf 1 2 1 1 rfl co_2 (by omega) opn_2
  obtain ⟨s2, r2, o2⟩ := Opn.field hf 2 2 2 1 rfl co_2 (by omega) opn_2
  refine ⟨⟨s0, s1, s2⟩, ?_, o0, o1, o2⟩
  exact (RelC.cut 0 1 r0 rfl (RelC.cut 1 1 r1 rfl (RelC.cut 2 1 r2 rfl (RelC.nil (n := 3) (by rw [hl, co_24]; exact Nat.le_refl _)))))
def inApiMotion (x : ApiMotion) : Prop := inApiPos x.From ∧ inApiPos x.To ∧ (inInt .i64) x.Rate ∧ (inInt .i64) x.Tool ∧ (inInt .i64) x.Block
theorem co_62 : Tryd.prog.cellsOf 62 = 9 := by kernel_rfl
theorem opn_62 : Opn Tryd.prog 62 encApiMotion inApiMotion := by
  intro w H enc fuel cs x h
  obtain ⟨xs, n, _, _, hl, hxl, hf⟩ := DataW.trod_struct Tryd.underlying62 h
  have hxl' : xs.length = 5 := hxl
  obtain ⟨s0, r0, o0⟩ := Opn.field hf 0 24 0 3 rfl co_24 (by omega) opn_24
  obtain ⟨s1, r1, o1⟩ := Opn.field hf 1 24 3 3 rfl co_24 (by omega) opn_24
  obtain ⟨s2, r2, o2⟩ := Opn.field hf 2 2 6 1 rfl co_2 (by omega) opn_2
  obtain ⟨s3, r3, o3⟩ := Opn.field hf 3 3 7 1 rfl co_3 (by omega) opn_3
  obtain ⟨s4, r4, o4⟩ := Opn.field hf 4 3 8 1 rfl co_3 (by omega) opn_3
  refine ⟨⟨s0, s1, s2, s3, s4⟩, ?_, o0, o1, o2, o3, o4⟩
  exact (RelC.cut 0 3 r0 rfl (RelC.cut 3 3 r1 rfl (RelC.cut 6 1 r2 rfl (RelC.cut 7 1 r3 rfl (RelC.cut 8 1 r4 rfl (RelC.nil (n := 9) (by rw [hl, co_62]; exact Nat.le_refl _)))))))
theorem co_47 : Tryd.prog.cellsOf 47 = 1 := by kernel_rfl
theorem opn_47 : Opn Tryd.prog 47 (eList encApiMotion) (inList inApiMotion) := Opn.slice Tryd.underlying47 opn_62 (fun _ => (rfl : _ = 9).trans co_62.symm) (by rw [co_62]; decide)
end Go.Proofs.YtlcfgpjgjdjpoaaDoor
