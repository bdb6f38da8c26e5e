/-
  Mirrors of functions, written by wip/mir.py.
-/
import Derived.Test.YtejknolljjpodaaGreatDoorMBa
namespace Go.Proofs.YtejknolljjpodaaGreatDoor
open Go.RowKit
open Nat renaming reduceAdd → nA, reduceSub → nS, reduceMul → nM, reduceEqDiff → nE, reduceLeDiff → nL, reduceLT → nT, reduceBEq → nB
open Int renaming reduceLT → iT, reduceToNat → iN, reduceEq → iE
set_option linter.unusedVariables false
set_option linter.unusedSimpArgs false
set_option maxRecDepth 100000

def bk_Format (a0 : ApiBlock) : Option ((List UInt8) × Int) :=
  bindO (bk_Valid a0) fun (y101 : Int) =>
  if (y101 != 0) = true then
    some ([], y101)
  else
    bindO (guardO (okIdx a0.Words) (
        rangeX (fun (i169 : Nat) (e171 : ApiWord) (v170 : (List (List UInt8))) =>
          bindO (bk_Text e171.Value) fun (y173 : (List UInt8)) =>
          guardO (okStr (runeS (IntKind.i32.wrap e171.Letter)) y173) (
          guardO (okLen (v170.length + 1)) (
          some (.go (v170 ++ [(runeS (IntKind.i32.wrap e171.Letter)) ++ y173]))))) (fun (v170 : (List (List UInt8))) => some v170) a0.Words 0 [])) fun (v151 : (List (List UInt8))) =>
    bindO (if (!(a0.Comment == [])) = true then
          guardO (okStr [40] a0.Comment) (
          guardO (okStr ([40] ++ a0.Comment) [41]) (
          guardO (okLen (v151.length + 1)) (
          some (v151 ++ [([40] ++ a0.Comment) ++ [41]]))))
        else
          some v151) fun (v174 : (List (List UInt8))) =>
    bindO (strings_Join v174 [32]) fun (y175 : (List UInt8)) =>
    bindO (if a0.Skip = true then
          guardO (okStr [47] y175) (
          some ([47] ++ y175))
        else
          some y175) fun (v176 : (List UInt8)) =>
    some (v176, 0)
theorem bk_Format_spec {a0 : ApiBlock} {y : (List UInt8) × Int} (h : bk_Format a0 = some y) : Spec gP 108 [.agg [.d (.bool a0.Skip), .d (.list (List.map encApiWord a0.Words)), .d (.str a0.Comment)]] (.tuple [.d (.str y.1), .d (.int .i64 y.2)]) := by
  refine spec_mir Tryz.func108 rfl (by kernel_rfl) (by kernel_rfl) (fun y : (List UInt8) × Int => .tuple [.d (.str y.1), .d (.int .i64 y.2)]) ?_ h
  unfold bk_Format
  simp only [List.replicate, List.length, nS, nA, Tryz.ntmps108, SV]
  refine .seqK (.region fun e h => ?_)
  simp only [seval, SE, ENMB, eStr]
  refine mU e ?_ h
  refine .seqK (.seqK (.bind fun y101 hy1 => .region fun e h => ?_))
  simp only [seval, SE, ag_31, sz_31, ENMB, eStr]
  refine SpecS.by (bk_Valid_spec hy1) (by simp only [seval, SF, ENMB, eStr]) ?_
  simp only [seval, SE, ENMB, eStr]
  refine mU e ?_ h
  refine .seqK (.region fun e h => ?_)
  simp only [seval, SE, ENMB, eStr]
  refine mU e ?_ h
  refine .cond rfl (fun hb3 => ?_) (fun hb3 => ?_)
  refine .seqK (.region fun e h => ?_)
  simp only [seval, SE, ENMB]
  refine mU e ?_ h
  refine .ret fun e h => ?_
  cases h
  simp only [seval, SF, ENMB, Tryz.results108]
  refine .skip (Mir.toK (.seqK (.region fun e h => ?_)))
  simp only [seval, SE, ENMB, eStr]
  refine mU e ?_ h
  refine .seqK (.seqK (.region fun e h => ?_))
  simp only [seval, SE, fld_31_1, sz_29, ag_29, und_29, ENMB, eStr]
  refine mU e ?_ h
  refine .gh [.slot 5 9] rfl (Mir.joinO (fun v151 : (List (List UInt8)) => (U :: .ptr 0 0 :: U :: U :: U :: .own 0 (List.map eStr v151) :: us 44)) (fun v151 => ⟨[[.d (.bool a0.Skip), .d (.list (List.map encApiWord a0.Words)), .d (.str a0.Comment)]], [(9, v151.length)]⟩) (fun _ => rfl) ?_ ?_)
  refine .block (.guard fun qg116 => Mir.range (fun (i169 : Nat) (v170 : (List (List UInt8))) => (U :: .ptr 0 0 :: U :: U :: U :: .own 0 (List.map eStr v170) :: U :: U :: U :: U :: U :: U :: U :: U :: U :: .d (.list (List.map encApiWord a0.Words)) :: .d (.int .i64 (a0.Words.length : Int)) :: .d (.int .i64 (i169 : Int)) :: us 32)) (fun i169 v170 => ⟨[[.d (.bool a0.Skip), .d (.list (List.map encApiWord a0.Words)), .d (.str a0.Comment)]], [(9, v170.length)]⟩) qg116 (fun _ _ => rfl) (by simp only [seval, SF, ENMB, eStr, (nr rfl : ((0 : Nat) : Int) = 0)]) (by simp only [seval, SF, ENMB, eStr, (nr rfl : ((0 : Nat) : Int) = 0)]) ?_ ?_)
  intro i169 e171 v170 qr114
  refine .seqK (.region fun e h => ?_)
  simp only [seval, SE, qr114, ENMB, eStr]
  refine mU e ?_ h
  refine .seqK (.condT rfl (.skip (Mir.toK (.seqK (.block (.seqK (.region fun e h => ?_)))))))
  simp only [seval, SE, und_29, sz_77, qr114, Int.toNat_natCast, ag_77, zero_77, ENMB, eStr]
  refine mU e ?_ h
  refine .bind fun y173 hy120 => .guard fun q121 => ?_
  replace q121 := okStr_ok q121
  refine .guard fun q122 => .regionD [] (by kernel_rfl) fun e h => ?_
  simp only [seval, SE, SB, fld_77_0, sz_5, ag_5, und_5, und_21, und_9, rune_enc, fld_77_1, sz_2, ag_2, ENMB, eStr]
  refine Spec.by (bk_Text_spec hy120) (by simp only [seval, SF, ENMB, eStr]) ?_
  simp only [seval, SE, SB, q121, und_189, sz_9, zero_9, (nr rfl : okLen 1 = true), app_189, al_eStr, q122, ENMB, eStr]
  refine mU e ?_ h
  refine .region fun e h => ?_
  simp only [seval, SE, ENMB, eStr]
  cases h
  simp only [seval, SF, ENMB, eStr, Tryz.results108, qr114]
  intro v170 qd115
  refine .seqK (.region fun e h => ?_)
  simp only [seval, SE, qd115, ENMB, eStr]
  refine mU e ?_ h
  refine .seqK (.condF rfl (.exit fun e h => ?_))
  cases h
  simp only [seval, SF, ENMB, eStr, Tryz.results108]
  intro v151
  refine Mir.toK (.seqK (.seqK (.region fun e h => ?_)))
  simp only [seval, SE, fld_31_2, sz_9, ag_9, ENMB, eStr]
  refine mU e ?_ h
  refine Mir.joinO (fun v174 : (List (List UInt8)) => (U :: .ptr 0 0 :: U :: U :: U :: .own 0 (List.map eStr v174) :: us 44)) (fun v174 => ⟨[[.d (.bool a0.Skip), .d (.list (List.map encApiWord a0.Words)), .d (.str a0.Comment)]], [(9, v174.length)]⟩) (fun _ => rfl) ?_ ?_
  refine .cond rfl (fun hb127 => ?_) (fun hb127 => ?_)
  refine .guard fun q128 => ?_
  replace q128 := okStr_ok q128
  try simp only [lm, xNA, xCA, xAN, xLC, xLN, xAC, xAL, nA, Nat.zero_add] at q128
  refine .guard fun q129 => ?_
  replace q129 := okStr_ok q129
  try simp only [lm, xNA, xCA, xAN, xLC, xLN, xAC, xAL, nA, Nat.zero_add] at q129
  refine .guard fun q130 => .region fun e h => ?_
  simp only [seval, SE, fld_31_2, sz_9, ag_9, q128, q129, und_189, zero_9, (nr rfl : okLen 1 = true), app_189, al_eStr, q130, ENMB, eStr]
  cases h
  simp only [seval, SF, ENMB, eStr, Tryz.results108]
  refine .skip fun e h => ?_
  cases h
  simp only [seval, SF, ENMB, eStr, Tryz.results108]
  intro v174
  refine Mir.toK (.seqK (.bind fun y175 hy131 => .region fun e h => ?_))
  simp only [seval, SE, ENMB, eStr]
  refine SpecS.by (strings_Join_spec hy131) (by simp only [seval, SF, ENMB, eStr]) ?_
  simp only [seval, SE, ENMB, eStr]
  refine mU e ?_ h
  refine .seqK (.seqK (.region fun e h => ?_))
  simp only [seval, SE, fld_31_0, sz_4, ag_4, ENMB, eStr]
  refine mU e ?_ h
  refine Mir.joinO (fun v176 : (List UInt8) => (U :: U :: U :: U :: U :: U :: U :: U :: .d (.str v176) :: us 41)) (fun v176 => ⟨[[.d (.bool a0.Skip), .d (.list (List.map encApiWord a0.Words)), .d (.str a0.Comment)]], [(9, v174.length)]⟩) (fun _ => rfl) ?_ ?_
  refine .cond rfl (fun hb134 => ?_) (fun hb134 => ?_)
  refine .guard fun q135 => ?_
  replace q135 := okStr_ok q135
  try simp only [lm, xNA, xCA, xAN, xLC, xLN, xAC, xAL, nA, Nat.zero_add] at q135
  refine .region fun e h => ?_
  simp only [seval, SE, q135, ENMB, eStr]
  cases h
  simp only [seval, SF, ENMB, eStr, Tryz.results108]
  refine .skip fun e h => ?_
  cases h
  simp only [seval, SF, ENMB, eStr, Tryz.results108]
  intro v176
  refine Mir.toK (.seqK (.region fun e h => ?_))
  simp only [seval, SE, ENMB, eStr]
  refine mU e ?_ h
  refine .ret fun e h => ?_
  cases h
  simp only [seval, SF, ENMB, eStr, Tryz.results108]

def bk_Print (a0 : (List ApiBlock)) : Option ((List UInt8) × Int) :=
  bindX (guardO (okIdx a0) (
      rangeX (fun (i141 : Nat) (e143 : ApiBlock) (v142 : (List UInt8)) =>
        bindO (bk_Format e143) fun (y145 : (List UInt8) × Int) =>
        if (y145.2 != 0) = true then
          some (.ret (.ret ([], y145.2)))
        else
          guardO (okLen (v142.length + y145.1.length)) (
          guardO (okLen ((v142 ++ y145.1).length + 1)) (
          some (.go (v142 ++ y145.1 ++ [10]))))) (fun (v142 : (List UInt8)) => some (.go v142)) a0 0 [])) fun (v123 : (List UInt8)) =>
  some (v123, 0)
theorem bk_Print_spec {a0 : (List ApiBlock)} {y : (List UInt8) × Int} (h : bk_Print a0 = some y) : Spec gP 64 [.d (.list (List.map encApiBlock a0))] (.tuple [.d (.str y.1), .d (.int .i64 y.2)]) := by
  refine spec_mir Tryz.func64 rfl (by kernel_rfl) (by kernel_rfl) (fun y : (List UInt8) × Int => .tuple [.d (.str y.1), .d (.int .i64 y.2)]) ?_ h
  unfold bk_Print
  simp only [List.replicate, List.length, nS, nA, Tryz.ntmps64, SV]
  refine .seqK (.region fun e h => ?_)
  simp only [seval, SE, ENMB]
  refine mU e ?_ h
  refine .seqK (.regionW fun e h => regW.alt 0 rfl ?_)
  simp only [seval, SE, w_none, w_eq, ENMB]
  refine alt_allocB (e := 5) (zv := .agg #[.pointer none, .slice none 0 0]) rfl (by kernel_rfl) rfl (regW.of ?_)
  simp only [seval, SE, w_none, w_eq, ENMB]
  refine mU e ?_ h
  refine .seqK (.seqK (.region fun e h => ?_))
  simp only [seval, SE, und_39, ENMB]
  refine mU e ?_ h
  refine Mir.join (fun v123 : (List UInt8) => (U :: U :: U :: U :: .ptr 0 0 :: us 23)) (fun v123 => ⟨[[.adr 0, .own 0 (List.map byteE v123)]], [(5, v123.length)]⟩) (fun _ => rfl) ?_ ?_
  refine .block (.guard fun qg100 => Mir.range (fun (i141 : Nat) (v142 : (List UInt8)) => (U :: U :: U :: U :: .ptr 0 0 :: U :: U :: U :: U :: .d (.list (List.map encApiBlock a0)) :: .d (.int .i64 (a0.length : Int)) :: .d (.int .i64 (i141 : Int)) :: us 16)) (fun i141 v142 => ⟨[[.adr 0, .own 0 (List.map byteE v142)]], [(5, v142.length)]⟩) qg100 (fun _ _ => rfl) (by simp only [seval, SF, ENMB, (nr rfl : ((0 : Nat) : Int) = 0)]) (by simp only [seval, SF, ENMB, (nr rfl : ((0 : Nat) : Int) = 0)]) ?_ ?_)
  intro i141 e143 v142 qr98
  refine .seqK (.region fun e h => ?_)
  simp only [seval, SE, qr98, ENMB]
  refine mU e ?_ h
  refine .seqK (.condT rfl (.skip (Mir.toK (.seqK (.block (.seqK (.region fun e h => ?_)))))))
  simp only [seval, SE, und_39, sz_31, qr98, Int.toNat_natCast, ag_31, zero_31, ENMB]
  refine mU e ?_ h
  refine .seqK (.bind fun y145 hy106 => .region fun e h => ?_)
  simp only [seval, SE, ag_31, sz_31, ENMB]
  refine SpecS.by (bk_Format_spec hy106) (by simp only [seval, SF, ENMB]) ?_
  simp only [seval, SE, ENMB]
  refine mU e ?_ h
  refine .seqK (.seqK (.region fun e h => ?_))
  simp only [seval, SE, ENMB]
  refine mU e ?_ h
  refine .cond rfl (fun hb108 => ?_) (fun hb108 => ?_)
  refine .seqK (.region fun e h => ?_)
  simp only [seval, SE, ENMB]
  refine mU e ?_ h
  refine .ret fun e h => ?_
  cases h
  simp only [seval, SF, ENMB, Tryz.results64]
  refine .skip (Mir.toK (.seqK (.guard fun q109 => .region fun e h => ?_)))
  simp only [seval, SE, ENMB]
  refine specS_wsN (n := (v142 ++ y145.1).length) rfl (lns_at (by simp only [List.length_map, List.length_append, List.length_nil, List.length_cons, List.map_nil, List.map_cons, xOS, xON] <;> omega)) (ok2 q109 (by simp only [List.length_map, List.length_append, List.length_nil, List.length_cons, List.map_nil, List.map_cons, xOS, xON] <;> omega) rfl) (by simp only [List.length_map, List.length_append, List.length_nil, List.length_cons, List.map_nil, List.map_cons, xOS, xON] <;> omega) ?_
  simp only [seval, SE, ENMB]
  refine mU e ?_ h
  refine .guard fun q110 => .region fun e h => ?_
  simp only [seval, SE, ENMB]
  refine specS_wbN (b := 10) (n := (v142 ++ y145.1 ++ [10]).length) rfl rfl (lns_at (by simp only [List.length_map, List.length_append, List.length_nil, List.length_cons, List.map_nil, List.map_cons, xOS, xON] <;> omega)) (ok2 q110 (by simp only [List.length_map, List.length_append, List.length_nil, List.length_cons, List.map_nil, List.map_cons, xOS, xON] <;> omega) rfl) (by simp only [List.length_map, List.length_append, List.length_nil, List.length_cons, List.map_nil, List.map_cons, xOS, xON] <;> omega) ?_
  simp only [seval, SE, ENMB]
  refine mU e ?_ h
  refine .region fun e h => ?_
  simp only [seval, SE, ENMB]
  cases h
  simp only [seval, SF, ENMB, Tryz.results64, qr98]
  intro v142 qd99
  refine .seqK (.region fun e h => ?_)
  simp only [seval, SE, qd99, ENMB]
  refine mU e ?_ h
  refine .seqK (.condF rfl (.exit fun e h => ?_))
  cases h
  simp only [seval, SF, ENMB, Tryz.results64]
  intro v123
  refine Mir.toK (.seqK (.region fun e h => ?_))
  simp only [seval, SE, ENMB]
  refine specS_st rfl (lns_at (by simp only [List.length_map, List.length_append, List.length_nil, List.length_cons, List.map_nil, List.map_cons, xOS, xON] <;> omega)) ?_
  simp only [seval, SE, ENMB]
  refine mU e ?_ h
  refine .ret fun e h => ?_
  cases h
  simp only [seval, SF, ENMB, Tryz.results64]

def po_Emit (a0 : (List ApiStage)) (a1 : ApiPos) (a2 : PostOptions) : Option ((List UInt8) × Int) :=
  bindO (po_Blocks a0 (ApiPos.mk a1.X a1.Y a1.Z) a2) fun (y101 : (List ApiBlock) × Int) =>
  if (y101.2 != 0) = true then
    some ([], y101.2)
  else
    bindO (bk_Print y101.1) fun (y102 : (List UInt8) × Int) =>
    if (y102.2 != 0) = true then
      some ([], y102.2)
    else
      if (decide ((y102.1.length : Int) > 65536)) = true then
        some ([], 3)
      else
        some (y102.1, 0)
theorem po_Emit_spec {a0 : (List ApiStage)} {a1 : ApiPos} {a2 : PostOptions} {y : (List UInt8) × Int} (h : po_Emit a0 a1 a2 = some y) : Spec gP 27 [.d (.list (List.map encApiStage a0)), .agg [.d (.int .i64 a1.X), .d (.int .i64 a1.Y), .d (.int .i64 a1.Z)], .agg [.d (.int .i64 a2.Work), .d (.bool a2.Compress), .d (.int .i64 a2.Numbers), .d (.int .i64 a2.Fold)]] (.tuple [.d (.str y.1), .d (.int .i64 y.2)]) := by
  refine spec_mir Tryz.func27 rfl (by kernel_rfl) (by kernel_rfl) (fun y : (List UInt8) × Int => .tuple [.d (.str y.1), .d (.int .i64 y.2)]) ?_ h
  unfold po_Emit
  simp only [List.replicate, List.length, nS, nA, Tryz.ntmps27, SV]
  refine .seqK (.region fun e h => ?_)
  simp only [seval, SE, ENMB]
  refine mU e ?_ h
  refine .seqK (.bind fun y101 hy1 => .region fun e h => ?_)
  simp only [seval, SE, ag_23, sz_23, ag_44, sz_44, ENMB]
  refine SpecS.by (po_Blocks_spec hy1) (by simp only [seval, SF, ENMB]) ?_
  simp only [seval, SE, ENMB]
  refine mU e ?_ h
  refine .seqK (.seqK (.region fun e h => ?_))
  simp only [seval, SE, ENMB]
  refine mU e ?_ h
  refine .cond rfl (fun hb3 => ?_) (fun hb3 => ?_)
  refine .seqK (.region fun e h => ?_)
  simp only [seval, SE, ENMB]
  refine mU e ?_ h
  refine .ret fun e h => ?_
  cases h
  simp only [seval, SF, ENMB, Tryz.results27]
  refine .skip (Mir.toK (.seqK (.bind fun y102 hy4 => .region fun e h => ?_)))
  simp only [seval, SE, ENMB]
  refine SpecS.by (bk_Print_spec hy4) (by simp only [seval, SF, ENMB]) ?_
  simp only [seval, SE, ENMB]
  refine mU e ?_ h
  refine .seqK (.seqK (.region fun e h => ?_))
  simp only [seval, SE, ENMB]
  refine mU e ?_ h
  refine .cond rfl (fun hb6 => ?_) (fun hb6 => ?_)
  refine .seqK (.region fun e h => ?_)
  simp only [seval, SE, ENMB]
  refine mU e ?_ h
  refine .ret fun e h => ?_
  cases h
  simp only [seval, SF, ENMB, Tryz.results27]
  refine .skip (Mir.toK (.seqK (.seqK (.region fun e h => ?_))))
  simp only [seval, SE, und_9, ENMB]
  refine mU e ?_ h
  refine .cond rfl (fun hb8 => ?_) (fun hb8 => ?_)
  refine .seqK (.region fun e h => ?_)
  simp only [seval, SE, ENMB]
  refine mU e ?_ h
  refine .ret fun e h => ?_
  cases h
  simp only [seval, SF, ENMB, Tryz.results27]
  refine .skip (Mir.toK (.seqK (.region fun e h => ?_)))
  simp only [seval, SE, ENMB]
  refine mU e ?_ h
  refine .ret fun e h => ?_
  cases h
  simp only [seval, SF, ENMB, Tryz.results27]

def l46_awake  : Option Bool :=
  bindO (po_Move (ApiPos.mk 0 0 5000) (ApiMove.mk 2 (ApiPos.mk 10000 2500 (-1000)) (ApiGrid2.mk 0 0) 20000)) fun (y101 : ApiBlock × Int) =>
  bindO (l46_text y101.1 y101.2) fun (y102 : (List UInt8)) =>
  bindO (po_Move (ApiPos.mk 3000 0 (-1000)) (ApiMove.mk 4 (ApiPos.mk 3000 0 (-1000)) (ApiGrid2.mk 0 0) 20000)) fun (y103 : ApiBlock × Int) =>
  bindO (l46_text y103.1 y103.2) fun (y104 : (List UInt8)) =>
  bindO (po_Change 7) fun (y105 : (List ApiBlock) × Int) =>
  bindO (po_Emit [] (ApiPos.mk 0 0 5000) (PostOptions.mk 55000 true 0 0)) fun (y106 : (List UInt8) × Int) =>
  bindO (if (y102 == [71, 49, 32, 88, 49, 48, 32, 89, 50, 46, 53, 32, 90, 45, 49, 32, 70, 50, 48]) = true then
        if (y104 == [71, 51, 32, 88, 51, 32, 89, 48, 32, 90, 45, 49, 32, 73, 45, 51, 32, 74, 48, 32, 70, 50, 48]) = true then
          if (y105.2 == 0) = true then
            if ((y105.1.length : Int) == 2) = true then
              bindO (gt y105.1 0) fun (e107 : ApiBlock) =>
              bindO (l46_text e107 y105.2) fun (y108 : (List UInt8)) =>
              if (y108 == [84, 55, 32, 77, 54]) = true then
                bindO (gt y105.1 1) fun (e109 : ApiBlock) =>
                bindO (l46_text e109 y105.2) fun (y110 : (List UInt8)) =>
                if (y110 == [71, 52, 51, 32, 72, 55]) = true then
                  if (y106.2 == 0) = true then
                    some (y106.1 == [71, 53, 53, 10, 77, 51, 48, 10])
                  else
                    some false
                else
                  some false
              else
                some false
            else
              some false
          else
            some false
        else
          some false
      else
        some false) fun (v111 : Bool) =>
  some v111
theorem l46_awake_spec  {y : Bool} (h : l46_awake = some y) : Spec gP 9 [] (.d (.bool y)) := by
  refine spec_mir Tryz.func9 rfl (by kernel_rfl) (by kernel_rfl) (fun y : Bool => .d (.bool y)) ?_ h
  unfold l46_awake
  simp only [List.replicate, List.length, nS, nA, Tryz.ntmps9, SV]
  refine .seqK (.region fun e h => ?_)
  simp only [seval, SE, ENMB]
  refine mU e ?_ h
  refine .seqK (.region fun e h => ?_)
  simp only [seval, SE, zero_23, pl_23, sz_23, ENMB]
  refine mU e ?_ h
  refine .seqK (.bind fun y101 hy1 => .bind fun y102 hy2 => .region fun e h => ?_)
  simp only [seval, SE, ag_23, sz_23, zero_27, pl_27, ENMB]
  refine SpecS.by (po_Move_spec hy1) (by simp only [seval, SF, ENMB]) ?_
  simp only [seval, SE, ENMB]
  refine SpecS.by (l46_text_spec hy2) (by simp only [seval, SF, ENMB]) ?_
  simp only [seval, SE, ENMB]
  refine mU e ?_ h
  refine .seqK (.region fun e h => ?_)
  simp only [seval, SE, zero_23, pl_23, sz_23, ENMB]
  refine mU e ?_ h
  refine .seqK (.bind fun y103 hy3 => .bind fun y104 hy4 => .region fun e h => ?_)
  simp only [seval, SE, ag_23, sz_23, zero_27, pl_27, ENMB]
  refine SpecS.by (po_Move_spec hy3) (by simp only [seval, SF, ENMB]) ?_
  simp only [seval, SE, ENMB]
  refine SpecS.by (l46_text_spec hy4) (by simp only [seval, SF, ENMB]) ?_
  simp only [seval, SE, ENMB]
  refine mU e ?_ h
  refine .seqK (.bind fun y105 hy5 => .region fun e h => ?_)
  simp only [seval, SE, ENMB]
  refine SpecS.by (po_Change_spec hy5) (by simp only [seval, SF, ENMB]) ?_
  simp only [seval, SE, ENMB]
  refine mU e ?_ h
  refine .seqK (.bind fun y106 hy6 => .region fun e h => ?_)
  simp only [seval, SE, ag_23, sz_23, zero_44, pl_44, ENMB]
  refine SpecS.by (po_Emit_spec hy6) (by simp only [seval, SF, ENMB]) ?_
  simp only [seval, SE, ENMB]
  refine mU e ?_ h
  refine .seqK (Mir.joinO (fun v111 : Bool => (.d (.bool v111) :: us 75)) (fun v111 => ⟨[[.d (.int .i64 0), .d (.int .i64 0), .d (.int .i64 5000)], [.d (.int .i64 10000), .d (.int .i64 2500), .d (.int .i64 (-1000))], [.d (.int .i64 3000), .d (.int .i64 0), .d (.int .i64 (-1000))]], []⟩) (fun _ => rfl) ?_ ?_)
  refine .ite (fun hb7 => ?_) (fun hb7 => ?_)
  refine .ite (fun hb8 => ?_) (fun hb8 => ?_)
  refine .ite (fun hb9 => ?_) (fun hb9 => ?_)
  refine .ite (fun hb10 => ?_) (fun hb10 => ?_)
  refine .bind fun e107 q11 => ?_
  replace q11 := gt_ok q11
  simp only [Int.reduceToNat, Int.reduceLT, Nat.sub_zero, dp0] at q11
  refine .bind fun y108 hy12 => .ite (fun hb13 => ?_) (fun hb13 => ?_)
  refine .bind fun e109 q14 => ?_
  replace q14 := gt_ok q14
  simp only [Int.reduceToNat, Int.reduceLT, Nat.sub_zero, dp0] at q14
  refine .bind fun y110 hy15 => .ite (fun hb16 => ?_) (fun hb16 => ?_)
  refine .ite (fun hb17 => ?_) (fun hb17 => ?_)
  refine .region fun e h => ?_
  simp only [seval, SE, und_39, sz_31, q11, ag_31, ENMB, hb7, hb8, hb9, hb10, hb13, hb16, hb17]
  refine SpecS.by (l46_text_spec hy12) (by simp only [seval, SF, ENMB, hb7, hb8, hb9, hb10, hb13, hb16, hb17]) ?_
  simp only [seval, SE, und_39, sz_31, q14, ag_31, ENMB, hb7, hb8, hb9, hb10, hb13, hb16, hb17]
  refine SpecS.by (l46_text_spec hy15) (by simp only [seval, SF, ENMB, hb7, hb8, hb9, hb10, hb13, hb16, hb17]) ?_
  simp only [seval, SE, ENMB, hb7, hb8, hb9, hb10, hb13, hb16, hb17]
  cases h
  simp only [seval, SF, ENMB, hb7, hb8, hb9, hb10, hb13, hb16, hb17]
  refine .region fun e h => ?_
  simp only [seval, SE, und_39, sz_31, q11, ag_31, ENMB, hb7, hb8, hb9, hb10, hb13, hb16, hb17]
  refine SpecS.by (l46_text_spec hy12) (by simp only [seval, SF, ENMB, hb7, hb8, hb9, hb10, hb13, hb16, hb17]) ?_
  simp only [seval, SE, und_39, sz_31, q14, ag_31, ENMB, hb7, hb8, hb9, hb10, hb13, hb16, hb17]
  refine SpecS.by (l46_text_spec hy15) (by simp only [seval, SF, ENMB, hb7, hb8, hb9, hb10, hb13, hb16, hb17]) ?_
  simp only [seval, SE, ENMB, hb7, hb8, hb9, hb10, hb13, hb16, hb17]
  cases h
  simp only [seval, SF, ENMB, hb7, hb8, hb9, hb10, hb13, hb16, hb17]
  refine .region fun e h => ?_
  simp only [seval, SE, und_39, sz_31, q11, ag_31, ENMB, hb7, hb8, hb9, hb10, hb13, hb16]
  refine SpecS.by (l46_text_spec hy12) (by simp only [seval, SF, ENMB, hb7, hb8, hb9, hb10, hb13, hb16]) ?_
  simp only [seval, SE, und_39, sz_31, q14, ag_31, ENMB, hb7, hb8, hb9, hb10, hb13, hb16]
  refine SpecS.by (l46_text_spec hy15) (by simp only [seval, SF, ENMB, hb7, hb8, hb9, hb10, hb13, hb16]) ?_
  simp only [seval, SE, ENMB, hb7, hb8, hb9, hb10, hb13, hb16]
  cases h
  simp only [seval, SF, ENMB, hb7, hb8, hb9, hb10, hb13, hb16]
  refine .region fun e h => ?_
  simp only [seval, SE, und_39, sz_31, q11, ag_31, ENMB, hb7, hb8, hb9, hb10, hb13]
  refine SpecS.by (l46_text_spec hy12) (by simp only [seval, SF, ENMB, hb7, hb8, hb9, hb10, hb13]) ?_
  simp only [seval, SE, ENMB, hb7, hb8, hb9, hb10, hb13]
  cases h
  simp only [seval, SF, ENMB, hb7, hb8, hb9, hb10, hb13]
  refine .region fun e h => ?_
  simp only [seval, SE, und_39, ENMB, hb7, hb8, hb9, hb10]
  cases h
  simp only [seval, SF, ENMB, hb7, hb8, hb9, hb10]
  refine .region fun e h => ?_
  simp only [seval, SE, ENMB, hb7, hb8, hb9]
  cases h
  simp only [seval, SF, ENMB, hb7, hb8, hb9]
  refine .region fun e h => ?_
  simp only [seval, SE, ENMB, hb7, hb8]
  cases h
  simp only [seval, SF, ENMB, hb7, hb8]
  refine .region fun e h => ?_
  simp only [seval, SE, ENMB, hb7]
  cases h
  simp only [seval, SF, ENMB, hb7]
  intro v111
  refine Mir.toK (.ret fun e h => ?_)
  cases h
  simp only [seval, SF, ENMB, Tryz.results9]

end Go.Proofs.YtejknolljjpodaaGreatDoor
