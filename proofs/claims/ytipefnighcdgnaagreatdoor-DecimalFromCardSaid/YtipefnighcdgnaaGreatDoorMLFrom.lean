import Derived.Test.YtipefnighcdgnaaGreatDoorGx
import Derived.Test.YtipefnighcdgnaaGreatDoorTy
import Derived.Test.YtipefnighcdgnaaGreatDoorGo
import Derived.Test.YtipefnighcdgnaaGreatDoorMI
import Derived.Test.YtipefnighcdgnaaGreatDoorMQ
import Derived.Test.YtipefnighcdgnaaGreatDoorMB
import Derived.Test.YtipefnighcdgnaaGreatDoorMT
import Derived.Test.YtipefnighcdgnaaGreatDoorMX
namespace Go.Proofs.YtipefnighcdgnaaGreatDoor
open Go.RowKit
open Nat renaming reduceAdd → nA, reduceSub → nS, reduceMul → nM, reduceEqDiff → nE, reduceLeDiff → nL, reduceLT → nT, reduceBEq → nB
open Int renaming reduceLT → iT, reduceToNat → iN, reduceEq → iE
set_option linter.unusedVariables false
set_option linter.unusedSimpArgs false
set_option maxRecDepth 100000
set_option maxHeartbeats 8000000
theorem EMLFrom : type_of% (@SE) := @SE
theorem FMLFrom : type_of% (@SF) := @SF
def l06_DecimalFrom (a0 : (List UInt8)) : Option Bool := bindO (bindO (l06_awake ) fun (y1 : Bool) => if y1 = true then some (decide ((a0.length : Int) > 200)) else some true) fun (v1 : Bool) => if v1 = true then bindO (l06_awake ) fun (y2 : Bool) => some y2 else bindO (dc_FromMillimetres a0) fun (y3 : Int × Int) => bindO (r06_FromMillimetres a0) fun (y4 : Int × Int) => some ((y3.1 == y4.1) && (y3.2 == y4.2))
theorem l06_DecimalFrom_spec {a0 : (List UInt8)} {y : Bool} (h : l06_DecimalFrom a0 = some y) : Spec gP 9 [.d (.str a0)] (.d (.bool y)) := by
 refine spec_mir Tryz.func9 rfl (by kernel_rfl) (by kernel_rfl) (fun y : Bool => .d (.bool y)) ?_ h
 unfold l06_DecimalFrom
 simp only [List.replicate, List.length, nS, nA, Tryz.ntmps9, SV]
 refine .sR fun e h=>?_
 simp only [seval,EMLFrom]
 refine mU e (.seqK (.seqK (Mir.joinO (fun v1 : Bool=>([.d (.str a0),U,U,U,U,U,U,U,U,U,U,U,U,.d (.bool v1)] ++ us 19)) (fun v1=>⟨[],[]⟩) (fun _=>rfl) ?_ ?_))) h
 refine .bind fun y1 hy1=>.ite (fun hb2=>?_) (fun hb2=>?_)
 refine .region fun e h=>?_
 simp only [seval,EMLFrom,hb2]
 refine SpecS.by (l06_awake_spec hy1) (rfl) ?_
 simp only [seval,EMLFrom,und_9,hb2]
 cases h
 simp only [seval,FMLFrom,hb2]
 refine .region fun e h=>?_
 simp only [seval,EMLFrom,hb2]
 refine SpecS.by (l06_awake_spec hy1) (rfl) ?_
 simp only [seval,EMLFrom,hb2]
 cases h
 simp only [seval,FMLFrom,hb2]
 intro v1
 refine Mir.toK (.cond rfl (fun hb5=>?_) (fun hb5=>?_))
 refine .seqK (.bind fun y2 hy6=>.region fun e h=>?_)
 simp only [seval,EMLFrom]
 refine SpecS.by (l06_awake_spec hy6) (rfl) ?_
 simp only [seval,EMLFrom]
 refine mU e (.ret fun e h=>?_) h
 cases h
 simp only [seval,FMLFrom,Tryz.results9]
 refine .skip (Mir.toK (.seqK (.bind fun y3 hy7=>.region fun e h=>?_)))
 simp only [seval,EMLFrom]
 refine SpecS.by (dc_FromMillimetres_spec hy7) (by simp only [seval,FMLFrom]) ?_
 simp only [seval,EMLFrom]
 refine mU e (.seqK (.bind fun y4 hy8=>.region fun e h=>?_)) h
 simp only [seval,EMLFrom]
 refine SpecS.by (r06_FromMillimetres_spec hy8) (by simp only [seval,FMLFrom]) ?_
 simp only [seval,EMLFrom]
 refine mU e (.seqK (.joinV ([U,U,.d (.bool ((y3.1 == y4.1) && (y3.2 == y4.2)))] ++ us 30) ⟨[],[]⟩ rfl ?_ ?_)) h
 refine SWs.region ?_
 rcases Bool.eq_false_or_eq_true (y3.1 == y4.1) with hb9 | hb9
 simp only [seval,EMLFrom,SL,PB,hb9]
 simp only [seval,EMLFrom,SL,PB,hb9]
 refine Mir.toK (.ret fun e h=>?_)
 cases h
 simp only [seval,FMLFrom,Tryz.results9]
theorem opn_9 : Opn Tryz.prog 9 eStr inStr := Opn.str Tryz.underlying9
end Go.Proofs.YtipefnighcdgnaaGreatDoor
