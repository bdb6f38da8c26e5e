import Derived.Test.YtjamgiobipdfhaaGreatDoorGx
import Derived.Test.YtjamgiobipdfhaaGreatDoorTy
import Derived.Test.YtjamgiobipdfhaaGreatDoorGo
import Derived.Test.YtjamgiobipdfhaaGreatDoorMI
import Derived.Test.YtjamgiobipdfhaaGreatDoorMQ
import Derived.Test.YtjamgiobipdfhaaGreatDoorMB
import Derived.Test.YtjamgiobipdfhaaGreatDoorMT
import Derived.Test.YtjamgiobipdfhaaGreatDoorMX
import Derived.Test.YtjamgiobipdfhaaGreatDoorMK
namespace Go.Proofs.YtjamgiobipdfhaaGreatDoor
open Go.RowKit
open Nat renaming reduceAdd → nA,reduceSub → nS,reduceMul → nM,reduceEqDiff → nE,reduceLeDiff → nL,reduceLT → nT,reduceBEq → nB
open Int renaming reduceLT → iT,reduceToNat → iN,reduceEq → iE
set_option linter.unusedVariables false
set_option linter.unusedSimpArgs false
set_option maxRecDepth 100000
set_option maxHeartbeats 8000000
theorem EMLTableParse : type_of% (@SE) := @SE
theorem FMLTableParse : type_of% (@SF) := @SF
def l45_TableParse (a0 : (List UInt8)) : Option Bool := bindO (bindO (l45_awake ) λ(y1 : Bool)=>if y1 = true then some (decide ((a0.length : Int) > 600)) else some true) λ(v1 : Bool)=>if v1 = true then bindO (l45_awake ) λ(y2 : Bool)=>some y2 else bindO (tb_Parse a0) λ(y3 : TableTable × Int × Int)=>bindO (r45_Parse a0) λ(y4 : R45Table × Int × Int)=>bindO (bindO (l45_same y3.1 y3.2.2 y4.1 y4.2.2) λ(y5 : Bool)=>if y5 = true then some (y3.2.1 != y4.2.1) else some true) λ(v2 : Bool)=>if v2 = true then some false else if (y3.2.2 != 0) = true then some true else bindO (tb_Format y3.1) λ(y6 : (List UInt8) × Int)=>some ((y6.2 == 0) && (y6.1 == a0))
theorem l45_TableParse_spec {a0 : (List UInt8)} {y : Bool} (h : l45_TableParse a0 = some y) : Spec gP 4 [.d (.str a0)] (.d (.bool y)) := by
 refine spec_mir Tryz.func4 rfl (by kernel_rfl) (by kernel_rfl) (λy : Bool=>.d (.bool y)) ?_ h
 unfold l45_TableParse
 simp only [List.replicate,List.length,nS,nA,Tryz.ntmps4,SV]
 refine .sR λe h=>?_
 simp only [seval,EMLTableParse]
 refine mU e (.seqK (.seqK (Mir.joinO (λv1 : Bool=>([.d (.str a0),U,U,U,U,U,U,U,U,U,U,U,U,U,U,U,U,.d (.bool v1)] ++ us 38)) (λv1=>⟨[],[]⟩) (λ_=>rfl) ?_ ?_))) h
 refine .bind λy1 hy1=>.ite (λhb2=>?_) (λhb2=>?_)
 refine .region λe h=>?_
 simp only [seval,EMLTableParse,hb2]
 refine SpecS.by (l45_awake_spec hy1) (rfl) ?_
 simp only [seval,EMLTableParse,und_9,hb2]
 cases h
 simp only [seval,FMLTableParse,hb2]
 refine .region λe h=>?_
 simp only [seval,EMLTableParse,hb2]
 refine SpecS.by (l45_awake_spec hy1) (rfl) ?_
 simp only [seval,EMLTableParse,hb2]
 cases h
 simp only [seval,FMLTableParse,hb2]
 intro v1
 refine Mir.toK (.cond rfl (λhb5=>?_) (λhb5=>?_))
 refine .seqK (.bind λy2 hy6=>.region λe h=>?_)
 simp only [seval,EMLTableParse]
 refine SpecS.by (l45_awake_spec hy6) (rfl) ?_
 simp only [seval,EMLTableParse]
 refine mU e (.ret λe h=>?_) h
 cases h
 simp only [seval,FMLTableParse,Tryz.results4]
 refine .skip (Mir.toK (.seqK (.bind λy3 hy7=>.region λe h=>?_)))
 simp only [seval,EMLTableParse]
 refine SpecS.by (tb_Parse_spec hy7) (by simp only [seval,FMLTableParse]) ?_
 simp only [seval,EMLTableParse,zero_34,sz_34]
 refine mU e (.seqK (.bind λy4 hy8=>.region λe h=>?_)) h
 simp only [seval,EMLTableParse]
 refine SpecS.by (r45_Parse_spec hy8) (by simp only [seval,FMLTableParse]) ?_
 simp only [seval,EMLTableParse,zero_27,sz_27]
 refine mU e (.seqK (.seqK (Mir.joinO (λv2 : Bool=>([.d (.str a0),U,U,.ptr 0 0,U,.d (.int .i64 y3.2.2),U,U,U,U,U,U,U,U,U,U,U,U,U,U,U,U,U,U,U,U,U,U,U,U,U,U,U,U,U,U,U,U,U,U,U,.d (.bool v2)] ++ us 14)) (λv2=>⟨[(w6 y3.1.Work [.d (.list (List.map encTableLength y3.1.Lengths))]),(w6 y4.1.Work [.d (.list (List.map encR45Length y4.1.Lengths))])],[]⟩) (λ_=>rfl) ?_ ?_))) h
 refine .bind λy5 hy9=>.ite (λhb10=>?_) (λhb10=>?_)
 refine .region λe h=>?_
 simp only [seval,EMLTableParse,ag_34,sz_34,ag_27,sz_27,hb10]
 refine SpecS.by (l45_same_spec hy9) (by simp only [seval,FMLTableParse,hb10]) ?_
 simp only [seval,EMLTableParse,hb10]
 cases h
 simp only [seval,FMLTableParse,hb10]
 refine .region λe h=>?_
 simp only [seval,EMLTableParse,ag_34,sz_34,ag_27,sz_27,hb10]
 refine SpecS.by (l45_same_spec hy9) (by simp only [seval,FMLTableParse,hb10]) ?_
 simp only [seval,EMLTableParse,hb10]
 cases h
 simp only [seval,FMLTableParse,hb10]
 intro v2
 refine Mir.toK (.cond rfl (λhb12=>?_) (λhb12=>?_))
 refine .sR λe h=>?_
 simp only [seval,EMLTableParse]
 refine mU e (.ret λe h=>?_) h
 cases h
 simp only [seval,FMLTableParse,Tryz.results4]
 refine .skip (Mir.toK (.seqK (.sR λe h=>?_)))
 simp only [seval,EMLTableParse]
 refine mU e (.cond rfl (λhb14=>?_) (λhb14=>?_)) h
 refine .sR λe h=>?_
 simp only [seval,EMLTableParse]
 refine mU e (.ret λe h=>?_) h
 cases h
 simp only [seval,FMLTableParse,Tryz.results4]
 refine .skip (Mir.toK (.seqK (.bind λy6 hy15=>.region λe h=>?_)))
 simp only [seval,EMLTableParse,ag_34,sz_34]
 refine SpecS.by (tb_Format_spec hy15) (by simp only [seval,FMLTableParse]) ?_
 simp only [seval,EMLTableParse]
 refine mU e (.seqK (.joinV ([U,U,.d (.bool ((y6.2 == 0) && (y6.1 == a0)))] ++ us 53) ⟨[(w6 y3.1.Work [.d (.list (List.map encTableLength y3.1.Lengths))]),(w6 y4.1.Work [.d (.list (List.map encR45Length y4.1.Lengths))])],[]⟩ rfl ?_ ?_)) h
 refine SWs.region ?_
 rcases Bool.eq_false_or_eq_true (y6.2 == 0) with hb16 | hb16
 simp only [seval,EMLTableParse,SL,PB,hb16]
 simp only [seval,EMLTableParse,SL,PB,hb16]
 refine Mir.toK (.ret λe h=>?_)
 cases h
 simp only [seval,FMLTableParse,Tryz.results4]
theorem opn_9 : Opn Tryz.prog 9 eStr inStr := Opn.str Tryz.underlying9
end Go.Proofs.YtjamgiobipdfhaaGreatDoor
