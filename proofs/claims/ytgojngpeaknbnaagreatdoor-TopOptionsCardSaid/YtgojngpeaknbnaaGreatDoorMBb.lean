import Derived.Test.YtgojngpeaknbnaaGreatDoorMBa
open List renaming map → zA,replicate → zB,length → zE
open Int renaming toNat_natCast → zD,tdiv → zG,reduceToNat → zI,reduceLT → zJ,tmod → zL
open Bool renaming eq_false_or_eq_true → zF
open Nat renaming le_refl → zH,sub_zero → zK
open Go.IntKind renaming i64 → zM
namespace Go.Proofs.YtgojngpeaknbnaaGreatDoor
open Go.RowKit
open Nat renaming reduceAdd → nA,reduceSub → nS,reduceMul → nM,reduceEqDiff → nE,reduceLeDiff → nL,reduceLT → nT,reduceBEq → nB
open Int renaming reduceLT → iT,reduceToNat → iN,reduceEq → iE
set_option linter.unusedVariables false
set_option linter.unusedSimpArgs false
set_option maxRecDepth 100000
set_option maxHeartbeats 8000000
def bk_Value(a0:(List UInt8)):Option (Int×Int):=bindO (cf a0 [45]) λ(y1:(List UInt8)×Bool)=>bindO (cU y1.1 [46]) λ(y2:(List UInt8)×(List UInt8)×Bool)=>bindO (bindO (dG y2.1) λ(y3:Bool)=>if y3=true then if (decide ((y2.1.length:Int)>1))=true then bindO (gt y2.1 0) λ(c1:UInt8)=>if ((c1.toNat:Int)==48)=true then some true else if y2.2.2=true then bindO (dG y2.2.1) λ(y4:Bool)=>if y4=true then if (decide ((y2.2.1.length:Int)>3))=true then some true else bindO (gt y2.2.1 (zM.wrap ((y2.2.1.length:Int)-1))) λ(c2:UInt8)=>if ((c2.toNat:Int)==48)=true then some true else if y1.2=true then some (y1.1==[48])else some false else some true else if y1.2=true then some (y1.1==[48])else some false else if y2.2.2=true then bindO (dG y2.2.1) λ(y5:Bool)=>if y5=true then if (decide ((y2.2.1.length:Int)>3))=true then some true else bindO (gt y2.2.1 (zM.wrap ((y2.2.1.length:Int)-1))) λ(c3:UInt8)=>if ((c3.toNat:Int)==48)=true then some true else if y1.2=true then some (y1.1==[48])else some false else some true else if y1.2=true then some (y1.1==[48])else some false else some true) λ(v1:Bool)=>if v1=true then some (0,2)else if (decide ((y2.1.length:Int)>10))=true then some (0,11)else az (okStr y2.1 y2.2.1) ( bindO (cutF [48,48,48] (y2.2.1.length:Int)) λ(s1:(List UInt8))=>az (okStr (y2.1++y2.2.1) s1) ( bindO (dJ ((y2.1++y2.2.1)++s1) 10 64) λ(y6:Int)=>if (decide (y6>1000000000000))=true then some (0,11)else bindO (if y1.2=true then some (zM.wrap (0-y6))else some y6) λ(v2:Int)=>some (v2,0)))
theorem bk_Value_spec{a0:(List UInt8)}{y:Int×Int}(h:bk_Value a0=some y):Spec gP 151 [.d (.str a0)] (.tuple [.d (.int .i64 y.1),.d (.int .i64 y.2)]):=by
 refine auB Tryz.func151 (λy:Int×Int=>.tuple [.d (.int .i64 y.1),.d (.int .i64 y.2)]) ?_ h
 unfold bk_Value
 refine .sB ?_
 refine .seqK (.bind λy1 hy1=>.region λe h=>WB ?_)
 refine .byB (iW hy1) (mB ?_ h)
 refine .seqK (.bind λy2 hy2=>.region λe h=>WB ?_)
 refine .byB (iK hy2) (mB ?_ h)
 refine .seqK (.seqK (Mir.joinO (λv1:Bool=>([U,U,U,U,U,.d (.bool y1.2),.d (.str y2.1),.d (.str y2.2.1),U,U,U,U,U,U,U,U,U,U,U,U,U,U,U,U,U,U,U,U,U,U,U,U,U,U,U,U,U,U,U,U,U,U,U,U,U,U,U,U,U,U,U,U,U,U,U,U,U,U,U,U,U,U,.d (.bool v1)]++us 20)) (λv1=>⟨[],[]⟩) (λ_=>rfl) ?_ ?_))
 refine .bind λy3 hy3=>.ite (λhb4=>?_) (λhb4=>?_)
 refine .ite (λhb5=>?_) (λhb5=>?_)
 refine .bind λc1 q6=>?_
 replace q6:=gt_ok q6
 simp only[zI,zJ,zK,dp0]at q6
 refine .ite (λhb7=>?_) (λhb7=>?_)
 refine .region λe h=>?_
 simp only[seval,EMB,hb4,hb5,hb7]
 refine SpecS.by (aK hy3) (by simp only[seval,FMB,hb4,hb5,hb7]) ?_
 simp only[seval,EMB,q6,hb4,hb5,hb7]
 cases h
 simp only[seval,FMB,hb4,hb5,hb7]
 refine .ite (λhb8=>?_) (λhb8=>?_)
 refine .bind λy4 hy9=>.ite (λhb10=>?_) (λhb10=>?_)
 refine .ite (λhb11=>?_) (λhb11=>?_)
 refine .region λe h=>?_
 simp only[seval,EMB,hb4,hb5,hb7,hb8,hb10,hb11]
 refine SpecS.by (aK hy3) (by simp only[seval,FMB,hb4,hb5,hb7,hb8,hb10,hb11]) ?_
 simp only[seval,EMB,q6,hb4,hb5,hb7,hb8,hb10,hb11]
 refine SpecS.by (aK hy9) (by simp only[seval,FMB,hb4,hb5,hb7,hb8,hb10,hb11]) ?_
 simp only[seval,EMB,hb4,hb5,hb7,hb8,hb10,hb11]
 cases h
 simp only[seval,FMB,hb4,hb5,hb7,hb8,hb10,hb11]
 refine .bind λc2 q12=>?_
 replace q12:=gt_ok q12
 refine .ite (λhb13=>?_) (λhb13=>?_)
 refine .region λe h=>?_
 simp only[seval,EMB,hb4,hb5,hb7,hb8,hb10,hb11,hb13]
 refine SpecS.by (aK hy3) (by simp only[seval,FMB,hb4,hb5,hb7,hb8,hb10,hb11,hb13]) ?_
 simp only[seval,EMB,q6,hb4,hb5,hb7,hb8,hb10,hb11,hb13]
 refine SpecS.by (aK hy9) (by simp only[seval,FMB,hb4,hb5,hb7,hb8,hb10,hb11,hb13]) ?_
 simp only[seval,EMB,q12,hb4,hb5,hb7,hb8,hb10,hb11,hb13]
 cases h
 simp only[seval,FMB,hb4,hb5,hb7,hb8,hb10,hb11,hb13]
 refine .ite (λhb14=>?_) (λhb14=>?_)
 refine .region λe h=>?_
 simp only[seval,EMB,hb4,hb5,hb7,hb8,hb10,hb11,hb13,hb14]
 refine SpecS.by (aK hy3) (by simp only[seval,FMB,hb4,hb5,hb7,hb8,hb10,hb11,hb13,hb14]) ?_
 simp only[seval,EMB,q6,hb4,hb5,hb7,hb8,hb10,hb11,hb13,hb14]
 refine SpecS.by (aK hy9) (by simp only[seval,FMB,hb4,hb5,hb7,hb8,hb10,hb11,hb13,hb14]) ?_
 simp only[seval,EMB,q12,hb4,hb5,hb7,hb8,hb10,hb11,hb13,hb14]
 cases h
 simp only[seval,FMB,hb4,hb5,hb7,hb8,hb10,hb11,hb13,hb14]
 refine .region λe h=>?_
 simp only[seval,EMB,hb4,hb5,hb7,hb8,hb10,hb11,hb13,hb14]
 refine SpecS.by (aK hy3) (by simp only[seval,FMB,hb4,hb5,hb7,hb8,hb10,hb11,hb13,hb14]) ?_
 simp only[seval,EMB,q6,hb4,hb5,hb7,hb8,hb10,hb11,hb13,hb14]
 refine SpecS.by (aK hy9) (by simp only[seval,FMB,hb4,hb5,hb7,hb8,hb10,hb11,hb13,hb14]) ?_
 simp only[seval,EMB,q12,hb4,hb5,hb7,hb8,hb10,hb11,hb13,hb14]
 cases h
 simp only[seval,FMB,hb4,hb5,hb7,hb8,hb10,hb11,hb13,hb14]
 refine .region λe h=>?_
 simp only[seval,EMB,hb4,hb5,hb7,hb8,hb10]
 refine SpecS.by (aK hy3) (by simp only[seval,FMB,hb4,hb5,hb7,hb8,hb10]) ?_
 simp only[seval,EMB,q6,hb4,hb5,hb7,hb8,hb10]
 refine SpecS.by (aK hy9) (by simp only[seval,FMB,hb4,hb5,hb7,hb8,hb10]) ?_
 simp only[seval,EMB,hb4,hb5,hb7,hb8,hb10]
 cases h
 simp only[seval,FMB,hb4,hb5,hb7,hb8,hb10]
 refine .ite (λhb15=>?_) (λhb15=>?_)
 refine .region λe h=>?_
 simp only[seval,EMB,hb4,hb5,hb7,hb8,hb15]
 refine SpecS.by (aK hy3) (by simp only[seval,FMB,hb4,hb5,hb7,hb8,hb15]) ?_
 simp only[seval,EMB,q6,hb4,hb5,hb7,hb8,hb15]
 cases h
 simp only[seval,FMB,hb4,hb5,hb7,hb8,hb15]
 refine .region λe h=>?_
 simp only[seval,EMB,hb4,hb5,hb7,hb8,hb15]
 refine SpecS.by (aK hy3) (by simp only[seval,FMB,hb4,hb5,hb7,hb8,hb15]) ?_
 simp only[seval,EMB,q6,hb4,hb5,hb7,hb8,hb15]
 cases h
 simp only[seval,FMB,hb4,hb5,hb7,hb8,hb15]
 refine .ite (λhb16=>?_) (λhb16=>?_)
 refine .bind λy5 hy17=>.ite (λhb18=>?_) (λhb18=>?_)
 refine .ite (λhb19=>?_) (λhb19=>?_)
 refine .region λe h=>?_
 simp only[seval,EMB,hb4,hb5,hb16,hb18,hb19]
 refine SpecS.by (aK hy3) (by simp only[seval,FMB,hb4,hb5,hb16,hb18,hb19]) ?_
 simp only[seval,EMB,hb4,hb5,hb16,hb18,hb19]
 refine SpecS.by (aK hy17) (by simp only[seval,FMB,hb4,hb5,hb16,hb18,hb19]) ?_
 simp only[seval,EMB,hb4,hb5,hb16,hb18,hb19]
 cases h
 simp only[seval,FMB,hb4,hb5,hb16,hb18,hb19]
 refine .bind λc3 q20=>?_
 replace q20:=gt_ok q20
 refine .ite (λhb21=>?_) (λhb21=>?_)
 refine .region λe h=>?_
 simp only[seval,EMB,hb4,hb5,hb16,hb18,hb19,hb21]
 refine SpecS.by (aK hy3) (by simp only[seval,FMB,hb4,hb5,hb16,hb18,hb19,hb21]) ?_
 simp only[seval,EMB,hb4,hb5,hb16,hb18,hb19,hb21]
 refine SpecS.by (aK hy17) (by simp only[seval,FMB,hb4,hb5,hb16,hb18,hb19,hb21]) ?_
 simp only[seval,EMB,q20,hb4,hb5,hb16,hb18,hb19,hb21]
 cases h
 simp only[seval,FMB,hb4,hb5,hb16,hb18,hb19,hb21]
 refine .ite (λhb22=>?_) (λhb22=>?_)
 refine .region λe h=>?_
 simp only[seval,EMB,hb4,hb5,hb16,hb18,hb19,hb21,hb22]
 refine SpecS.by (aK hy3) (by simp only[seval,FMB,hb4,hb5,hb16,hb18,hb19,hb21,hb22]) ?_
 simp only[seval,EMB,hb4,hb5,hb16,hb18,hb19,hb21,hb22]
 refine SpecS.by (aK hy17) (by simp only[seval,FMB,hb4,hb5,hb16,hb18,hb19,hb21,hb22]) ?_
 simp only[seval,EMB,q20,hb4,hb5,hb16,hb18,hb19,hb21,hb22]
 cases h
 simp only[seval,FMB,hb4,hb5,hb16,hb18,hb19,hb21,hb22]
 refine .region λe h=>?_
 simp only[seval,EMB,hb4,hb5,hb16,hb18,hb19,hb21,hb22]
 refine SpecS.by (aK hy3) (by simp only[seval,FMB,hb4,hb5,hb16,hb18,hb19,hb21,hb22]) ?_
 simp only[seval,EMB,hb4,hb5,hb16,hb18,hb19,hb21,hb22]
 refine SpecS.by (aK hy17) (by simp only[seval,FMB,hb4,hb5,hb16,hb18,hb19,hb21,hb22]) ?_
 simp only[seval,EMB,q20,hb4,hb5,hb16,hb18,hb19,hb21,hb22]
 cases h
 simp only[seval,FMB,hb4,hb5,hb16,hb18,hb19,hb21,hb22]
 refine .region λe h=>?_
 simp only[seval,EMB,hb4,hb5,hb16,hb18]
 refine SpecS.by (aK hy3) (by simp only[seval,FMB,hb4,hb5,hb16,hb18]) ?_
 simp only[seval,EMB,hb4,hb5,hb16,hb18]
 refine SpecS.by (aK hy17) (by simp only[seval,FMB,hb4,hb5,hb16,hb18]) ?_
 simp only[seval,EMB,hb4,hb5,hb16,hb18]
 cases h
 simp only[seval,FMB,hb4,hb5,hb16,hb18]
 refine .ite (λhb23=>?_) (λhb23=>?_)
 refine .region λe h=>?_
 simp only[seval,EMB,hb4,hb5,hb16,hb23]
 refine SpecS.by (aK hy3) (by simp only[seval,FMB,hb4,hb5,hb16,hb23]) ?_
 simp only[seval,EMB,hb4,hb5,hb16,hb23]
 cases h
 simp only[seval,FMB,hb4,hb5,hb16,hb23]
 refine .region λe h=>?_
 simp only[seval,EMB,hb4,hb5,hb16,hb23]
 refine SpecS.by (aK hy3) (by simp only[seval,FMB,hb4,hb5,hb16,hb23]) ?_
 simp only[seval,EMB,hb4,hb5,hb16,hb23]
 cases h
 simp only[seval,FMB,hb4,hb5,hb16,hb23]
 refine .region λe h=>?_
 simp only[seval,EMB,hb4]
 refine SpecS.by (aK hy3) (by simp only[seval,FMB,hb4]) ?_
 simp only[seval,EMB,hb4]
 cases h
 simp only[seval,FMB,hb4]
 intro v1
 refine Mir.toK (.cond rfl (λhb25=>?_) (λhb25=>?_))
 refine .sB ?_
 refine .ret QB
 refine .skip (Mir.toK (.seqK (.sB ?_)))
 refine .cond rfl (λhb27=>?_) (λhb27=>?_)
 refine .sB ?_
 refine .ret QB
 refine .skip (Mir.toK (.seqK (.guard λq28=>?_)))
 replace q28:=fC q28
 refine .bind λs1 q29=>?_
 replace q29:=kF q29
 simp only[xLC,xLN,Nat.zero_add,nA]at q29
 refine .guard λq30=>?_
 replace q30:=fC q30
 refine .bind λy6 hy31=>.region λe h=>?_
 simp only[seval,EMB,q28,q29,zH,and_true,true_and,dm,tm,q30]
 refine .byB (jd hy31) (mB ?_ h)
 refine .seqK (.sB ?_)
 refine .cond rfl (λhb33=>?_) (λhb33=>?_)
 refine .sB ?_
 refine .ret QB
 refine .skip (Mir.toK (.seqK (.sB ?_)))
 refine Mir.joinO (λv2:Int=>([U,U,U,U,U,U,U,U,U,.d (.int .i64 v2)]++us 73)) (λv2=>⟨[],[]⟩) (λ_=>rfl) ?_ ?_
 refine .cond rfl (λ_=>.rB) (λ_=>.skip QB)
 intro v2
 refine Mir.toK (.sB ?_)
 refine .ret QB
def bk_Parse(a0:(List UInt8)):Option (aa×Int×Int):=if (decide ((a0.length:Int)>65536))=true then some (aa.mk false [] [],0,3)else bindO (bindO (bindO (bindO (some ()) λ(v1:Unit)=>if (0==(a0.length:Int))=true then some true else bindO (gt a0 0) λ(c1:UInt8)=>some ((c1.toNat:Int) != 47)) λ(v2:Bool)=>if v2=true then some (false,0)else some (true,1)) λ(v3:Bool×Int)=>loopX (λ(v4:Bool×bs)=>bindO (some ()) λ(v5:Unit)=>if (v4.2.at_==(v4.2.s.length:Int))=true then if v4.1=true then some (.ret (2,v4.2))else some (.ret (0,v4.2))else bindO (gt v4.2.s v4.2.at_) λ(c2:UInt8)=>if ((c2.toNat:Int)==40)=true then bindO (bindO (loopX (λ(v6:Int)=>bindO (bindO (some ()) λ(v7:Unit)=>if (v6==(v4.2.s.length:Int))=true then some false else bindO (gt v4.2.s v6) λ(c3:UInt8)=>bindO (cZ (c3.toNat:Int)) λ(y1:Bool)=>some y1) λ(v8:Bool)=>if v8=true then some (.go (zM.wrap (v6+1)))else some (.ret v6)) fuel (zM.wrap (v4.2.at_+1))) λ(v9:Int)=>bindO (cutL v4.2.s (zM.wrap (v4.2.at_+1)) v9) λ(s1:(List UInt8))=>if (decide ((s1.length:Int)>100))=true then some (3,v4.2)else bindO (if (s1==[])=true then some (true,v9)else bindO (bindO (bindO (some ()) λ(v10:Unit)=>if (v9==(v4.2.s.length:Int))=true then some true else bindO (gt v4.2.s v9) λ(c4:UInt8)=>some ((c4.toNat:Int) != 41)) λ(v11:Bool)=>if v11=true then some (false,v9)else some (true,zM.wrap (v9+1))) λ(v12:Bool×Int)=>some (!v12.1,v12.2)) λ(v13:Bool×Int)=>if v13.1=true then some (2,bs.mk v4.2.s v13.2 v4.2.b)else bindO (some ()) λ(v14:Unit)=>if (!(v13.2==(v4.2.s.length:Int)))=true then some (2,bs.mk v4.2.s v13.2 (aa.mk v4.2.b.Skip v4.2.b.Words s1))else some (0,bs.mk v4.2.s v13.2 (aa.mk v4.2.b.Skip v4.2.b.Words s1))) λ(v15:Int×bs)=>some (.ret (v15.1,v15.2))else bindO (bindO (gt v4.2.s v4.2.at_) λ(c5:UInt8)=>if ((decide ((c5.toNat:Int)<65))||(decide ((c5.toNat:Int)>90)))=true then some (2,v4.2)else if ((v4.2.b.Words.length:Int)==16)=true then some (3,v4.2)else bindO (loopX (λ(v16:Int)=>bindO (if (decide (v16<(v4.2.s.length:Int)))=true then bindO (gt v4.2.s v16) λ(c6:UInt8)=>if (decide ((c6.toNat:Int)≥48))=true then if (decide ((c6.toNat:Int)≤57))=true then some true else if ((c6.toNat:Int)==45)=true then some true else some ((c6.toNat:Int)==46)else if ((c6.toNat:Int)==45)=true then some true else some ((c6.toNat:Int)==46)else some false) λ(v17:Bool)=>if v17=true then some (.go (zM.wrap (v16+1)))else some (.ret v16)) fuel (zM.wrap (v4.2.at_+1))) λ(v18:Int)=>bindO (cutL v4.2.s (zM.wrap (v4.2.at_+1)) v18) λ(s2:(List UInt8))=>bindO (bk_Value s2) λ(y2:Int×Int)=>if (y2.2 != 0)=true then some (y2.2,v4.2)else az (okLen (v4.2.b.Words.length+1)) ( some (0,bs.mk v4.2.s v18 (aa.mk v4.2.b.Skip (v4.2.b.Words++[ap.mk (c5.toNat:Int) y2.1]) v4.2.b.Comment)))) λ(v19:Int×bs)=>if (v19.1 != 0)=true then some (.ret (v19.1,v19.2))else bindO (some ()) λ(v20:Unit)=>if (v19.2.at_==(v19.2.s.length:Int))=true then some (.ret (0,v19.2))else bindO (bindO (bindO (some ()) λ(v21:Unit)=>if (v19.2.at_==(v19.2.s.length:Int))=true then some true else bindO (gt v19.2.s v19.2.at_) λ(c7:UInt8)=>some ((c7.toNat:Int) != 32)) λ(v22:Bool)=>if v22=true then some (false,v19.2.at_)else some (true,zM.wrap (v19.2.at_+1))) λ(v23:Bool×Int)=>if (!v23.1)=true then some (.ret (2,bs.mk v19.2.s v23.2 v19.2.b))else some (.go (true,bs.mk v19.2.s v23.2 v19.2.b))) fuel (false,bs.mk a0 v3.2 (aa.mk v3.1 [] []))) λ(v24:Int×bs)=>if (v24.1 != 0)=true then some (aa.mk false [] [],v24.2.at_,v24.1)else some (v24.2.b,0,0)
theorem bk_Parse_spec{a0:(List UInt8)}{y:aa×Int×Int}(h:bk_Parse a0=some y):Spec gP 41 [.d (.str a0)] (.tuple [.agg [.d (.bool y.1.Skip),.d (.list (zA ao y.1.Words)),.d (.str y.1.Comment)],.d (.int .i64 y.2.1),.d (.int .i64 y.2.2)]):=by
 refine auB Tryz.func41 (λy:aa×Int×Int=>.tuple [.agg [.d (.bool y.1.Skip),.d (.list (zA ao y.1.Words)),.d (.str y.1.Comment)],.d (.int .i64 y.2.1),.d (.int .i64 y.2.2)]) ?_ h
 unfold bk_Parse
 refine .sB ?_
 refine .seqK (.sB ?_)
 refine .cond rfl (λhb2=>?_) (λhb2=>?_)
 refine .sB ?_
 refine .ret QB
 refine .skip (Mir.toK (.sB ?_))
 refine .seqK (.seqK (.bind λv24 h1=>.region λe h=>WB ?_))
 refine SpecS.inl Tryz.func90 rfl (by kernel_rfl) (by kernel_rfl) (λv24:Int×bs=>.d (.int .i64 v24.1)) (λv24=>⟨[[.d (.bool false),.nil,.d (.str [])],[.d (.str v24.2.s),.d (.int .i64 v24.2.at_),.d (.bool v24.2.b.Skip),.own 0 (zA ao v24.2.b.Words),.d (.str v24.2.b.Comment)]],[(127,v24.2.b.Words.length)]⟩) h1 rfl ?_ ?_
 simp only[zB,zE,nS,nA,Tryz.ntmps90,SV]
 refine .gh [.cell 1 3 127] rfl (.sB ?_)
 refine .seqK (.bind λv3 h2=>.region λe h=>WB ?_)
 refine SpecS.inl Tryz.func123 rfl (by kernel_rfl) (by kernel_rfl) (λv3:Bool×Int=>.d (.bool v3.1)) (λv3=>⟨[[.d (.bool false),.nil,.d (.str [])],[.d (.str a0),.d (.int .i64 v3.2),.d (.bool false),.own 0 (zA ao []),.d (.str [])]],[(127,0)]⟩) h2 rfl ?_ ?_
 simp only[zB,zE,nS,nA,Tryz.ntmps123,SV]
 refine .sB ?_
 refine .seqK (.seqK (Mir.joinO (λv2:Bool=>([.ptr 1 0,U,U,U,U,U,U,U,U,U,U,U,U,U,U,U,U,U,U,.d (.bool v2)]++us 7)) (λv2=>⟨[[.d (.bool false),.nil,.d (.str [])],[.d (.str a0),.d (.int .i64 0),.d (.bool false),.own 0 (zA ao []),.d (.str [])]],[(127,0)]⟩) (λ_=>rfl) ?_ ?_))
 refine .bind λv1 h3=>.ite (λh4=>?_) (λh4=>?_)
 refine Mir.regionA 1 [] ([.ptr 1 0,.d (.int .u8 47),U,U,.d (.bool false),.ptr 1 0,.d (.bool (0==(a0.length:Int))),.d (.bool (0==(a0.length:Int))),.skip,.skip,.skip,.skip,.skip,.skip,.skip,.skip,.skip,.skip,.skip,.d (.bool true)]++us 7) ⟨[[.d (.bool false),.nil,.d (.str [])],[.d (.str a0),.d (.int .i64 0),.d (.bool false),.own 0 (zA ao []),.d (.str [])]],[(127,0)]⟩ (by kernel_rfl) (λe h=>?_) (λe h=>?_)
 simp only[seval,EMB,al,w_eq,SB,h4]
 refine regA.one (j:=1) (by kernel_rfl) rfl (regW.of ?_)
 simp only[seval,EMB,al,w_eq,h4]
 refine SpecS.inl Tryz.func124 rfl (by kernel_rfl) (by kernel_rfl) (λv1:Unit=>.d (.bool (0==(a0.length:Int)))) (λv1=>⟨[[.d (.bool false),.nil,.d (.str [])],[.d (.str a0),.d (.int .i64 0),.d (.bool false),.own 0 (zA ao []),.d (.str [])]],[(127,0)]⟩) h3 rfl ?_ ?_
 simp only[zB,zE,nS,nA,Tryz.ntmps124,SV]
 refine .sB ?_
 refine .seqK (.regionD [] (by kernel_rfl) λe h=>?_)
 simp only[seval,EMB,SB]
 refine mU e (.ret QB) h
 simp only[seval,EMB,al,w_eq,h4]
 refine regA.draw 2 [] (by kernel_rfl) ?_
 simp only[seval,EMB,al,w_eq,SB,h4]
 exact⟨rfl,rfl⟩
 cases h
 simp only[seval,FMB,h4]
 refine .bind λc1 q1=>?_
 replace q1:=gt_ok q1
 simp only[zI,zJ,zK,dp0]at q1
 refine Mir.regionA 1 [] ([.ptr 1 0,.d (.int .u8 47),U,U,.d (.bool false),.ptr 1 0,.d (.bool (0==(a0.length:Int))),.d (.bool (0==(a0.length:Int))),.ptr 1 0,.ptr 1 0,.ptr 1 0,.d (.str a0),.ptr 1 0,.ptr 1 0,.ptr 1 1,.d (.int .i64 0),.d (.int .u8 (c1.toNat:Int)),.d (.int .u8 47),.d (.bool ((c1.toNat:Int) != 47)),.d (.bool ((c1.toNat:Int) != 47))]++us 7) ⟨[[.d (.bool false),.nil,.d (.str [])],[.d (.str a0),.d (.int .i64 0),.d (.bool false),.own 0 (zA ao []),.d (.str [])]],[(127,0)]⟩ (by kernel_rfl) (λe h=>?_) (λe h=>?_)
 simp only[seval,EMB,al,w_eq,SB,h4]
 refine regA.one (j:=1) (by kernel_rfl) rfl (regW.of ?_)
 simp only[seval,EMB,al,w_eq,h4]
 refine SpecS.inl Tryz.func124 rfl (by kernel_rfl) (by kernel_rfl) (λv1:Unit=>.d (.bool (0==(a0.length:Int)))) (λv1=>⟨[[.d (.bool false),.nil,.d (.str [])],[.d (.str a0),.d (.int .i64 0),.d (.bool false),.own 0 (zA ao []),.d (.str [])]],[(127,0)]⟩) h3 rfl ?_ ?_
 simp only[zB,zE,nS,nA,Tryz.ntmps124,SV]
 refine .sB ?_
 refine .seqK (.regionD [] (by kernel_rfl) λe h=>?_)
 simp only[seval,EMB,SB]
 refine mU e (.ret QB) h
 simp only[seval,EMB,al,w_eq,h4]
 refine regA.draw 2 [] (by kernel_rfl) ?_
 simp only[seval,EMB,al,w_eq,SB,q1,h4]
 exact⟨rfl,rfl⟩
 cases h
 simp only[seval,FMB,h4]
 intro v2
 refine Mir.toK (.cond rfl (λh5=>?_) (λh5=>?_))
 refine .sB ?_
 refine .ret QB
 refine .skip (Mir.toK (.sR λe h=>?_))
 simp only[seval,EMB,(nr rfl:zM.wrap 1=1)]
 refine mU e (.sB ?_) h
 refine .ret QB
 simp only[seval,EMB]
 refine mU e (.sB ?_) h
 refine .block (Mir.loop (λv4:Bool×bs=>([.ptr 1 0,U,U,.d (.bool v4.1)]++us 34)) (λv4=>⟨[[.d (.bool false),.nil,.d (.str [])],[.d (.str v4.2.s),.d (.int .i64 v4.2.at_),.d (.bool v4.2.b.Skip),.own 0 (zA ao v4.2.b.Words),.d (.str v4.2.b.Comment)]],[(127,v4.2.b.Words.length)]⟩) (λ_=>rfl) (by simp only[seval,FMB]) (by simp only[seval,FMB]) λv4=>.seqK (.block (.seqK (.block (.seqK (.bind λv5 h6=>.region λe h=>WB ?_))))))
 refine SpecS.inl Tryz.func124 rfl (by kernel_rfl) (by kernel_rfl) (λv5:Unit=>.d (.bool (v4.2.at_==(v4.2.s.length:Int)))) (λv5=>⟨[[.d (.bool false),.nil,.d (.str [])],[.d (.str v4.2.s),.d (.int .i64 v4.2.at_),.d (.bool v4.2.b.Skip),.own 0 (zA ao v4.2.b.Words),.d (.str v4.2.b.Comment)]],[(127,v4.2.b.Words.length)]⟩) h6 rfl ?_ ?_
 simp only[zB,zE,nS,nA,Tryz.ntmps124,SV]
 refine .sB ?_
 refine .seqK (.regionD [] (by kernel_rfl) λe h=>?_)
 simp only[seval,EMB,SB]
 refine mU e (.ret QB) h
 simp only[seval,EMB]
 refine mU e (.cond rfl (λh7=>?_) (λh7=>?_)) h
 refine .seqK (.sB ?_)
 refine .cond rfl (λh8=>?_) (λh8=>?_)
 refine .sB ?_
 refine .ret QB
 refine .skip (Mir.toK (.sB ?_))
 refine .ret QB
 refine .seqK (.bind λc2 q2=>?_)
 replace q2:=gt_ok q2
 refine .regionD [] (by kernel_rfl) λe h=>?_
 simp only[seval,EMB,SB,q2]
 refine mU e (.cond rfl (λh9=>?_) (λh9=>?_)) h
 refine .seqK (.bind λv15 h10=>.region λe h=>WB ?_)
 refine SpecS.inl Tryz.func125 rfl (by kernel_rfl) (by kernel_rfl) (λv15:Int×bs=>.d (.int .i64 v15.1)) (λv15=>⟨[[.d (.bool false),.nil,.d (.str [])],[.d (.str v15.2.s),.d (.int .i64 v15.2.at_),.d (.bool v15.2.b.Skip),.own 0 (zA ao v15.2.b.Words),.d (.str v15.2.b.Comment)]],[(127,v15.2.b.Words.length)]⟩) h10 rfl ?_ ?_
 simp only[zB,zE,nS,nA,Tryz.ntmps125,SV]
 refine .sB ?_
 refine .sB ?_
 refine .sB ?_
 refine .seqK (Mir.joinO (λv9:Int=>([.ptr 1 0,U,U,.d (.int .i64 v4.2.at_)]++us 67)) (λv9=>⟨[[.d (.bool false),.nil,.d (.str [])],[.d (.str v4.2.s),.d (.int .i64 v9),.d (.bool v4.2.b.Skip),.own 0 (zA ao v4.2.b.Words),.d (.str v4.2.b.Comment)]],[(127,v4.2.b.Words.length)]⟩) (λ_=>rfl) ?_ ?_)
 refine .block (Mir.loop (λv6:Int=>([.ptr 1 0,U,U,.d (.int .i64 v4.2.at_)]++us 67)) (λv6=>⟨[[.d (.bool false),.nil,.d (.str [])],[.d (.str v4.2.s),.d (.int .i64 v6),.d (.bool v4.2.b.Skip),.own 0 (zA ao v4.2.b.Words),.d (.str v4.2.b.Comment)]],[(127,v4.2.b.Words.length)]⟩) (λ_=>rfl) (by simp only[seval,FMB]) (by simp only[seval,FMB]) λv6=>.seqK (.seqK (Mir.joinO (λv8:Bool=>([.ptr 1 0,U,U,.d (.int .i64 v4.2.at_),U,U,U,U,U,U,U,U,U,U,U,U,U,U,U,U,U,U,U,U,U,U,U,U,U,U,.d (.bool v8)]++us 40)) (λv8=>⟨[[.d (.bool false),.nil,.d (.str [])],[.d (.str v4.2.s),.d (.int .i64 v6),.d (.bool v4.2.b.Skip),.own 0 (zA ao v4.2.b.Words),.d (.str v4.2.b.Comment)]],[(127,v4.2.b.Words.length)]⟩) (λ_=>rfl) ?_ ?_)))
 refine .bind λv7 h11=>.ite (λh12=>?_) (λh12=>?_)
 refine Mir.regionA 1 [] ([.ptr 1 0,U,U,.d (.int .i64 v4.2.at_),U,U,U,U,U,U,U,U,U,U,U,U,.ptr 1 0,.d (.bool (v6==(v4.2.s.length:Int))),.d (.bool (!(v6==(v4.2.s.length:Int)))),.d (.bool (!(v6==(v4.2.s.length:Int)))),.skip,.skip,.skip,.skip,.skip,.skip,.skip,.skip,.skip,.skip,.d (.bool false)]++us 40) ⟨[[.d (.bool false),.nil,.d (.str [])],[.d (.str v4.2.s),.d (.int .i64 v6),.d (.bool v4.2.b.Skip),.own 0 (zA ao v4.2.b.Words),.d (.str v4.2.b.Comment)]],[(127,v4.2.b.Words.length)]⟩ (by kernel_rfl) (λe h=>?_) (λe h=>?_)
 simp only[seval,EMB,al,w_eq,SB,h12]
 refine regA.one (j:=1) (by kernel_rfl) rfl (regW.of ?_)
 simp only[seval,EMB,al,w_eq,h12]
 refine SpecS.inl Tryz.func124 rfl (by kernel_rfl) (by kernel_rfl) (λv7:Unit=>.d (.bool (v6==(v4.2.s.length:Int)))) (λv7=>⟨[[.d (.bool false),.nil,.d (.str [])],[.d (.str v4.2.s),.d (.int .i64 v6),.d (.bool v4.2.b.Skip),.own 0 (zA ao v4.2.b.Words),.d (.str v4.2.b.Comment)]],[(127,v4.2.b.Words.length)]⟩) h11 rfl ?_ ?_
 simp only[zB,zE,nS,nA,Tryz.ntmps124,SV]
 refine .sB ?_
 refine .seqK (.regionD [] (by kernel_rfl) λe h=>?_)
 simp only[seval,EMB,SB]
 refine mU e (.ret QB) h
 simp only[seval,EMB,al,w_eq,h12]
 refine regA.draw 2 [] (by kernel_rfl) ?_
 simp only[seval,EMB,al,w_eq,SB,h12]
 exact⟨rfl,rfl⟩
 cases h
 simp only[seval,FMB,h12]
 refine .bind λc3 q3=>?_
 replace q3:=gt_ok q3
 refine .bind λy1 h13=>Mir.regionA 1 [] ([.ptr 1 0,U,U,.d (.int .i64 v4.2.at_),U,U,U,U,U,U,U,U,U,U,U,U,.ptr 1 0,.d (.bool (v6==(v4.2.s.length:Int))),.d (.bool (!(v6==(v4.2.s.length:Int)))),.d (.bool (!(v6==(v4.2.s.length:Int)))),.ptr 1 0,.ptr 1 0,.ptr 1 0,.d (.str v4.2.s),.ptr 1 0,.ptr 1 0,.ptr 1 1,.d (.int .i64 v6),.d (.int .u8 (c3.toNat:Int)),.d (.bool y1),.d (.bool y1)]++us 40) ⟨[[.d (.bool false),.nil,.d (.str [])],[.d (.str v4.2.s),.d (.int .i64 v6),.d (.bool v4.2.b.Skip),.own 0 (zA ao v4.2.b.Words),.d (.str v4.2.b.Comment)]],[(127,v4.2.b.Words.length)]⟩ (by kernel_rfl) (λe h=>?_) (λe h=>?_)
 simp only[seval,EMB,al,w_eq,SB,h12]
 refine regA.one (j:=1) (by kernel_rfl) rfl (regW.of ?_)
 simp only[seval,EMB,al,w_eq,h12]
 refine SpecS.inl Tryz.func124 rfl (by kernel_rfl) (by kernel_rfl) (λv7:Unit=>.d (.bool (v6==(v4.2.s.length:Int)))) (λv7=>⟨[[.d (.bool false),.nil,.d (.str [])],[.d (.str v4.2.s),.d (.int .i64 v6),.d (.bool v4.2.b.Skip),.own 0 (zA ao v4.2.b.Words),.d (.str v4.2.b.Comment)]],[(127,v4.2.b.Words.length)]⟩) h11 rfl ?_ ?_
 simp only[zB,zE,nS,nA,Tryz.ntmps124,SV]
 refine .sB ?_
 refine .seqK (.regionD [] (by kernel_rfl) λe h=>?_)
 simp only[seval,EMB,SB]
 refine mU e (.ret QB) h
 simp only[seval,EMB,al,w_eq,h12]
 refine regA.draw 2 [] (by kernel_rfl) ?_
 simp only[seval,EMB,al,w_eq,SB,q3,h12]
 refine Spec.by (ib h13) (by simp only[seval,FMB,h12]) ?_
 simp only[seval,EMB,al,w_eq,SB,h12]
 exact⟨rfl,rfl⟩
 cases h
 simp only[seval,FMB,h12]
 intro v8
 refine Mir.toK (.cond rfl (λh14=>?_) (λh14=>?_))
 refine .skip (Mir.toK (.block (.rB)))
 refine .exit QB
 intro v9
 refine Mir.toK (.seqK (.bind λs1 q4=>?_))
 replace q4:=cutL_ok q4
 refine .regionD [] (by kernel_rfl) λe h=>?_
 simp only[seval,EMB,SB,q4,zH,and_true,true_and,dm,tm]
 refine mU e (.seqK (.sB ?_)) h
 refine .cond rfl (λh15=>?_) (λh15=>?_)
 refine .sB ?_
 refine .sB ?_
 refine .ret QB
 refine .skip (Mir.toK (.seqK (.seqK (Mir.joinO (λv13:Bool×Int=>([.ptr 1 0,U,U,U,.d (.str s1),U,U,U,U,U,U,U,U,U,U,U,U,U,U,U,U,U,U,U,U,U,U,U,U,U,U,U,U,U,U,U,U,U,U,U,U,U,U,U,U,U,U,U,U,U,U,U,U,U,U,U,U,U,U,U,U,U,.d (.bool v13.1)]++us 8)) (λv13=>⟨[[.d (.bool false),.nil,.d (.str [])],[.d (.str v4.2.s),.d (.int .i64 v13.2),.d (.bool v4.2.b.Skip),.own 0 (zA ao v4.2.b.Words),.d (.str v4.2.b.Comment)]],[(127,v4.2.b.Words.length)]⟩) (λ_=>rfl) ?_ ?_))))
 refine .ite (λh16=>?_) (λh16=>?_)
 refine .region λe h=>?_
 simp only[seval,EMB,h16]
 cases h
 simp only[seval,FMB,h16]
 refine .bind λv12 h17=>.region λe h=>?_
 simp only[seval,EMB,h16]
 refine SpecS.inl Tryz.func123 rfl (by kernel_rfl) (by kernel_rfl) (λv12:Bool×Int=>.d (.bool v12.1)) (λv12=>⟨[[.d (.bool false),.nil,.d (.str [])],[.d (.str v4.2.s),.d (.int .i64 v12.2),.d (.bool v4.2.b.Skip),.own 0 (zA ao v4.2.b.Words),.d (.str v4.2.b.Comment)]],[(127,v4.2.b.Words.length)]⟩) h17 rfl ?_ ?_
 simp only[zB,zE,nS,nA,Tryz.ntmps123,SV]
 refine .sB ?_
 refine .seqK (.seqK (Mir.joinO (λv11:Bool=>([.ptr 1 0,U,U,U,U,U,U,U,U,U,U,U,U,U,U,U,U,U,U,.d (.bool v11)]++us 7)) (λv11=>⟨[[.d (.bool false),.nil,.d (.str [])],[.d (.str v4.2.s),.d (.int .i64 v9),.d (.bool v4.2.b.Skip),.own 0 (zA ao v4.2.b.Words),.d (.str v4.2.b.Comment)]],[(127,v4.2.b.Words.length)]⟩) (λ_=>rfl) ?_ ?_))
 refine .bind λv10 h18=>.ite (λh19=>?_) (λh19=>?_)
 refine Mir.regionA 1 [] ([.ptr 1 0,.d (.int .u8 41),U,U,.d (.bool false),.ptr 1 0,.d (.bool (v9==(v4.2.s.length:Int))),.d (.bool (v9==(v4.2.s.length:Int))),.skip,.skip,.skip,.skip,.skip,.skip,.skip,.skip,.skip,.skip,.skip,.d (.bool true)]++us 7) ⟨[[.d (.bool false),.nil,.d (.str [])],[.d (.str v4.2.s),.d (.int .i64 v9),.d (.bool v4.2.b.Skip),.own 0 (zA ao v4.2.b.Words),.d (.str v4.2.b.Comment)]],[(127,v4.2.b.Words.length)]⟩ (by kernel_rfl) (λe h=>?_) (λe h=>?_)
 simp only[seval,EMB,al,w_eq,SB,h19]
 refine regA.one (j:=1) (by kernel_rfl) rfl (regW.of ?_)
 simp only[seval,EMB,al,w_eq,h19]
 refine SpecS.inl Tryz.func124 rfl (by kernel_rfl) (by kernel_rfl) (λv10:Unit=>.d (.bool (v9==(v4.2.s.length:Int)))) (λv10=>⟨[[.d (.bool false),.nil,.d (.str [])],[.d (.str v4.2.s),.d (.int .i64 v9),.d (.bool v4.2.b.Skip),.own 0 (zA ao v4.2.b.Words),.d (.str v4.2.b.Comment)]],[(127,v4.2.b.Words.length)]⟩) h18 rfl ?_ ?_
 simp only[zB,zE,nS,nA,Tryz.ntmps124,SV]
 refine .sB ?_
 refine .seqK (.regionD [] (by kernel_rfl) λe h=>?_)
 simp only[seval,EMB,SB]
 refine mU e (.ret QB) h
 simp only[seval,EMB,al,w_eq,h19]
 refine regA.draw 2 [] (by kernel_rfl) ?_
 simp only[seval,EMB,al,w_eq,SB,h19]
 exact⟨rfl,rfl⟩
 cases h
 simp only[seval,FMB,h19]
 refine .bind λc4 q5=>?_
 replace q5:=gt_ok q5
 refine Mir.regionA 1 [] ([.ptr 1 0,.d (.int .u8 41),U,U,.d (.bool false),.ptr 1 0,.d (.bool (v9==(v4.2.s.length:Int))),.d (.bool (v9==(v4.2.s.length:Int))),.ptr 1 0,.ptr 1 0,.ptr 1 0,.d (.str v4.2.s),.ptr 1 0,.ptr 1 0,.ptr 1 1,.d (.int .i64 v9),.d (.int .u8 (c4.toNat:Int)),.d (.int .u8 41),.d (.bool ((c4.toNat:Int) != 41)),.d (.bool ((c4.toNat:Int) != 41))]++us 7) ⟨[[.d (.bool false),.nil,.d (.str [])],[.d (.str v4.2.s),.d (.int .i64 v9),.d (.bool v4.2.b.Skip),.own 0 (zA ao v4.2.b.Words),.d (.str v4.2.b.Comment)]],[(127,v4.2.b.Words.length)]⟩ (by kernel_rfl) (λe h=>?_) (λe h=>?_)
 simp only[seval,EMB,al,w_eq,SB,h19]
 refine regA.one (j:=1) (by kernel_rfl) rfl (regW.of ?_)
 simp only[seval,EMB,al,w_eq,h19]
 refine SpecS.inl Tryz.func124 rfl (by kernel_rfl) (by kernel_rfl) (λv10:Unit=>.d (.bool (v9==(v4.2.s.length:Int)))) (λv10=>⟨[[.d (.bool false),.nil,.d (.str [])],[.d (.str v4.2.s),.d (.int .i64 v9),.d (.bool v4.2.b.Skip),.own 0 (zA ao v4.2.b.Words),.d (.str v4.2.b.Comment)]],[(127,v4.2.b.Words.length)]⟩) h18 rfl ?_ ?_
 simp only[zB,zE,nS,nA,Tryz.ntmps124,SV]
 refine .sB ?_
 refine .seqK (.regionD [] (by kernel_rfl) λe h=>?_)
 simp only[seval,EMB,SB]
 refine mU e (.ret QB) h
 simp only[seval,EMB,al,w_eq,h19]
 refine regA.draw 2 [] (by kernel_rfl) ?_
 simp only[seval,EMB,al,w_eq,SB,q5,h19]
 exact⟨rfl,rfl⟩
 cases h
 simp only[seval,FMB,h19]
 intro v11
 refine Mir.toK (.cond rfl (λh20=>?_) (λh20=>?_))
 refine .sB ?_
 refine .ret QB
 refine .skip (Mir.toK (.sB ?_))
 refine .sB ?_
 refine .ret QB
 simp only[seval,EMB,h16]
 cases h
 simp only[seval,FMB,h16]
 intro v13
 refine Mir.toK (.cond rfl (λh21=>?_) (λh21=>?_))
 refine .sB ?_
 refine .ret QB
 refine .skip (Mir.toK (.sB ?_))
 refine .seqK (.seqK (.bind λv14 h22=>.region λe h=>WB ?_))
 refine SpecS.inl Tryz.func124 rfl (by kernel_rfl) (by kernel_rfl) (λv14:Unit=>.d (.bool (v13.2==(v4.2.s.length:Int)))) (λv14=>⟨[[.d (.bool false),.nil,.d (.str [])],[.d (.str v4.2.s),.d (.int .i64 v13.2),.d (.bool v4.2.b.Skip),.own 0 (zA ao v4.2.b.Words),.d (.str s1)]],[(127,v4.2.b.Words.length)]⟩) h22 rfl ?_ ?_
 simp only[zB,zE,nS,nA,Tryz.ntmps124,SV]
 refine .sB ?_
 refine .seqK (.regionD [] (by kernel_rfl) λe h=>?_)
 simp only[seval,EMB,SB]
 refine mU e (.ret QB) h
 simp only[seval,EMB]
 refine mU e (.cond rfl (λh23=>?_) (λh23=>?_)) h
 refine .sB ?_
 refine .ret QB
 refine .skip (Mir.toK (.sB ?_))
 refine .ret QB
 simp only[seval,EMB]
 refine mU e (.ret QB) h
 refine .skip (Mir.toB (Mir.toK (.seqK (.seqK (.bind λv19 h24=>.region λe h=>WB ?_)))))
 refine SpecS.inl Tryz.func126 rfl (by kernel_rfl) (by kernel_rfl) (λv19:Int×bs=>.d (.int .i64 v19.1)) (λv19=>⟨[[.d (.bool false),.nil,.d (.str [])],[.d (.str v19.2.s),.d (.int .i64 v19.2.at_),.d (.bool v19.2.b.Skip),.own 0 (zA ao v19.2.b.Words),.d (.str v19.2.b.Comment)]],[(127,v19.2.b.Words.length)]⟩) h24 rfl ?_ ?_
 simp only[zB,zE,nS,nA,Tryz.ntmps126,SV]
 refine .sB ?_
 refine .seqK (.bind λc5 q6=>?_)
 replace q6:=gt_ok q6
 refine .regionD [] (by kernel_rfl) λe h=>?_
 simp only[seval,EMB,SB,q6]
 refine mU e (.seqK (.seqK (.joinV ([.ptr 1 0,U,U,.d (.int .u8 (c5.toNat:Int)),U,U,U,U,U,U,U,U,U,U,U,U,U,U,U,U,U,.d (.bool ((decide ((c5.toNat:Int)<65))||(decide ((c5.toNat:Int)>90))))]++us 93) ⟨[[.d (.bool false),.nil,.d (.str [])],[.d (.str v4.2.s),.d (.int .i64 v4.2.at_),.d (.bool v4.2.b.Skip),.own 0 (zA ao v4.2.b.Words),.d (.str v4.2.b.Comment)]],[(127,v4.2.b.Words.length)]⟩ rfl ?_ ?_))) h
 refine SWs.region ?_
 rcases zF (decide ((c5.toNat:Int)<65))with h25 | h25
 simp only[seval,EMB,SL,PB,h25]
 simp only[seval,EMB,SL,PB,h25]
 refine Mir.toK (.cond rfl (λh26=>?_) (λh26=>?_))
 refine .sB ?_
 refine .ret QB
 refine .skip (Mir.toK (.seqK (.sB ?_)))
 refine .cond rfl (λh27=>?_) (λh27=>?_)
 refine .sB ?_
 refine .ret QB
 refine .skip (Mir.toK (.sB ?_))
 refine .seqK (Mir.joinO (λv18:Int=>([.ptr 1 0,U,U,.d (.int .u8 (c5.toNat:Int)),.d (.int .i64 v18)]++us 110)) (λv18=>⟨[[.d (.bool false),.nil,.d (.str [])],[.d (.str v4.2.s),.d (.int .i64 v4.2.at_),.d (.bool v4.2.b.Skip),.own 0 (zA ao v4.2.b.Words),.d (.str v4.2.b.Comment)]],[(127,v4.2.b.Words.length)]⟩) (λ_=>rfl) ?_ ?_)
 refine .block (Mir.loop (λv16:Int=>([.ptr 1 0,U,U,.d (.int .u8 (c5.toNat:Int)),.d (.int .i64 v16)]++us 110)) (λv16=>⟨[[.d (.bool false),.nil,.d (.str [])],[.d (.str v4.2.s),.d (.int .i64 v4.2.at_),.d (.bool v4.2.b.Skip),.own 0 (zA ao v4.2.b.Words),.d (.str v4.2.b.Comment)]],[(127,v4.2.b.Words.length)]⟩) (λ_=>rfl) (by simp only[seval,FMB]) (by simp only[seval,FMB]) λv16=>.seqK (.seqK (Mir.joinO (λv17:Bool=>([.ptr 1 0,U,U,.d (.int .u8 (c5.toNat:Int)),.d (.int .i64 v16),U,U,U,U,U,U,U,U,U,U,U,U,U,U,U,U,U,U,U,U,U,U,U,U,U,U,U,U,U,U,U,U,U,U,U,U,U,U,U,U,U,U,U,U,U,U,U,U,U,U,U,U,U,U,U,U,U,U,U,U,U,U,U,U,U,U,U,U,U,U,U,.d (.bool v17)]++us 38)) (λv17=>⟨[[.d (.bool false),.nil,.d (.str [])],[.d (.str v4.2.s),.d (.int .i64 v4.2.at_),.d (.bool v4.2.b.Skip),.own 0 (zA ao v4.2.b.Words),.d (.str v4.2.b.Comment)]],[(127,v4.2.b.Words.length)]⟩) (λ_=>rfl) ?_ ?_)))
 refine .ite (λh28=>?_) (λh28=>?_)
 refine .bind λc6 q7=>?_
 replace q7:=gt_ok q7
 refine .ite (λh29=>?_) (λh29=>?_)
 refine .ite (λh30=>?_) (λh30=>?_)
 refine .region λe h=>?_
 simp only[seval,EMB,q7,h28,h29,h30]
 cases h
 simp only[seval,FMB,h28,h29,h30]
 refine .ite (λh31=>?_) (λh31=>?_)
 refine .region λe h=>?_
 simp only[seval,EMB,q7,h28,h29,h30,h31]
 cases h
 simp only[seval,FMB,h28,h29,h30,h31]
 refine .region λe h=>?_
 simp only[seval,EMB,q7,h28,h29,h30,h31]
 cases h
 simp only[seval,FMB,h28,h29,h30,h31]
 refine .ite (λh32=>?_) (λh32=>?_)
 refine .region λe h=>?_
 simp only[seval,EMB,q7,h28,h29,h32]
 cases h
 simp only[seval,FMB,h28,h29,h32]
 refine .region λe h=>?_
 simp only[seval,EMB,q7,h28,h29,h32]
 cases h
 simp only[seval,FMB,h28,h29,h32]
 refine .region λe h=>?_
 simp only[seval,EMB,h28]
 cases h
 simp only[seval,FMB,h28]
 intro v17
 refine Mir.toK (.cond rfl (λh33=>?_) (λh33=>?_))
 refine .skip (Mir.toK (.block (.rB)))
 refine .exit QB
 intro v18
 refine Mir.toK (.seqK (.bind λs2 q8=>?_))
 replace q8:=cutL_ok q8
 refine .bind λy2 h34=>.regionD [] (by kernel_rfl) λe h=>?_
 simp only[seval,EMB,SB,q8,zH,and_true,true_and,dm,tm]
 refine Spec.by (bk_Value_spec h34) (by simp only[seval,FMB]) ?_
 simp only[seval,EMB,SB]
 refine mU e (.seqK (.sB ?_)) h
 refine .cond rfl (λh35=>?_) (λh35=>?_)
 refine .sB ?_
 refine .ret QB
 refine .skip (Mir.toK (.seqK (.guard λq9=>.region λe h=>?_)))
 simp only[seval,EMB,(oL 2),q9]
 refine mU e (.sB ?_) h
 refine .sB ?_
 refine .ret QB
 simp only[seval,EMB]
 refine mU e (.sB ?_) h
 refine .cond rfl (λh36=>?_) (λh36=>?_)
 refine .sB ?_
 refine .ret QB
 refine .skip (Mir.toK (.seqK (.seqK (.bind λv20 h37=>.region λe h=>WB ?_))))
 refine SpecS.inl Tryz.func124 rfl (by kernel_rfl) (by kernel_rfl) (λv20:Unit=>.d (.bool (v19.2.at_==(v19.2.s.length:Int)))) (λv20=>⟨[[.d (.bool false),.nil,.d (.str [])],[.d (.str v19.2.s),.d (.int .i64 v19.2.at_),.d (.bool v19.2.b.Skip),.own 0 (zA ao v19.2.b.Words),.d (.str v19.2.b.Comment)]],[(127,v19.2.b.Words.length)]⟩) h37 rfl ?_ ?_
 simp only[zB,zE,nS,nA,Tryz.ntmps124,SV]
 refine .sB ?_
 refine .seqK (.regionD [] (by kernel_rfl) λe h=>?_)
 simp only[seval,EMB,SB]
 refine mU e (.ret QB) h
 simp only[seval,EMB]
 refine mU e (.cond rfl (λh38=>?_) (λh38=>?_)) h
 refine .sB ?_
 refine .ret QB
 refine .skip (Mir.toK (.seqK (.bind λv23 h39=>.region λe h=>WB ?_)))
 refine SpecS.inl Tryz.func123 rfl (by kernel_rfl) (by kernel_rfl) (λv23:Bool×Int=>.d (.bool v23.1)) (λv23=>⟨[[.d (.bool false),.nil,.d (.str [])],[.d (.str v19.2.s),.d (.int .i64 v23.2),.d (.bool v19.2.b.Skip),.own 0 (zA ao v19.2.b.Words),.d (.str v19.2.b.Comment)]],[(127,v19.2.b.Words.length)]⟩) h39 rfl ?_ ?_
 simp only[zB,zE,nS,nA,Tryz.ntmps123,SV]
 refine .sB ?_
 refine .seqK (.seqK (Mir.joinO (λv22:Bool=>([.ptr 1 0,U,U,U,U,U,U,U,U,U,U,U,U,U,U,U,U,U,U,.d (.bool v22)]++us 7)) (λv22=>⟨[[.d (.bool false),.nil,.d (.str [])],[.d (.str v19.2.s),.d (.int .i64 v19.2.at_),.d (.bool v19.2.b.Skip),.own 0 (zA ao v19.2.b.Words),.d (.str v19.2.b.Comment)]],[(127,v19.2.b.Words.length)]⟩) (λ_=>rfl) ?_ ?_))
 refine .bind λv21 h40=>.ite (λh41=>?_) (λh41=>?_)
 refine Mir.regionA 1 [] ([.ptr 1 0,.d (.int .u8 32),U,U,.d (.bool false),.ptr 1 0,.d (.bool (v19.2.at_==(v19.2.s.length:Int))),.d (.bool (v19.2.at_==(v19.2.s.length:Int))),.skip,.skip,.skip,.skip,.skip,.skip,.skip,.skip,.skip,.skip,.skip,.d (.bool true)]++us 7) ⟨[[.d (.bool false),.nil,.d (.str [])],[.d (.str v19.2.s),.d (.int .i64 v19.2.at_),.d (.bool v19.2.b.Skip),.own 0 (zA ao v19.2.b.Words),.d (.str v19.2.b.Comment)]],[(127,v19.2.b.Words.length)]⟩ (by kernel_rfl) (λe h=>?_) (λe h=>?_)
 simp only[seval,EMB,al,w_eq,SB,h41]
 refine regA.one (j:=1) (by kernel_rfl) rfl (regW.of ?_)
 simp only[seval,EMB,al,w_eq,h41]
 refine SpecS.inl Tryz.func124 rfl (by kernel_rfl) (by kernel_rfl) (λv21:Unit=>.d (.bool (v19.2.at_==(v19.2.s.length:Int)))) (λv21=>⟨[[.d (.bool false),.nil,.d (.str [])],[.d (.str v19.2.s),.d (.int .i64 v19.2.at_),.d (.bool v19.2.b.Skip),.own 0 (zA ao v19.2.b.Words),.d (.str v19.2.b.Comment)]],[(127,v19.2.b.Words.length)]⟩) h40 rfl ?_ ?_
 simp only[zB,zE,nS,nA,Tryz.ntmps124,SV]
 refine .sB ?_
 refine .seqK (.regionD [] (by kernel_rfl) λe h=>?_)
 simp only[seval,EMB,SB]
 refine mU e (.ret QB) h
 simp only[seval,EMB,al,w_eq,h41]
 refine regA.draw 2 [] (by kernel_rfl) ?_
 simp only[seval,EMB,al,w_eq,SB,h41]
 exact⟨rfl,rfl⟩
 cases h
 simp only[seval,FMB,h41]
 refine .bind λc7 q10=>?_
 replace q10:=gt_ok q10
 refine Mir.regionA 1 [] ([.ptr 1 0,.d (.int .u8 32),U,U,.d (.bool false),.ptr 1 0,.d (.bool (v19.2.at_==(v19.2.s.length:Int))),.d (.bool (v19.2.at_==(v19.2.s.length:Int))),.ptr 1 0,.ptr 1 0,.ptr 1 0,.d (.str v19.2.s),.ptr 1 0,.ptr 1 0,.ptr 1 1,.d (.int .i64 v19.2.at_),.d (.int .u8 (c7.toNat:Int)),.d (.int .u8 32),.d (.bool ((c7.toNat:Int) != 32)),.d (.bool ((c7.toNat:Int) != 32))]++us 7) ⟨[[.d (.bool false),.nil,.d (.str [])],[.d (.str v19.2.s),.d (.int .i64 v19.2.at_),.d (.bool v19.2.b.Skip),.own 0 (zA ao v19.2.b.Words),.d (.str v19.2.b.Comment)]],[(127,v19.2.b.Words.length)]⟩ (by kernel_rfl) (λe h=>?_) (λe h=>?_)
 simp only[seval,EMB,al,w_eq,SB,h41]
 refine regA.one (j:=1) (by kernel_rfl) rfl (regW.of ?_)
 simp only[seval,EMB,al,w_eq,h41]
 refine SpecS.inl Tryz.func124 rfl (by kernel_rfl) (by kernel_rfl) (λv21:Unit=>.d (.bool (v19.2.at_==(v19.2.s.length:Int)))) (λv21=>⟨[[.d (.bool false),.nil,.d (.str [])],[.d (.str v19.2.s),.d (.int .i64 v19.2.at_),.d (.bool v19.2.b.Skip),.own 0 (zA ao v19.2.b.Words),.d (.str v19.2.b.Comment)]],[(127,v19.2.b.Words.length)]⟩) h40 rfl ?_ ?_
 simp only[zB,zE,nS,nA,Tryz.ntmps124,SV]
 refine .sB ?_
 refine .seqK (.regionD [] (by kernel_rfl) λe h=>?_)
 simp only[seval,EMB,SB]
 refine mU e (.ret QB) h
 simp only[seval,EMB,al,w_eq,h41]
 refine regA.draw 2 [] (by kernel_rfl) ?_
 simp only[seval,EMB,al,w_eq,SB,q10,h41]
 exact⟨rfl,rfl⟩
 cases h
 simp only[seval,FMB,h41]
 intro v22
 refine Mir.toK (.cond rfl (λh42=>?_) (λh42=>?_))
 refine .sB ?_
 refine .ret QB
 refine .skip (Mir.toK (.sB ?_))
 refine .sB ?_
 refine .ret QB
 simp only[seval,EMB]
 refine mU e (.cond rfl (λh43=>?_) (λh43=>?_)) h
 refine .sB ?_
 refine .ret QB
 refine .skip (Mir.toB (Mir.toK (.rB)))
 simp only[seval,EMB]
 refine mU e (.sB ?_) h
 refine .cond rfl (λh44=>?_) (λh44=>?_)
 refine .seqK (.regionD [(17,2)] (by kernel_rfl) λe h=>?_)
 simp only[seval,EMB,SB]
 refine mU e (.ret QB) h
 refine .skip (Mir.toK (.sB ?_))
 refine .ret QB
def fO(a0:(List UInt8)):Option ((List aa)×Int×Int):=bindO (if (decide ((a0.length:Int)>65536))=true then some true else bindO (cn a0 [10]) λ(y1:Int)=>if (decide (y1>20000))=true then some true else bindO (cn a0 [10]) λ(y2:Int)=>if (y2==20000)=true then bindO (de a0 [10]) λ(y3:Bool)=>some (!y3)else some false) λ(v1:Bool)=>if v1=true then some ([],0,3)else bindX (loopX (λ(v2:(List UInt8)×(List aa)×Int)=>if (!(v2.1==[]))=true then bindO (cU v2.1 [10]) λ(y4:(List UInt8)×(List UInt8)×Bool)=>bindO (bk_Parse y4.1) λ(y5:aa×Int×Int)=>bindO (if (!y4.2.2)=true then some 2 else some y5.2.2) λ(v3:Int)=>if (v3 != 0)=true then some (.ret (.ret ([],v2.2.2,v3)))else az (okLen (v2.2.1.length+1)) ( some (.go (y4.2.1,v2.2.1++[y5.1],zM.wrap (v2.2.2+1))))else some (.ret (.go v2.2.1))) fuel (a0,[],1)) λ(v4:(List aa))=>some (v4,0,0)
theorem bk_Program_spec{a0:(List UInt8)}{y:(List aa)×Int×Int}(h:fO a0=some y):Spec gP 17 [.d (.str a0)] (.tuple [.d (.list (zA ac y.1)),.d (.int .i64 y.2.1),.d (.int .i64 y.2.2)]):=by
 refine auB Tryz.func17 (λy:(List aa)×Int×Int=>.tuple [.d (.list (zA ac y.1)),.d (.int .i64 y.2.1),.d (.int .i64 y.2.2)]) ?_ h
 unfold fO
 refine .sB ?_
 refine .seqK (.seqK (Mir.joinO (λv1:Bool=>([.d (.str a0),U,U,U,U,U,U,U,U,U,U,U,U,U,U,U,U,U,U,U,U,U,U,U,U,U,U,U,U,U,.d (.bool v1)]++us 28)) (λv1=>⟨[],[]⟩) (λ_=>rfl) ?_ ?_))
 refine .ite (λhb1=>?_) (λhb1=>?_)
 refine .region λe h=>?_
 simp only[seval,EMB,hb1]
 cases h
 simp only[seval,FMB,hb1]
 refine .bind λy1 hy2=>.ite (λhb3=>?_) (λhb3=>?_)
 refine .region λe h=>?_
 simp only[seval,EMB,hb1,hb3]
 refine SpecS.by (bW hy2) (by simp only[seval,FMB,hb1,hb3]) ?_
 simp only[seval,EMB,hb1,hb3]
 cases h
 simp only[seval,FMB,hb1,hb3]
 refine .bind λy2 hy4=>.ite (λhb5=>?_) (λhb5=>?_)
 refine .bind λy3 hy6=>.region λe h=>?_
 simp only[seval,EMB,hb1,hb3,hb5]
 refine SpecS.by (bW hy2) (by simp only[seval,FMB,hb1,hb3,hb5]) ?_
 simp only[seval,EMB,hb1,hb3,hb5]
 refine SpecS.by (bW hy4) (by simp only[seval,FMB,hb1,hb3,hb5]) ?_
 simp only[seval,EMB,hb1,hb3,hb5]
 refine SpecS.by (iV hy6) (by simp only[seval,FMB,hb1,hb3,hb5]) ?_
 simp only[seval,EMB,hb1,hb3,hb5]
 cases h
 simp only[seval,FMB,hb1,hb3,hb5]
 refine .region λe h=>?_
 simp only[seval,EMB,hb1,hb3,hb5]
 refine SpecS.by (bW hy2) (by simp only[seval,FMB,hb1,hb3,hb5]) ?_
 simp only[seval,EMB,hb1,hb3,hb5]
 refine SpecS.by (bW hy4) (by simp only[seval,FMB,hb1,hb3,hb5]) ?_
 simp only[seval,EMB,hb1,hb3,hb5]
 cases h
 simp only[seval,FMB,hb1,hb3,hb5]
 intro v1
 refine Mir.toK (.cond rfl (λhb8=>?_) (λhb8=>?_))
 refine .sB ?_
 refine .ret QB
 refine .skip (Mir.toK (.sB ?_))
 refine .seqK (.sB ?_)
 refine .gh [.slot 5 96] rfl (Mir.join (λv4:(List aa)=>([U,U,U,U,U,.own 0 (zA ac v4)]++us 53)) (λv4=>⟨[],[(96,v4.length)]⟩) (λ_=>rfl) ?_ ?_)
 refine .block (Mir.loop (λv2:(List UInt8)×(List aa)×Int=>([.d (.str v2.1),U,U,U,U,.own 0 (zA ac v2.2.1),.d (.int .i64 v2.2.2)]++us 52)) (λv2=>⟨[],[(96,v2.2.1.length)]⟩) (λ_=>rfl) (by simp only[seval,FMB]) (by simp only[seval,FMB]) λv2=>.seqK (.sB ?_))
 refine .cond rfl (λh1=>?_) (λh1=>?_)
 refine .skip (Mir.toK (.seqK (.block (.seqK (.bind λy4 h2=>.region λe h=>WB ?_)))))
 refine .byB (iK h2) (mB ?_ h)
 refine .seqK (.bind λy5 h3=>.region λe h=>WB ?_)
 refine .byB (bk_Parse_spec h3) (mB ?_ h)
 refine .seqK (.sB ?_)
 refine Mir.joinO (λv3:Int=>([U,U,U,U,U,.own 0 (zA ac v2.2.1),.d (.int .i64 v2.2.2),U,.d (.str y4.2.1),U,.ptr 0 0,U,.d (.int .i64 v3)]++us 46)) (λv3=>⟨[(cG y5.1)],[(96,v2.2.1.length)]⟩) (λ_=>rfl) ?_ ?_
 refine .cond rfl (λ_=>.rB) (λ_=>.skip QB)
 intro v3
 refine Mir.toK (.seqK (.sB ?_))
 refine .cond rfl (λh5=>?_) (λh5=>?_)
 refine .sB ?_
 refine .ret QB
 refine .skip (Mir.toK (.guard λq1=>.region λe h=>?_))
 simp only[seval,EMB,(oL 3),q1]
 refine mU e (.rB) h
 refine .exit QB
 intro v4
 refine Mir.toK (.sB ?_)
 refine .ret QB
def dM(a0:aa):Option Bool:=bindO (iM a0 77 30000) λ(y1:Bool)=>some y1
theorem sp_Split_c1_spec{a0:aa}{y:Bool}(h:dM a0=some y):Spec gP 43 [.agg (cG a0)] (.d (.bool y)):=by
 refine auB Tryz.func43 (λy:Bool=>.d (.bool y)) ?_ h
 unfold dM
 refine .sB ?_
 refine .seqK (.bind λy1 hy1=>.region λe h=>WB ?_)
 refine .byB (bJ hy1) (mB ?_ h)
 refine .ret QB
def jL(a0:aa):Option Bool:=some (((a0.Words.length:Int)==1)&&(!a0.Skip&&(a0.Comment==[])))
theorem fB{a0:aa}{y:Bool}(h:jL a0=some y):Spec gP 48 [.agg (cG a0)] (.d (.bool y)):=by
 refine auB Tryz.func48 (λy:Bool=>.d (.bool y)) ?_ h
 unfold jL
 refine .sB ?_
 refine .seqK (.joinV ([U,U,.d (.bool (((a0.Words.length:Int)==1)&&(!a0.Skip&&(a0.Comment==[]))))]++us 14) ⟨[(cG a0)],[]⟩ rfl ?_ ?_)
 refine SWs.region ?_
 rcases zF ((a0.Words.length:Int)==1)with hb1 | hb1
 rcases zF (a0.Skip)with hb2 | hb2
 simp only[seval,EMB,SL,PB,hb1,hb2]
 simp only[seval,EMB,SL,PB,hb1,hb2]
 simp only[seval,EMB,SL,PB,hb1]
 refine Mir.toK (.ret QB)
def sp_whole(a0:Int):Option (Int×Bool):=some (zM.wrap (zG a0 1000),((zL a0 1000)==0)&&((decide ((zM.wrap (zG a0 1000))≥1))&&(decide ((zM.wrap (zG a0 1000))≤9999))))
theorem sp_whole_spec{a0:Int}{y:Int×Bool}(h:sp_whole a0=some y):Spec gP 91 [.d (.int .i64 a0)] (.tuple [.d (.int .i64 y.1),.d (.bool y.2)]):=by
 refine auB Tryz.func91 (λy:Int×Bool=>.tuple [.d (.int .i64 y.1),.d (.bool y.2)]) ?_ h
 unfold sp_whole
 refine .sB ?_
 refine .sB ?_
 refine .seqK (.joinV ([U,U,.d (.int .i64 (zM.wrap (zG a0 1000))),.d (.bool (((zL a0 1000)==0)&&((decide ((zM.wrap (zG a0 1000))≥1))&&(decide ((zM.wrap (zG a0 1000))≤9999)))))]++us 15) ⟨[],[]⟩ rfl ?_ ?_)
 refine SWs.region ?_
 rcases zF ((zL a0 1000)==0)with hb1 | hb1
 rcases zF (decide ((zM.wrap (zG a0 1000))≥1))with hb2 | hb2
 simp only[seval,EMB,SL,PB,hb1,hb2]
 simp only[seval,EMB,SL,PB,hb1,hb2]
 simp only[seval,EMB,SL,PB,hb1]
 refine Mir.toK (.ret QB)
def eX(a0:aa):Option (Int×Bool):=bindO (bindO (jL a0) λ(y1:Bool)=>if y1=true then bindO (gt a0.Words 0) λ(e1:ap)=>some (e1.Letter != 79)else some true) λ(v1:Bool)=>if v1=true then some (0,false)else bindO (gt a0.Words 0) λ(e2:ap)=>bindO (sp_whole e2.Value) λ(y2:Int×Bool)=>some (y2.1,y2.2)
theorem sp_beginning_spec{a0:aa}{y:Int×Bool}(h:eX a0=some y):Spec gP 46 [.agg (cG a0)] (.tuple [.d (.int .i64 y.1),.d (.bool y.2)]):=by
 refine auB Tryz.func46 (λy:Int×Bool=>.tuple [.d (.int .i64 y.1),.d (.bool y.2)]) ?_ h
 unfold eX
 refine .sB ?_
 refine .seqK (.seqK (Mir.joinO (λv1:Bool=>([U,.ptr 0 0,U,U,U,U,U,U,U,U,U,U,U,U,.d (.bool v1)]++us 8)) (λv1=>⟨[(cG a0)],[]⟩) (λ_=>rfl) ?_ ?_))
 refine .bind λy1 hy1=>.ite (λhb2=>?_) (λhb2=>?_)
 refine .bind λe1 q3=>?_
 replace q3:=gt_ok q3
 simp only[zI,zJ,zK,dp0]at q3
 refine .region λe h=>?_
 simp only[seval,EMB,hb2]
 refine SpecS.by (fB hy1) (by simp only[seval,FMB,hb2]) ?_
 simp only[seval,EMB,q3,hb2]
 cases h
 simp only[seval,FMB,hb2]
 refine .region λe h=>?_
 simp only[seval,EMB,hb2]
 refine SpecS.by (fB hy1) (by simp only[seval,FMB,hb2]) ?_
 simp only[seval,EMB,hb2]
 cases h
 simp only[seval,FMB,hb2]
 intro v1
 refine Mir.toK (.cond rfl (λhb5=>?_) (λhb5=>?_))
 refine .sB ?_
 refine .ret QB
 refine .skip (Mir.toK (.seqK (.bind λe2 q6=>?_)))
 replace q6:=gt_ok q6
 simp only[zI,zJ,zK,dp0]at q6
 refine .bind λy2 hy7=>.region λe h=>?_
 simp only[seval,EMB,q6]
 refine .byB (sp_whole_spec hy7) (mB ?_ h)
 refine .ret QB
def eL(a0:aa):Option Bool:=bindO (bindO (jL a0) λ(y1:Bool)=>if y1=true then bindO (iM a0 77 99000) λ(y2:Bool)=>some y2 else some false) λ(v1:Bool)=>some v1
theorem sp_Split_c2_spec{a0:aa}{y:Bool}(h:eL a0=some y):Spec gP 47 [.agg (cG a0)] (.d (.bool y)):=by
 refine auB Tryz.func47 (λy:Bool=>.d (.bool y)) ?_ h
 unfold eL
 refine .sB ?_
 refine .seqK (Mir.joinO (λv1:Bool=>([U,U,.d (.bool v1)]++us 6)) (λv1=>⟨[(cG a0)],[]⟩) (λ_=>rfl) ?_ ?_)
 refine .bind λy1 hy1=>.ite (λhb2=>?_) (λhb2=>?_)
 refine .bind λy2 hy3=>.region λe h=>?_
 simp only[seval,EMB,hb2]
 refine SpecS.by (fB hy1) (by simp only[seval,FMB,hb2]) ?_
 simp only[seval,EMB,hb2]
 refine SpecS.by (bJ hy3) (by simp only[seval,FMB,hb2]) ?_
 simp only[seval,EMB,hb2]
 cases h
 simp only[seval,FMB,hb2]
 refine .region λe h=>?_
 simp only[seval,EMB,hb2]
 refine SpecS.by (fB hy1) (by simp only[seval,FMB,hb2]) ?_
 simp only[seval,EMB,hb2]
 cases h
 simp only[seval,FMB,hb2]
 intro v1
 refine Mir.toK (.ret QB)
def df(a0:aE):Option Bool:=bindO (bindO (bindX (az (okIdx a0.Blocks) ( aI (λ(i1:Nat) (e1:aa) (v1:Unit)=>bindO (dB e1) λ(y1:Bool)=>if y1=true then some (.ret (.ret (i1:Int)))else some (.go ())) (λ(v1:Unit)=>some (.go ())) a0.Blocks 0 ())) λ(v2:Unit)=>some (-1)) λ(v3:Int)=>some (decide (v3≥0))) λ(v4:Bool)=>some v4
theorem sp_ordered_c1_spec{a0:aE}{y:Bool}(h:df a0=some y):Spec gP 95 [.agg (cK a0)] (.d (.bool y)):=by
 refine auB Tryz.func95 (λy:Bool=>.d (.bool y)) ?_ h
 unfold df
 refine .sB ?_
 refine .seqK (.bind λv4 hv72=>.region λe h=>WB ?_)
 refine SpecS.inl Tryz.func92 rfl (by kernel_rfl) (by kernel_rfl) (λv4:Bool=>.d (.bool v4)) (λv4=>⟨[(cK a0)],[]⟩) hv72 rfl ?_ ?_
 simp only[zB,zE,nS,nA,Tryz.ntmps92,SV]
 refine .sB ?_
 refine .seqK (.bind λv3 h1=>.region λe h=>WB ?_)
 refine SpecS.inl Tryz.func42 rfl (by kernel_rfl) (by kernel_rfl) (λv3:Int=>.d (.int .i64 v3)) (λv3=>⟨[(cK a0)],[]⟩) h1 rfl ?_ ?_
 simp only[zB,zE,nS,nA,Tryz.ntmps42,SV]
 refine .sB ?_
 refine .seqK (.sB ?_)
 refine Mir.join (λv2:Unit=>(us 19)) (λv2=>⟨[(cK a0)],[]⟩) (λ_=>rfl) ?_ ?_
 refine .block (.guard λq1=>Mir.range (λ(i1:Nat) (v1:Unit)=>([.d (.list (zA ac a0.Blocks)),.fn 93 [],U,U,U,U,U,.d (.int .i64 (a0.Blocks.length:Int)),.d (.int .i64 (i1:Int))]++us 10)) (λi1 v1=>⟨[(cK a0)],[]⟩) q1 (λ_ _=>rfl) (by simp only[seval,FMB,zNI]) (by simp only[seval,FMB,zNI]) ?_ ?_)
 intro i1 e1 v1 q2
 refine .sR λe h=>?_
 simp only[seval,EMB,q2]
 refine mU e (.seqK (.condT rfl (.skip (Mir.toK (.seqK (.block (.sB ?_))))))) h
 refine .seqK (.bind λy1 h2=>.region λe h=>?_)
 simp only[seval,EMB,q2,zD]
 refine .byB (dA h2) (mB ?_ h)
 refine .cond rfl (λh3=>?_) (λh3=>?_)
 refine .sB ?_
 refine .ret QB
 refine .skip (Mir.toB (Mir.toK (.region λe h=>?_)))
 simp only[seval,EMB]
 cases h
 simp only[seval,FMB,q2]
 intro v1 q3
 refine .sR λe h=>?_
 simp only[seval,EMB,q3]
 refine mU e (.seqK (.condF rfl (.exit QB))) h
 intro v2
 refine Mir.toK (.sB ?_)
 refine .ret QB
 simp only[seval,EMB]
 refine mU e (.ret QB) h
 simp only[seval,EMB]
 refine mU e (.ret QB) h
def fK(a0:aA):Option Bool:=bindO (if (decide ((zM.wrap ((a0.Main.length:Int)-1))<0))=true then some true else bindO (gt a0.Main (zM.wrap ((a0.Main.length:Int)-1))) λ(e1:aa)=>bindO (iM e1 77 30000) λ(y1:Bool)=>if y1=true then bindO (cu e1 79) λ(y2:(List Int))=>if (decide ((y2.length:Int)>0))=true then some true else bindO (iM e1 77 99000) λ(y3:Bool)=>if y3=true then some true else bindO (cutT a0.Main (zM.wrap ((a0.Main.length:Int)-1))) λ(s1:(List aa))=>bindO (bindO (bindX (az (okIdx s1) ( aI (λ(i1:Nat) (e2:aa) (v1:Unit)=>bindO (dB e2) λ(y4:Bool)=>if y4=true then some (.ret (.ret (i1:Int)))else some (.go ())) (λ(v1:Unit)=>some (.go ())) s1 0 ())) λ(v2:Unit)=>some (-1)) λ(v3:Int)=>some (decide (v3≥0))) λ(v4:Bool)=>some v4 else some true) λ(v5:Bool)=>if v5=true then some false else bindO (bindO (bindX (az (okIdx a0.Subs) ( aI (λ(i2:Nat) (e3:aE) (v6:Unit)=>bindO (df e3) λ(y5:Bool)=>if y5=true then some (.ret (.ret (i2:Int)))else some (.go ())) (λ(v6:Unit)=>some (.go ())) a0.Subs 0 ())) λ(v7:Unit)=>some (-1)) λ(v8:Int)=>some (decide (v8≥0))) λ(v9:Bool)=>some (!v9)
theorem fU{a0:aA}{y:Bool}(h:fK a0=some y):Spec gP 49 [.agg (cL a0)] (.d (.bool y)):=by
 refine auB Tryz.func49 (λy:Bool=>.d (.bool y)) ?_ h
 unfold fK
 refine .sB ?_
 refine .sB ?_
 refine .seqK (.seqK (Mir.joinO (λv5:Bool=>([U,.ptr 0 0,U,U,U,U,U,U,U,U,U,U,U,U,U,U,U,U,U,U,U,U,U,U,U,U,U,U,U,U,U,U,U,U,U,U,U,U,U,U,U,U,U,.d (.bool v5)]++us 4)) (λv5=>⟨[(cL a0)],[]⟩) (λ_=>rfl) ?_ ?_))
 refine .ite (λhb1=>?_) (λhb1=>?_)
 refine .region λe h=>?_
 simp only[seval,EMB,hb1]
 cases h
 simp only[seval,FMB,hb1]
 refine .bind λe1 q2=>?_
 replace q2:=gt_ok q2
 refine .bind λy1 hy3=>.ite (λhb4=>?_) (λhb4=>?_)
 refine .bind λy2 hy5=>.ite (λhb6=>?_) (λhb6=>?_)
 refine .region λe h=>?_
 simp only[seval,EMB,q2,hb1,hb4,hb6]
 refine SpecS.by (bJ hy3) (by simp only[seval,FMB,hb1,hb4,hb6]) ?_
 simp only[seval,EMB,q2,hb1,hb4,hb6]
 refine SpecS.by (bE hy5) (by simp only[seval,FMB,hb1,hb4,hb6]) ?_
 simp only[seval,EMB,hb1,hb4,hb6]
 cases h
 simp only[seval,FMB,hb1,hb4,hb6]
 refine .bind λy3 hy7=>.ite (λhb8=>?_) (λhb8=>?_)
 refine .region λe h=>?_
 simp only[seval,EMB,q2,hb1,hb4,hb6,hb8]
 refine SpecS.by (bJ hy3) (by simp only[seval,FMB,hb1,hb4,hb6,hb8]) ?_
 simp only[seval,EMB,q2,hb1,hb4,hb6,hb8]
 refine SpecS.by (bE hy5) (by simp only[seval,FMB,hb1,hb4,hb6,hb8]) ?_
 simp only[seval,EMB,q2,hb1,hb4,hb6,hb8]
 refine SpecS.by (bJ hy7) (by simp only[seval,FMB,hb1,hb4,hb6,hb8]) ?_
 simp only[seval,EMB,hb1,hb4,hb6,hb8]
 cases h
 simp only[seval,FMB,hb1,hb4,hb6,hb8]
 refine .bind λs1 q9=>?_
 replace q9:=cutT_ok q9
 refine .bind λv4 hv81=>.region λe h=>?_
 simp only[seval,EMB,q2,hb1,hb4,hb6,hb8]
 refine SpecS.by (bJ hy3) (by simp only[seval,FMB,hb1,hb4,hb6,hb8]) ?_
 simp only[seval,EMB,q2,hb1,hb4,hb6,hb8]
 refine SpecS.by (bE hy5) (by simp only[seval,FMB,hb1,hb4,hb6,hb8]) ?_
 simp only[seval,EMB,q2,hb1,hb4,hb6,hb8]
 refine SpecS.by (bJ hy7) (by simp only[seval,FMB,hb1,hb4,hb6,hb8]) ?_
 simp only[seval,EMB,q9,zH,and_true,true_and,dm,tm,hb1,hb4,hb6,hb8]
 refine SpecS.inl Tryz.func92 rfl (by kernel_rfl) (by kernel_rfl) (λv4:Bool=>.d (.bool v4)) (λv4=>⟨[(cL a0)],[]⟩) hv81 rfl ?_ ?_
 simp only[zB,zE,nS,nA,Tryz.ntmps92,SV]
 refine .sB ?_
 refine .seqK (.bind λv3 h1=>.region λe h=>WB ?_)
 refine SpecS.inl Tryz.func42 rfl (by kernel_rfl) (by kernel_rfl) (λv3:Int=>.d (.int .i64 v3)) (λv3=>⟨[(cL a0)],[]⟩) h1 rfl ?_ ?_
 simp only[zB,zE,nS,nA,Tryz.ntmps42,SV]
 refine .sB ?_
 refine .seqK (.sB ?_)
 refine Mir.join (λv2:Unit=>(us 19)) (λv2=>⟨[(cL a0)],[]⟩) (λ_=>rfl) ?_ ?_
 refine .block (.guard λq1=>Mir.range (λ(i1:Nat) (v1:Unit)=>([.d (.list (zA ac s1)),.fn 93 [],U,U,U,U,U,.d (.int .i64 (s1.length:Int)),.d (.int .i64 (i1:Int))]++us 10)) (λi1 v1=>⟨[(cL a0)],[]⟩) q1 (λ_ _=>rfl) (by simp only[seval,FMB,zNI]) (by simp only[seval,FMB,zNI]) ?_ ?_)
 intro i1 e2 v1 q3
 refine .sR λe h=>?_
 simp only[seval,EMB,q3]
 refine mU e (.seqK (.condT rfl (.skip (Mir.toK (.seqK (.block (.sB ?_))))))) h
 refine .seqK (.bind λy4 h2=>.region λe h=>?_)
 simp only[seval,EMB,q3,zD]
 refine .byB (dA h2) (mB ?_ h)
 refine .cond rfl (λh3=>?_) (λh3=>?_)
 refine .sB ?_
 refine .ret QB
 refine .skip (Mir.toB (Mir.toK (.region λe h=>?_)))
 simp only[seval,EMB]
 cases h
 simp only[seval,FMB,q3]
 intro v1 q4
 refine .sR λe h=>?_
 simp only[seval,EMB,q4]
 refine mU e (.seqK (.condF rfl (.exit QB))) h
 intro v2
 refine Mir.toK (.sB ?_)
 refine .ret QB
 simp only[seval,EMB]
 refine mU e (.ret QB) h
 simp only[seval,EMB,hb1,hb4,hb6,hb8]
 cases h
 simp only[seval,FMB,hb1,hb4,hb6,hb8]
 refine .region λe h=>?_
 simp only[seval,EMB,q2,hb1,hb4]
 refine SpecS.by (bJ hy3) (by simp only[seval,FMB,hb1,hb4]) ?_
 simp only[seval,EMB,hb1,hb4]
 cases h
 simp only[seval,FMB,hb1,hb4]
 intro v5
 refine Mir.toK (.cond rfl (λh4=>?_) (λh4=>?_))
 refine .sB ?_
 refine .ret QB
 refine .skip (Mir.toK (.seqK (.bind λv9 h5=>.region λe h=>WB ?_)))
 refine SpecS.inl Tryz.func94 rfl (by kernel_rfl) (by kernel_rfl) (λv9:Bool=>.d (.bool v9)) (λv9=>⟨[(cL a0)],[]⟩) h5 rfl ?_ ?_
 simp only[zB,zE,nS,nA,Tryz.ntmps94,SV]
 refine .sB ?_
 refine .seqK (.bind λv8 h6=>.region λe h=>WB ?_)
 refine SpecS.inl Tryz.func127 rfl (by kernel_rfl) (by kernel_rfl) (λv8:Int=>.d (.int .i64 v8)) (λv8=>⟨[(cL a0)],[]⟩) h6 rfl ?_ ?_
 simp only[zB,zE,nS,nA,Tryz.ntmps127,SV]
 refine .sB ?_
 refine .seqK (.sB ?_)
 refine Mir.join (λv7:Unit=>(us 19)) (λv7=>⟨[(cL a0)],[]⟩) (λ_=>rfl) ?_ ?_
 refine .block (.guard λq5=>Mir.range (λ(i2:Nat) (v6:Unit)=>([.d (.list (zA aG a0.Subs)),.fn 95 [],U,U,U,U,U,.d (.int .i64 (a0.Subs.length:Int)),.d (.int .i64 (i2:Int))]++us 10)) (λi2 v6=>⟨[(cL a0)],[]⟩) q5 (λ_ _=>rfl) (by simp only[seval,FMB,zNI]) (by simp only[seval,FMB,zNI]) ?_ ?_)
 intro i2 e3 v6 q6
 refine .sR λe h=>?_
 simp only[seval,EMB,q6]
 refine mU e (.seqK (.condT rfl (.skip (Mir.toK (.seqK (.block (.sB ?_))))))) h
 refine .seqK (.bind λy5 h7=>.region λe h=>?_)
 simp only[seval,EMB,q6,zD]
 refine .byB (sp_ordered_c1_spec h7) (mB ?_ h)
 refine .cond rfl (λh8=>?_) (λh8=>?_)
 refine .sB ?_
 refine .ret QB
 refine .skip (Mir.toB (Mir.toK (.region λe h=>?_)))
 simp only[seval,EMB]
 cases h
 simp only[seval,FMB,q6]
 intro v6 q7
 refine .sR λe h=>?_
 simp only[seval,EMB,q7]
 refine mU e (.seqK (.condF rfl (.exit QB))) h
 intro v7
 refine Mir.toK (.sB ?_)
 refine .ret QB
 simp only[seval,EMB]
 refine mU e (.ret QB) h
 simp only[seval,EMB]
 refine mU e (.ret QB) h
def dL(a0:(List aE)):Option Bool:=bindX (az (okIdx a0) ( aI (λ(i1:Nat) (e1:aE) (v1:Unit)=>bindO (cutT a0 (i1:Int)) λ(s1:(List aE))=>bindO (bindO (bindX (az (okIdx s1) ( aI (λ(i2:Nat) (e2:aE) (v2:Unit)=>bindO (some ()) λ(v3:Unit)=>if (e1.Number==e2.Number)=true then some (.ret (.ret (i2:Int)))else some (.go ())) (λ(v2:Unit)=>some (.go ())) s1 0 ())) λ(v4:Unit)=>some (-1)) λ(v5:Int)=>some (decide (v5≥0))) λ(v6:Bool)=>if v6=true then some (.ret (.ret true))else some (.go ())) (λ(v1:Unit)=>some (.go ())) a0 0 ())) λ(v7:Unit)=>some false
theorem iL{a0:(List aE)}{y:Bool}(h:dL a0=some y):Spec gP 50 [.d (.list (zA aG a0))] (.d (.bool y)):=by
 refine auB Tryz.func50 (λy:Bool=>.d (.bool y)) ?_ h
 unfold dL
 refine .sB ?_
 refine .seqK (.sB ?_)
 refine Mir.join (λv7:Unit=>(us 18)) (λv7=>⟨[],[]⟩) (λ_=>rfl) ?_ ?_
 refine .block (.guard λq1=>Mir.range (λ(i1:Nat) (v1:Unit)=>([.d (.list (zA aG a0)),U,U,U,U,.d (.list (zA aG a0)),.d (.int .i64 (a0.length:Int)),.d (.int .i64 (i1:Int))]++us 10)) (λi1 v1=>⟨[],[]⟩) q1 (λ_ _=>rfl) (by simp only[seval,FMB,zNI]) (by simp only[seval,FMB,zNI]) ?_ ?_)
 intro i1 e1 v1 q2
 refine .sR λe h=>?_
 simp only[seval,EMB,q2]
 refine mU e (.seqK (.condT rfl (.skip (Mir.toK (.seqK (.block (.sR λe h=>?_))))))) h
 simp only[seval,EMB,q2,zD]
 refine mU e (.seqK (.bind λs1 q3=>?_)) h
 replace q3:=cutT_ok q3
 simp only[zD]at q3
 refine .bind λv6 h1=>.region λe h=>?_
 simp only[seval,EMB,q3,zH,and_true,true_and,dm,tm,zD]
 refine SpecS.inl Tryz.func94 rfl (by kernel_rfl) (by kernel_rfl) (λv6:Bool=>.d (.bool v6)) (λv6=>⟨[(cK e1)],[]⟩) h1 rfl ?_ ?_
 simp only[zB,zE,nS,nA,Tryz.ntmps94,SV]
 refine .sB ?_
 refine .seqK (.bind λv5 h2=>.region λe h=>WB ?_)
 refine SpecS.inl Tryz.func127 rfl (by kernel_rfl) (by kernel_rfl) (λv5:Int=>.d (.int .i64 v5)) (λv5=>⟨[(cK e1)],[]⟩) h2 rfl ?_ ?_
 simp only[zB,zE,nS,nA,Tryz.ntmps127,SV]
 refine .sB ?_
 refine .seqK (.sB ?_)
 refine Mir.join (λv4:Unit=>(us 19)) (λv4=>⟨[(cK e1)],[]⟩) (λ_=>rfl) ?_ ?_
 refine .block (.guard λq4=>Mir.range (λ(i2:Nat) (v2:Unit)=>([.d (.list (zA aG s1)),.fn 96 [.ptr 0 0],U,U,U,U,U,.d (.int .i64 (s1.length:Int)),.d (.int .i64 (i2:Int))]++us 10)) (λi2 v2=>⟨[(cK e1)],[]⟩) q4 (λ_ _=>rfl) (by simp only[seval,FMB,zNI]) (by simp only[seval,FMB,zNI]) ?_ ?_)
 intro i2 e2 v2 q5
 refine .sR λe h=>?_
 simp only[seval,EMB,q5]
 refine mU e (.seqK (.condT rfl (.skip (Mir.toK (.seqK (.block (.sB ?_))))))) h
 refine .seqK (.bind λv3 h3=>.region λe h=>?_)
 simp only[seval,EMB,q5,zD]
 refine SpecS.inl Tryz.func96 rfl (by kernel_rfl) (by kernel_rfl) (λv3:Unit=>.d (.bool (e1.Number==e2.Number))) (λv3=>⟨[(cK e1)],[]⟩) h3 rfl ?_ ?_
 simp only[zB,zE,nS,nA,Tryz.ntmps96,SV]
 refine .sB ?_
 refine .sB ?_
 refine .ret QB
 simp only[seval,EMB]
 refine mU e (.cond rfl (λh4=>?_) (λh4=>?_)) h
 refine .sB ?_
 refine .ret QB
 refine .skip (Mir.toB (Mir.toK (.region λe h=>?_)))
 simp only[seval,EMB]
 cases h
 simp only[seval,FMB,q5]
 intro v2 q6
 refine .sR λe h=>?_
 simp only[seval,EMB,q6]
 refine mU e (.seqK (.condF rfl (.exit QB))) h
 intro v4
 refine Mir.toK (.sB ?_)
 refine .ret QB
 simp only[seval,EMB]
 refine mU e (.ret QB) h
 simp only[seval,EMB]
 refine mU e (.cond rfl (λh5=>?_) (λh5=>?_)) h
 refine .sB ?_
 refine .ret QB
 refine .skip (Mir.toB (Mir.toK (.region λe h=>?_)))
 simp only[seval,EMB]
 cases h
 simp only[seval,FMB,q2]
 intro v1 q7
 refine .sR λe h=>?_
 simp only[seval,EMB,q7]
 refine mU e (.seqK (.condF rfl (.exit QB))) h
 intro v7
 refine Mir.toK (.sB ?_)
 refine .ret QB
def eS(a0:(List aa)):Option (aA×Int):=bindO (bindX (az (okIdx a0) ( aI (λ(i1:Nat) (e1:aa) (v1:Unit)=>bindO (dM e1) λ(y1:Bool)=>if y1=true then some (.ret (.ret (i1:Int)))else some (.go ())) (λ(v1:Unit)=>some (.go ())) a0 0 ())) λ(v2:Unit)=>some (-1)) λ(v3:Int)=>if (decide (v3<0))=true then some (aA.mk [] [],1)else bindO (cutT a0 (zM.wrap (v3+1))) λ(s1:(List aa))=>bindO (aC s1) λ(y2:(List aa))=>bindO (cutF a0 (zM.wrap (v3+1))) λ(s2:(List aa))=>bindX (loopX (λ(v4:(List aa)×(List aE))=>if (decide ((v4.1.length:Int)>0))=true then bindO (gt v4.1 0) λ(e2:aa)=>bindO (eX e2) λ(y3:Int×Bool)=>bindO (bindX (az (okIdx v4.1) ( aI (λ(i2:Nat) (e3:aa) (v5:Unit)=>bindO (eL e3) λ(y4:Bool)=>if y4=true then some (.ret (.ret (i2:Int)))else some (.go ())) (λ(v5:Unit)=>some (.go ())) v4.1 0 ())) λ(v6:Unit)=>some (-1)) λ(v7:Int)=>if (!y3.2||(decide (v7<0)))=true then some (.ret (.ret (aA.mk [] [],1)))else bindO (cutL v4.1 1 v7) λ(s3:(List aa))=>bindO (aC s3) λ(y5:(List aa))=>az (okLen (v4.2.length+1)) ( bindO (cutF v4.1 (zM.wrap (v7+1))) λ(s4:(List aa))=>some (.go (s4,v4.2++[aE.mk y3.1 y5])))else some (.ret (.go v4.2))) fuel (s2,[])) λ(v8:(List aE))=>bindO (fK (aA.mk y2 v8)) λ(y6:Bool)=>if (!y6)=true then some (aA.mk [] [],1)else bindO (dL v8) λ(y7:Bool)=>if y7=true then some (aA.mk [] [],5)else some (aA.mk y2 v8,0)
theorem sp_Split_spec{a0:(List aa)}{y:aA×Int}(h:eS a0=some y):Spec gP 18 [.d (.list (zA ac a0))] (.tuple [.agg [.d (.list (zA ac y.1.Main)),.d (.list (zA aG y.1.Subs))],.d (.int .i64 y.2)]):=by
 refine auB Tryz.func18 (λy:aA×Int=>.tuple [.agg [.d (.list (zA ac y.1.Main)),.d (.list (zA aG y.1.Subs))],.d (.int .i64 y.2)]) ?_ h
 unfold eS
 refine .sB ?_
 refine .seqK (.bind λv3 hv71=>.region λe h=>WB ?_)
 refine SpecS.inl Tryz.func42 rfl (by kernel_rfl) (by kernel_rfl) (λv3:Int=>.d (.int .i64 v3)) (λv3=>⟨[[.nil,.nil]],[]⟩) hv71 rfl ?_ ?_
 simp only[zB,zE,nS,nA,Tryz.ntmps42,SV]
 refine .sB ?_
 refine .seqK (.sB ?_)
 refine Mir.join (λv2:Unit=>(us 19)) (λv2=>⟨[[.nil,.nil]],[]⟩) (λ_=>rfl) ?_ ?_
 refine .block (.guard λq1=>Mir.range (λ(i1:Nat) (v1:Unit)=>([.d (.list (zA ac a0)),.fn 43 [],U,U,U,U,U,.d (.int .i64 (a0.length:Int)),.d (.int .i64 (i1:Int))]++us 10)) (λi1 v1=>⟨[[.nil,.nil]],[]⟩) q1 (λ_ _=>rfl) (by simp only[seval,FMB,zNI]) (by simp only[seval,FMB,zNI]) ?_ ?_)
 intro i1 e1 v1 q2
 refine .sR λe h=>?_
 simp only[seval,EMB,q2]
 refine mU e (.seqK (.condT rfl (.skip (Mir.toK (.seqK (.block (.sB ?_))))))) h
 refine .seqK (.bind λy1 h1=>.region λe h=>?_)
 simp only[seval,EMB,q2,zD]
 refine .byB (sp_Split_c1_spec h1) (mB ?_ h)
 refine .cond rfl (λh2=>?_) (λh2=>?_)
 refine .sB ?_
 refine .ret QB
 refine .skip (Mir.toB (Mir.toK (.region λe h=>?_)))
 simp only[seval,EMB]
 cases h
 simp only[seval,FMB,q2]
 intro v1 q3
 refine .sR λe h=>?_
 simp only[seval,EMB,q3]
 refine mU e (.seqK (.condF rfl (.exit QB))) h
 intro v2
 refine Mir.toK (.sB ?_)
 refine .ret QB
 simp only[seval,EMB]
 refine mU e (.seqK (.sB ?_)) h
 refine .cond rfl (λh3=>?_) (λh3=>?_)
 refine .sB ?_
 refine .ret QB
 refine .skip (Mir.toK (.seqK (.bind λs1 q4=>?_)))
 replace q4:=cutT_ok q4
 refine .bind λy2 h4=>.region λe h=>?_
 simp only[seval,EMB,q4,zH,and_true,true_and,dm,tm]
 refine .byB (bf h4) (mB ?_ h)
 refine .seqK (.bind λs2 q5=>?_)
 replace q5:=kF q5
 refine .region λe h=>?_
 simp only[seval,EMB,q5,zH,and_true,true_and,dm,tm]
 refine mU e (.seqK (.gh [.cell 1 1 119] rfl (Mir.join (λv8:(List aE)=>([U,U,.ptr 0 0,U,U,.ptr 1 0]++us 62)) (λv8=>⟨[[.nil,.nil],[.d (.list (zA ac y2)),.own 0 (zA aG v8)]],[(119,v8.length)]⟩) (λ_=>rfl) ?_ ?_))) h
 refine .block (Mir.loop (λv4:(List aa)×(List aE)=>([U,U,.ptr 0 0,U,U,.ptr 1 0,.d (.list (zA ac v4.1))]++us 61)) (λv4=>⟨[[.nil,.nil],[.d (.list (zA ac y2)),.own 0 (zA aG v4.2)]],[(119,v4.2.length)]⟩) (λ_=>rfl) (by simp only[seval,FMB]) (by simp only[seval,FMB]) λv4=>.seqK (.sB ?_))
 refine .cond rfl (λh5=>?_) (λh5=>?_)
 refine .skip (Mir.toK (.block (.seqK (.bind λe2 q6=>?_))))
 replace q6:=gt_ok q6
 simp only[zI,zJ,zK,dp0]at q6
 refine .bind λy3 h6=>.region λe h=>?_
 simp only[seval,EMB,q6]
 refine .byB (sp_beginning_spec h6) (mB ?_ h)
 refine .seqK (.bind λv7 h7=>.region λe h=>WB ?_)
 refine SpecS.inl Tryz.func42 rfl (by kernel_rfl) (by kernel_rfl) (λv7:Int=>.d (.int .i64 v7)) (λv7=>⟨[[.nil,.nil],[.d (.list (zA ac y2)),.own 0 (zA aG v4.2)]],[(119,v4.2.length)]⟩) h7 rfl ?_ ?_
 simp only[zB,zE,nS,nA,Tryz.ntmps42,SV]
 refine .sB ?_
 refine .seqK (.sB ?_)
 refine Mir.join (λv6:Unit=>(us 19)) (λv6=>⟨[[.nil,.nil],[.d (.list (zA ac y2)),.own 0 (zA aG v4.2)]],[(119,v4.2.length)]⟩) (λ_=>rfl) ?_ ?_
 refine .block (.guard λq7=>Mir.range (λ(i2:Nat) (v5:Unit)=>([.d (.list (zA ac v4.1)),.fn 47 [],U,U,U,U,U,.d (.int .i64 (v4.1.length:Int)),.d (.int .i64 (i2:Int))]++us 10)) (λi2 v5=>⟨[[.nil,.nil],[.d (.list (zA ac y2)),.own 0 (zA aG v4.2)]],[(119,v4.2.length)]⟩) q7 (λ_ _=>rfl) (by simp only[seval,FMB,zNI]) (by simp only[seval,FMB,zNI]) ?_ ?_)
 intro i2 e3 v5 q8
 refine .sR λe h=>?_
 simp only[seval,EMB,q8]
 refine mU e (.seqK (.condT rfl (.skip (Mir.toK (.seqK (.block (.sB ?_))))))) h
 refine .seqK (.bind λy4 h8=>.region λe h=>?_)
 simp only[seval,EMB,q8,zD]
 refine .byB (sp_Split_c2_spec h8) (mB ?_ h)
 refine .cond rfl (λh9=>?_) (λh9=>?_)
 refine .sB ?_
 refine .ret QB
 refine .skip (Mir.toB (Mir.toK (.region λe h=>?_)))
 simp only[seval,EMB]
 cases h
 simp only[seval,FMB,q8]
 intro v5 q9
 refine .sR λe h=>?_
 simp only[seval,EMB,q9]
 refine mU e (.seqK (.condF rfl (.exit QB))) h
 intro v6
 refine Mir.toK (.sB ?_)
 refine .ret QB
 simp only[seval,EMB]
 refine mU e (.seqK (.seqK (.joinV ([U,U,.ptr 0 0,U,U,.ptr 1 0,.d (.list (zA ac v4.1)),.d (.int .i64 y3.1),U,.d (.int .i64 v7),U,U,U,U,U,U,U,U,U,U,U,U,U,U,U,U,U,U,U,U,U,U,U,U,U,U,U,U,U,U,U,U,.d (.bool (!y3.2||(decide (v7<0))))]++us 25) ⟨[[.nil,.nil],[.d (.list (zA ac y2)),.own 0 (zA aG v4.2)]],[(119,v4.2.length)]⟩ rfl ?_ ?_))) h
 refine SWs.region ?_
 rcases zF (y3.2)with h10 | h10
 simp only[seval,EMB,SL,PB,h10]
 simp only[seval,EMB,SL,PB,h10]
 refine Mir.toK (.cond rfl (λh11=>?_) (λh11=>?_))
 refine .sB ?_
 refine .ret QB
 refine .skip (Mir.toK (.seqK (.bind λs3 q10=>?_)))
 replace q10:=cutL_ok q10
 simp only[zI,zJ,zK,dp0]at q10
 refine .bind λy5 h12=>.guard λq11=>.regionD [] (by kernel_rfl) λe h=>?_
 simp only[seval,EMB,SB,q10,zH,and_true,true_and,dm,tm]
 refine Spec.by (bf h12) (by simp only[seval,FMB]) ?_
 simp only[seval,EMB,SB,(oL 2),q11]
 refine mU e (.bind λs4 q12=>?_) h
 replace q12:=kF q12
 refine .region λe h=>?_
 simp only[seval,EMB,q12,zH,and_true,true_and,dm,tm]
 cases h
 simp only[seval,FMB]
 refine .exit QB
 intro v8
 refine Mir.toK (.seqK (.seqK (.bind λy6 h13=>.region λe h=>WB ?_)))
 refine .byB (fU h13) (mB ?_ h)
 refine .cond rfl (λh14=>?_) (λh14=>?_)
 refine .sB ?_
 refine .ret QB
 refine .skip (Mir.toK (.seqK (.seqK (.bind λy7 h15=>.region λe h=>WB ?_))))
 refine .byB (iL h15) (mB ?_ h)
 refine .cond rfl (λh16=>?_) (λh16=>?_)
 refine .sB ?_
 refine .ret QB
 refine .skip (Mir.toK (.sB ?_))
 refine .ret QB
def gN(a0:aA):Option Bool:=bindX (az (okIdx a0.Subs) ( aI (λ(i1:Nat) (e1:aE) (v1:Unit)=>if ((decide (e1.Number<1))||(decide (e1.Number>9999)))=true then some (.ret (.ret false))else some (.go ())) (λ(v1:Unit)=>some (.go ())) a0.Subs 0 ())) λ(v2:Unit)=>bindO (bindO (fK a0) λ(y1:Bool)=>if y1=true then bindO (dL a0.Subs) λ(y2:Bool)=>some (!y2)else some false) λ(v3:Bool)=>some v3
theorem sp_proper_spec{a0:aA}{y:Bool}(h:gN a0=some y):Spec gP 128 [.agg (cL a0)] (.d (.bool y)):=by
 refine auB Tryz.func128 (λy:Bool=>.d (.bool y)) ?_ h
 unfold gN
 refine .sB ?_
 refine .seqK (.sB ?_)
 refine Mir.join (λv2:Unit=>([U,.ptr 0 0]++us 27)) (λv2=>⟨[(cL a0)],[]⟩) (λ_=>rfl) ?_ ?_
 refine .block (.guard λqg65=>Mir.range (λ(i1:Nat) (v1:Unit)=>([U,.ptr 0 0,U,U,U,U,.d (.list (zA aG a0.Subs)),.d (.int .i64 (a0.Subs.length:Int)),.d (.int .i64 (i1:Int))]++us 20)) (λi1 v1=>⟨[(cL a0)],[]⟩) qg65 (λ_ _=>rfl) (by simp only[seval,FMB,zNI]) (by simp only[seval,FMB,zNI]) ?_ ?_)
 intro i1 e1 v1 qr63
 refine .sR λe h=>?_
 simp only[seval,EMB,qr63]
 refine mU e (.seqK (.condT rfl (.skip (Mir.toK (.seqK (.block (.sR λe h=>?_))))))) h
 simp only[seval,EMB,qr63,zD]
 refine mU e (.seqK (.joinV ([U,.ptr 0 0,U,U,U,U,.d (.list (zA aG a0.Subs)),.d (.int .i64 (a0.Subs.length:Int)),.d (.int .i64 (i1:Int)),U,U,U,U,U,U,U,U,U,U,.d (.bool ((decide (e1.Number<1))||(decide (e1.Number>9999))))]++us 9) ⟨[(cL a0),(cK e1)],[]⟩ rfl ?_ ?_)) h
 refine SWs.region ?_
 rcases zF (decide (e1.Number<1))with hb68 | hb68
 simp only[seval,EMB,SL,PB,hb68]
 simp only[seval,EMB,SL,PB,hb68]
 refine Mir.toK (.cond rfl (λhb70=>?_) (λhb70=>?_))
 refine .sB ?_
 refine .ret QB
 refine .skip (Mir.toB (Mir.toK (.region λe h=>?_)))
 simp only[seval,EMB]
 cases h
 simp only[seval,FMB,qr63]
 intro v1 qd64
 refine .sR λe h=>?_
 simp only[seval,EMB,qd64]
 refine mU e (.seqK (.condF rfl (.exit QB))) h
 intro v2
 refine Mir.toK (.seqK (Mir.joinO (λv3:Bool=>([U,U,.d (.bool v3)]++us 26)) (λv3=>⟨[(cL a0)],[]⟩) (λ_=>rfl) ?_ ?_))
 refine .bind λy1 hy71=>.ite (λhb72=>?_) (λhb72=>?_)
 refine .bind λy2 hy73=>.region λe h=>?_
 simp only[seval,EMB,hb72]
 refine SpecS.by (fU hy71) (by simp only[seval,FMB,hb72]) ?_
 simp only[seval,EMB,hb72]
 refine SpecS.by (iL hy73) (by simp only[seval,FMB,hb72]) ?_
 simp only[seval,EMB,hb72]
 cases h
 simp only[seval,FMB,hb72]
 refine .region λe h=>?_
 simp only[seval,EMB,hb72]
 refine SpecS.by (fU hy71) (by simp only[seval,FMB,hb72]) ?_
 simp only[seval,EMB,hb72]
 cases h
 simp only[seval,FMB,hb72]
 intro v3
 refine Mir.toK (.ret QB)
def aO(a0:(List (List aa))):Option (List aa):=bindO (az (okIdx a0) ( aI (λ(i1:Nat) (e1:(List aa)) (v1:Int)=>if (decide ((zM.wrap (v1+(e1.length:Int)))<0))=true then none else some (.go (zM.wrap (v1+(e1.length:Int))))) (λ(v1:Int)=>some v1) a0 0 0)) λ(v2:Int)=>az (decide (0≤v2∧v2≤16777216)) ( bindO (az (okIdx a0) ( aI (λ(i2:Nat) (e2:(List aa)) (v3:(List aa))=>az (okLen (v3.length+e2.length)) ( some (.go (v3++e2)))) (λ(v3:(List aa))=>some v3) a0 0 [])) λ(v4:(List aa))=>some v4)
theorem dg{a0:(List (List aa))}{y:(List aa)}(h:aO a0=some y):Spec gP 129 [.d (.list (zA (eList ac) a0))] (.d (.list (zA ac y))):=by
 refine auB Tryz.func129 (λy:(List aa)=>.d (.list (zA ac y))) ?_ h
 unfold aO
 refine .sR λe h=>?_
 simp only[seval,EMB,eList]
 refine mU e (.sR λe h=>?_) h
 simp only[seval,EMB,eList]
 refine mU e (.seqK (.sR λe h=>?_)) h
 simp only[seval,EMB,eList]
 refine mU e (Mir.joinO (λv2:Int=>([.d (.list (zA (eList ac) a0)),U,U,.d (.int .i64 v2)]++us 32)) (λv2=>⟨[],[]⟩) (λ_=>rfl) ?_ ?_) h
 refine .block (.guard λqg51=>Mir.range (λ(i1:Nat) (v1:Int)=>([.d (.list (zA (eList ac) a0)),U,U,.d (.int .i64 v1),U,U,U,U,U,.d (.list (zA (eList ac) a0)),.d (.int .i64 (a0.length:Int)),.d (.int .i64 (i1:Int))]++us 24)) (λi1 v1=>⟨[],[]⟩) qg51 (λ_ _=>rfl) (by simp only[seval,FMB,eList,zNI]) (by simp only[seval,FMB,eList,zNI]) ?_ ?_)
 intro i1 e1 v1 qr49
 refine .sR λe h=>?_
 simp only[seval,EMB,qr49,eList]
 refine mU e (.seqK (.condT rfl (.skip (Mir.toK (.seqK (.block (.sR λe h=>?_))))))) h
 simp only[seval,EMB,qr49,zD,eList]
 refine mU e (.sR λe h=>?_) h
 simp only[seval,EMB,eList]
 refine mU e (.sR λe h=>?_) h
 simp only[seval,EMB,eList]
 refine mU e (.cond rfl (λhb54=>?_) (λhb54=>?_)) h
 exact Mir.no
 refine .skip (Mir.toB (Mir.toK (.region λe h=>?_)))
 simp only[seval,EMB,eList]
 cases h
 simp only[seval,FMB,eList,qr49]
 intro v1 qd50
 refine .sR λe h=>?_
 simp only[seval,EMB,qd50,eList]
 refine mU e (.seqK (.condF rfl (.exit λe h=>?_))) h
 cases h
 simp only[seval,FMB,eList]
 intro v2
 refine Mir.toK (.seqK (.guard λq55=>.region λe h=>?_))
 simp only[seval,EMB,eList]
 refine grow_S q55 ?_
 simp only[seval,EMB,eList]
 refine mU e (.seqK (.sR λe h=>?_)) h
 simp only[seval,EMB,eList]
 refine mU e (Mir.joinO (λv4:(List aa)=>([U,U,U,U,U,U,.own 0 (zA ac v4)]++us 29)) (λv4=>⟨[],[(96,v4.length)]⟩) (λ_=>rfl) ?_ ?_) h
 refine .block (.guard λqg99=>Mir.range (λ(i2:Nat) (v3:(List aa))=>([U,U,U,U,U,U,.own 0 (zA ac v3),U,U,U,U,U,U,U,U,U,U,U,U,U,U,U,U,U,U,.d (.list (zA (eList ac) a0)),.d (.int .i64 (a0.length:Int)),.d (.int .i64 (i2:Int))]++us 8)) (λi2 v3=>⟨[],[(96,v3.length)]⟩) qg99 (λ_ _=>rfl) (by simp only[seval,FMB,eList,zNI]) (by simp only[seval,FMB,eList,zNI]) ?_ ?_)
 intro i2 e2 v3 qr97
 refine .sR λe h=>?_
 simp only[seval,EMB,qr97,eList]
 refine mU e (.seqK (.condT rfl (.skip (Mir.toK (.seqK (.block (.sR λe h=>?_))))))) h
 simp only[seval,EMB,qr97,zD,eList]
 refine mU e (.guard λq1=>.region λe h=>?_) h
 simp only[seval,EMB,q1,eList]
 refine mU e (.region λe h=>?_) h
 simp only[seval,EMB,eList]
 cases h
 simp only[seval,FMB,eList,qr97]
 intro v3 qd98
 refine .sR λe h=>?_
 simp only[seval,EMB,qd98,eList]
 refine mU e (.seqK (.condF rfl (.exit λe h=>?_))) h
 cases h
 simp only[seval,FMB,eList]
 intro v4
 refine Mir.toK (.sR λe h=>?_)
 simp only[seval,EMB,eList]
 refine mU e (.ret λe h=>?_) h
 cases h
 simp only[seval,FMB,eList]
def dN(a0:aa):Option (Int×Int×Bool×Int):=bindO (iM a0 77 98000) λ(y1:Bool)=>if (!y1)=true then some (0,0,false,0)else bindO (az (okIdx a0.Words) ( aI (λ(i1:Nat) (e1:ap) (v1:Int×Int×Bool×(List (Int×Int)))=>bindO (bindO (sp_whole e1.Value) λ(y2:Int×Bool)=>if (e1.Letter==80)=true then some (y2.1,v1.2.1,v1.2.2.1&&y2.2)else if (e1.Letter==76)=true then some (v1.1,y2.1,v1.2.2.1&&y2.2)else bindO (if (e1.Letter==77)=true then some (e1.Letter==77)else some (e1.Letter==78)) λ(v2:Bool)=>if v2=true then some (v1.1,v1.2.1,v1.2.2.1)else some (v1.1,v1.2.1,false)) λ(v3:Int×Int×Bool)=>some (.go (v3.1,v3.2.1,v3.2.2,mput v1.2.2.2 e1.Letter (zM.wrap (((mget v1.2.2.2 e1.Letter).getD 0)+1))))) (λ(v1:Int×Int×Bool×(List (Int×Int)))=>some (v1.1,v1.2.1,v1.2.2.1,v1.2.2.2)) a0.Words 0 (0,1,true,[]))) λ(v4:Int×Int×Bool×(List (Int×Int)))=>bindO (if v4.2.2.1=true then if (((mget v4.2.2.2 77).getD 0) != 1)=true then some true else if (((mget v4.2.2.2 80).getD 0) != 1)=true then some true else if (decide (((mget v4.2.2.2 76).getD 0)>1))=true then some true else some (decide (((mget v4.2.2.2 78).getD 0)>1))else some true) λ(v5:Bool)=>if v5=true then some (0,0,false,1)else some (v4.1,v4.2.1,true,0)
theorem dX{a0:aa}{y:Int×Int×Bool×Int}(h:dN a0=some y):Spec gP 99 [.agg (cG a0)] (.tuple [.d (.int .i64 y.1),.d (.int .i64 y.2.1),.d (.bool y.2.2.1),.d (.int .i64 y.2.2.2)]):=by
 refine auB Tryz.func99 (λy:Int×Int×Bool×Int=>.tuple [.d (.int .i64 y.1),.d (.int .i64 y.2.1),.d (.bool y.2.2.1),.d (.int .i64 y.2.2.2)]) ?_ h
 unfold dN
 refine .sB ?_
 refine .seqK (.seqK (.bind λy1 hy1=>.region λe h=>WB ?_))
 refine .byB (bJ hy1) (mB ?_ h)
 refine .cond rfl (λhb3=>?_) (λhb3=>?_)
 refine .sB ?_
 refine .ret QB
 refine .skip (Mir.toK (.seqK (.regionW λe h=>regW.alt 0 rfl ?_)))
 simp only[seval,EMB,al,w_eq]
 refine c8 .u8 (regW.of ?_)
 simp only[seval,EMB,al,w_eq,xMN]
 refine mU e (.sB ?_) h
 refine .seqK (.sB ?_)
 refine Mir.joinO (λv4:Int×Int×Bool×(List (Int×Int))=>([U,U,U,U,U,U,.mp 1,.d (.int .i64 v4.1),.d (.int .i64 v4.2.1),.d (.bool v4.2.2.1)]++us 70)) (λv4=>⟨[(cG a0),[.mapc .u8 (zA (ekv (evI .i64)) v4.2.2.2)]],[]⟩) (λ_=>rfl) ?_ ?_
 refine .block (.guard λq1=>Mir.range (λ(i1:Nat) (v1:Int×Int×Bool×(List (Int×Int)))=>([U,U,U,U,U,U,.mp 1,.d (.int .i64 v1.1),.d (.int .i64 v1.2.1),.d (.bool v1.2.2.1),U,U,U,U,U,U,U,U,U,.d (.list (zA ao a0.Words)),.d (.int .i64 (a0.Words.length:Int)),.d (.int .i64 (i1:Int))]++us 58)) (λi1 v1=>⟨[(cG a0),[.mapc .u8 (zA (ekv (evI .i64)) v1.2.2.2)]],[]⟩) q1 (λ_ _=>rfl) (by simp only[seval,FMB,zNI]) (by simp only[seval,FMB,zNI]) ?_ ?_)
 intro i1 e1 v1 q2
 refine .sR λe h=>?_
 simp only[seval,EMB,q2]
 refine mU e (.seqK (.condT rfl (.skip (Mir.toK (.seqK (Mir.joinO (λv3:Int×Int×Bool=>([U,U,U,U,U,U,.mp 1,.d (.int .i64 v3.1),.d (.int .i64 v3.2.1),.d (.bool v3.2.2),U,U,U,U,U,U,U,U,U,.d (.list (zA ao a0.Words)),.d (.int .i64 (a0.Words.length:Int)),.d (.int .i64 (i1:Int))]++us 58)) (λv3=>⟨[(cG a0),[.mapc .u8 (zA (ekv (evI .i64)) (mput v1.2.2.2 e1.Letter (zM.wrap (((mget v1.2.2.2 e1.Letter).getD 0)+1))))]],[]⟩) (λ_=>rfl) ?_ ?_)))))) h
 refine .block (.sR λe h=>?_)
 simp only[seval,EMB,q2,zD]
 refine mU e (.seqK (.regionW λe h=>regW.alt 3 rfl ?_)) h
 simp only[seval,EMB,al,w_eq]
 refine br rfl rfl rfl (by simp only[mapT,fh,und_5]) fP rfl (regW.alt 1 rfl ?_)
 simp only[seval,EMB,al,w_eq,mg_I]
 refine bP (et:=3) rfl rfl rfl rfl (by simp only[mapT,fh,und_5]) (regW.of ?_)
 simp only[seval,EMB,al,w_eq,mp_I]
 refine mU e (.seqK (.bind λy2 h1=>.region λe h=>WB ?_)) h
 refine .byB (sp_whole_spec h1) (mB ?_ h)
 refine .sB ?_
 refine .block (.sB ?_)
 refine .cond rfl (λh2=>?_) (λh2=>?_)
 refine .joinV ([U,U,U,U,U,U,.mp 1,.d (.int .i64 y2.1),.d (.int .i64 v1.2.1),.d (.bool (v1.2.2.1&&y2.2)),U,U,U,U,U,U,U,U,U,.d (.list (zA ao a0.Words)),.d (.int .i64 (a0.Words.length:Int)),.d (.int .i64 (i1:Int))]++us 58) ⟨[(cG a0),[.mapc .u8 (zA (ekv (evI .i64)) (mput v1.2.2.2 e1.Letter (zM.wrap (((mget v1.2.2.2 e1.Letter).getD 0)+1))))],(cJ e1)],[]⟩ rfl ?_ ?_
 refine SWs.region ?_
 rcases zF (v1.2.2.1)with h3 | h3
 simp only[seval,EMB,SL,PB,h3]
 simp only[seval,EMB,SL,PB,h3]
 intro e h
 cases h
 simp only[seval,FMB]
 refine .sB ?_
 refine .cond rfl (λh4=>?_) (λh4=>?_)
 refine .joinV ([U,U,U,U,U,U,.mp 1,.d (.int .i64 v1.1),.d (.int .i64 y2.1),.d (.bool (v1.2.2.1&&y2.2)),U,U,U,U,U,U,U,U,U,.d (.list (zA ao a0.Words)),.d (.int .i64 (a0.Words.length:Int)),.d (.int .i64 (i1:Int))]++us 58) ⟨[(cG a0),[.mapc .u8 (zA (ekv (evI .i64)) (mput v1.2.2.2 e1.Letter (zM.wrap (((mget v1.2.2.2 e1.Letter).getD 0)+1))))],(cJ e1)],[]⟩ rfl ?_ ?_
 refine SWs.region ?_
 rcases zF (v1.2.2.1)with h5 | h5
 simp only[seval,EMB,SL,PB,h5]
 simp only[seval,EMB,SL,PB,h5]
 intro e h
 cases h
 simp only[seval,FMB]
 refine .seqK (.sB ?_)
 refine Mir.joinO (λv2:Bool=>([U,U,U,U,U,U,.mp 1,.d (.int .i64 v1.1),.d (.int .i64 v1.2.1),.d (.bool v1.2.2.1),U,U,U,U,U,U,U,U,U,.d (.list (zA ao a0.Words)),.d (.int .i64 (a0.Words.length:Int)),.d (.int .i64 (i1:Int)),U,U,U,U,U,U,U,U,U,U,U,U,U,U,U,U,U,U,U,U,U,U,U,U,U,U,U,U,U,U,.d (.bool v2)]++us 27)) (λv2=>⟨[(cG a0),[.mapc .u8 (zA (ekv (evI .i64)) (mput v1.2.2.2 e1.Letter (zM.wrap (((mget v1.2.2.2 e1.Letter).getD 0)+1))))],(cJ e1)],[]⟩) (λ_=>rfl) ?_ ?_
 refine .cond rfl (λ_=>.skip QB) (λ_=>.rB)
 intro v2
 refine Mir.toK (.cond rfl (λ_=>.skip QB) (λ_=>.rB))
 intro v3
 refine Mir.toK (.region λe h=>?_)
 simp only[seval,EMB]
 cases h
 simp only[seval,FMB,q2]
 intro v1 q3
 refine .sR λe h=>?_
 simp only[seval,EMB,q3]
 refine mU e (.seqK (.condF rfl (.exit QB))) h
 intro v4
 refine Mir.toK (.seqK (.seqK (Mir.joinO (λv5:Bool=>[U,U,U,U,U,U,U,.d (.int .i64 v4.1),.d (.int .i64 v4.2.1),U,U,U,U,U,U,U,U,U,U,U,U,U,U,U,U,U,U,U,U,U,U,U,U,U,U,U,U,U,U,U,U,U,U,U,U,U,U,U,U,U,U,U,U,U,U,U,U,U,U,U,U,U,U,U,U,U,U,U,U,U,U,U,U,U,U,U,U,.d (.bool v5),U,U]) (λv5=>⟨[(cG a0),[.mapc .u8 (zA (ekv (evI .i64)) v4.2.2.2)]],[]⟩) (λ_=>rfl) ?_ ?_)))
 refine .ite (λh8=>?_) (λh8=>?_)
 refine .ite (λh9=>?_) (λh9=>?_)
 refine .regionW λe h=>regW.alt 4 rfl ?_
 simp only[seval,EMB,al,w_eq,h8,h9]
 refine br rfl rfl rfl (by simp only[mapT,fh,und_5]) fP rfl (regW.of ?_)
 simp only[seval,EMB,al,w_eq,mg_I,h8,h9]
 cases h
 simp only[seval,FMB,h8,h9]
 refine .ite (λh10=>?_) (λh10=>?_)
 refine .regionW λe h=>regW.alt 4 rfl ?_
 simp only[seval,EMB,al,w_eq,h8,h9,h10]
 refine br rfl rfl rfl (by simp only[mapT,fh,und_5]) fP rfl (regW.alt 4 rfl ?_)
 simp only[seval,EMB,al,w_eq,mg_I,h8,h9,h10]
 refine br rfl rfl rfl (by simp only[mapT,fh,und_5]) fP rfl (regW.of ?_)
 simp only[seval,EMB,al,w_eq,mg_I,h8,h9,h10]
 cases h
 simp only[seval,FMB,h8,h9,h10]
 refine .ite (λh11=>?_) (λh11=>?_)
 refine .regionW λe h=>regW.alt 4 rfl ?_
 simp only[seval,EMB,al,w_eq,h8,h9,h10,h11]
 refine br rfl rfl rfl (by simp only[mapT,fh,und_5]) fP rfl (regW.alt 4 rfl ?_)
 simp only[seval,EMB,al,w_eq,mg_I,h8,h9,h10,h11]
 refine br rfl rfl rfl (by simp only[mapT,fh,und_5]) fP rfl (regW.alt 4 rfl ?_)
 simp only[seval,EMB,al,w_eq,mg_I,h8,h9,h10,h11]
 refine br rfl rfl rfl (by simp only[mapT,fh,und_5]) fP rfl (regW.of ?_)
 simp only[seval,EMB,al,w_eq,mg_I,h8,h9,h10,h11]
 cases h
 simp only[seval,FMB,h8,h9,h10,h11]
 refine .regionW λe h=>regW.alt 4 rfl ?_
 simp only[seval,EMB,al,w_eq,h8,h9,h10,h11]
 refine br rfl rfl rfl (by simp only[mapT,fh,und_5]) fP rfl (regW.alt 4 rfl ?_)
 simp only[seval,EMB,al,w_eq,mg_I,h8,h9,h10,h11]
 refine br rfl rfl rfl (by simp only[mapT,fh,und_5]) fP rfl (regW.alt 4 rfl ?_)
 simp only[seval,EMB,al,w_eq,mg_I,h8,h9,h10,h11]
 refine br rfl rfl rfl (by simp only[mapT,fh,und_5]) fP rfl (regW.alt 4 rfl ?_)
 simp only[seval,EMB,al,w_eq,mg_I,h8,h9,h10,h11]
 refine br rfl rfl rfl (by simp only[mapT,fh,und_5]) fP rfl (regW.of ?_)
 simp only[seval,EMB,al,w_eq,mg_I,h8,h9,h10,h11]
 cases h
 simp only[seval,FMB,h8,h9,h10,h11]
 refine .region λe h=>?_
 simp only[seval,EMB,h8]
 cases h
 simp only[seval,FMB,h8]
 intro v5
 refine Mir.toK (.cond rfl (λh12=>?_) (λh12=>?_))
 refine .sB ?_
 refine .ret QB
 refine .skip (Mir.toK (.sB ?_))
 refine .ret QB
def eg(a0:aA):Option ((List aa)×Int):=bindO (bindO (bindO (gN (aA.mk a0.Main a0.Subs)) λ(y1:Bool)=>if (!y1)=true then none else bindO (az (okIdx a0.Subs) ( aI (λ(i1:Nat) (e1:aE) (v1:(List (List aa))×(List (Int×(List aa))))=>az (okLen (v1.1.length+1)) ( some (.go (v1.1++[e1.Blocks],mput v1.2 e1.Number e1.Blocks)))) (λ(v1:(List (List aa))×(List (Int×(List aa))))=>some (v1.1,v1.2)) a0.Subs 0 ([a0.Main],[]))) λ(v2:(List (List aa))×(List (Int×(List aa))))=>bindO (aO v2.1) λ(y2:(List aa))=>bindX (az (okIdx y2) ( aI (λ(i2:Nat) (e2:aa) (v3:(List Int))=>bindX (bindO (dN e2) λ(y3:Int×Int×Bool×Int)=>if (y3.2.2.2 != 0)=true then none else if y3.2.2.1=true then az (okLen (v3.length+1)) ( some (.go (v3++[y3.1])))else some (.go v3)) λ(v4:(List Int))=>some (.go v4)) (λ(v3:(List Int))=>some (.go v3)) y2 0 [])) λ(v5:(List Int))=>bindX (az (okIdx v5) ( aI (λ(i3:Nat) (e3:Int) (v6:Unit)=>if (!((mget v2.2 e3).isSome))=true then none else some (.go ())) (λ(v6:Unit)=>some (.go ())) v5 0 ())) λ(v7:Unit)=>bindX (az (okIdx a0.Subs) ( aI (λ(i4:Nat) (e4:aE) (v8:(List (Int×Int))×(List (Int×Int))×(List (Int×Int)))=>bindO (if (((mget v8.1 e4.Number).getD 0)==1)=true then some (false,v8.1,v8.2.1,v8.2.2)else if (((mget v8.1 e4.Number).getD 0)==2)=true then some (true,v8.1,v8.2.1,v8.2.2)else bindO (az (okIdx ((mget v2.2 e4.Number).getD [])) ( aI (λ(i5:Nat) (e5:aa) (v9:Unit)=>bindO (dN e5) λ(y4:Int×Int×Bool×Int)=>bindO (if y4.2.2.1=true then none else some ()) λ(v10:Unit)=>some (.go ())) (λ(v9:Unit)=>some ()) ((mget v2.2 e4.Number).getD []) 0 ())) λ(v11:Unit)=>bindO (bindO (az (okIdx ((mget v2.2 e4.Number).getD [])) ( aI (λ(i6:Nat) (e6:aa) (v12:Int×Int)=>bindO (dN e6) λ(y5:Int×Int×Bool×Int)=>bindO (if (!y5.2.2.1)=true then some (v12.1,zM.wrap (v12.2+1))else some (mmI true v12.1 (zM.wrap (1+((mget v8.2.1 y5.1).getD 0))),zM.wrap (v12.2+(mmI false (zM.wrap (y5.2.1*((mget v8.2.2 y5.1).getD 0))) 20001)))) λ(v13:Int×Int)=>some (.go (v13.1,mmI false v13.2 20001))) (λ(v12:Int×Int)=>some (v12.1,v12.2)) ((mget v2.2 e4.Number).getD []) 0 (0,0))) λ(v14:Int×Int)=>some (v14.1,v14.2)) λ(v15:Int×Int)=>some (true,mput (mput v8.1 e4.Number 1) e4.Number 2,mput v8.2.1 e4.Number v15.1,mput v8.2.2 e4.Number v15.2)) λ(v16:Bool×(List (Int×Int))×(List (Int×Int))×(List (Int×Int)))=>if (!v16.1)=true then none else some (.go (v16.2.1,v16.2.2.1,v16.2.2.2))) (λ(v8:(List (Int×Int))×(List (Int×Int))×(List (Int×Int)))=>some (.go (v8.1,v8.2.1,v8.2.2))) a0.Subs 0 ([],[],[]))) λ(v17:(List (Int×Int))×(List (Int×Int))×(List (Int×Int)))=>some (v2.2,v17.1,v17.2.1,v17.2.2)) λ(v18:(List (Int×(List aa)))×(List (Int×Int))×(List (Int×Int))×(List (Int×Int)))=>bindO (bindO (az (okIdx a0.Main) ( aI (λ(i7:Nat) (e7:aa) (v19:Int×Int)=>bindO (dN e7) λ(y6:Int×Int×Bool×Int)=>bindO (if (!y6.2.2.1)=true then some (v19.1,zM.wrap (v19.2+1))else some (mmI true v19.1 (zM.wrap (1+((mget v18.2.2.1 y6.1).getD 0))),zM.wrap (v19.2+(mmI false (zM.wrap (y6.2.1*((mget v18.2.2.2 y6.1).getD 0))) 20001)))) λ(v20:Int×Int)=>some (.go (v20.1,mmI false v20.2 20001))) (λ(v19:Int×Int)=>some (v19.1,v19.2)) a0.Main 0 (0,0))) λ(v21:Int×Int)=>some (v21.1,v21.2)) λ(v22:Int×Int)=>if ((decide (v22.1>8))||(decide (v22.2>20000)))=true then none else some (v22.2,v18.1,v18.2.1,v18.2.2.1,v18.2.2.2)) λ(v23:Int×(List (Int×(List aa)))×(List (Int×Int))×(List (Int×Int))×(List (Int×Int)))=>bindO (bindO (az (okIdx a0.Main) ( aI (λ(i8:Nat) (e8:aa) (v24:(List aa)×(List (Int×(List aa))))=>bindO (bindO (dN e8) λ(y7:Int×Int×Bool×Int)=>if (!y7.2.2.1)=true then az (okLen (v24.1.length+1)) ( some (v24.1++[e8],v24.2))else bindO (if (!((mget v24.2 y7.1).isSome))=true then bindO (bindO (az (okIdx ((mget v23.2.1 y7.1).getD [])) ( aI (λ(i9:Nat) (e9:aa) (v25:(List aa))=>bindO (bindO (dN e9) λ(y8:Int×Int×Bool×Int)=>if (!y8.2.2.1)=true then az (okLen (v25.length+1)) ( some (v25++[e9]))else if (!((mget v24.2 y8.1).isSome))=true then none else if ((((mget v24.2 y8.1).getD []).length:Int)==0)=true then some v25 else loopX (λ(v26:(List aa)×Int)=>if (decide (v26.2<y8.2.1))=true then az (okLen (v26.1.length+((mget v24.2 y8.1).getD []).length)) ( some (.go (v26.1++((mget v24.2 y8.1).getD []),zM.wrap (v26.2+1))))else some (.ret v26.1)) fuel (v25,0)) λ(v27:(List aa))=>some (.go v27)) (λ(v25:(List aa))=>some v25) ((mget v23.2.1 y7.1).getD []) 0 [])) λ(v28:(List aa))=>some v28) λ(v29:(List aa))=>some (v29,mput v24.2 y7.1 v29)else some ((mget v24.2 y7.1).getD [],v24.2)) λ(v30:(List aa)×(List (Int×(List aa))))=>if ((v30.1.length:Int)==0)=true then some (v24.1,v30.2)else loopX (λ(v31:(List aa)×Int)=>if (decide (v31.2<y7.2.1))=true then az (okLen (v31.1.length+v30.1.length)) ( some (.go (v31.1++v30.1,zM.wrap (v31.2+1))))else some (.ret (v31.1,v30.2))) fuel (v24.1,0)) λ(v32:(List aa)×(List (Int×(List aa))))=>some (.go (v32.1,v32.2))) (λ(v24:(List aa)×(List (Int×(List aa))))=>some (v24.1,v24.2)) a0.Main 0 ([],[]))) λ(v33:(List aa)×(List (Int×(List aa))))=>some (v33.1,v33.2)) λ(v34:(List aa)×(List (Int×(List aa))))=>bindO (az (okIdx v34.1) ( aI (λ(i10:Nat) (e10:aa) (v35:(List aa))=>bindO (aX e10.Words) λ(y9:(List ap))=>az (okLen (v35.length+1)) ( some (.go (v35++[aa.mk e10.Skip y9 e10.Comment])))) (λ(v35:(List aa))=>some v35) v34.1 0 [])) λ(v36:(List aa))=>some (v36,0)
theorem sp_Expand_spec{a0:aA}{y:(List aa)×Int}(h:eg a0=some y):Spec gP 19 [.agg (cL a0)] (.tuple [.d (.list (zA ac y.1)),.d (.int .i64 y.2)]):=by
 refine auB Tryz.func19 (λy:(List aa)×Int=>.tuple [.d (.list (zA ac y.1)),.d (.int .i64 y.2)]) ?_ h
 unfold eg
 refine .sR λe h=>?_
 simp only[seval,EMB,eInt,eList]
 refine mU e (.seqK (.bind λv23 h1=>.region λe h=>?_)) h
 simp only[seval,EMB,eInt,eList]
 refine SpecS.inl Tryz.func51 rfl (by kernel_rfl) (by kernel_rfl) (λv23:Int×(List (Int×(List aa)))×(List (Int×Int))×(List (Int×Int))×(List (Int×Int))=>.tuple [.ptr 8 0,.d (.int .i64 v23.1),.d (.int .i64 0)]) (λv23=>⟨[(cL a0),(cL a0),(cL a0),[.mapc .i64 (zA (ekv (evL ac)) v23.2.1)],[.mapc .i64 (zA (ekv (evI .i64)) v23.2.2.1)],[.mapc .i64 (zA (ekv (evI .i64)) v23.2.2.2.1)],[.mapc .i64 (zA (ekv (evI .i64)) v23.2.2.2.2)],[.mapc .i64 (zA (ekv (evL ac)) [])],[.mp 3,.mp 4,.mp 5,.mp 6,.mp 7]],[]⟩) h1 rfl ?_ ?_
 simp only[zB,zE,nS,nA,Tryz.ntmps51,SV]
 refine .sR λe h=>?_
 simp only[seval,EMB,eInt,eList]
 refine mU e (.seqK (.bind λv18 h2=>.region λe h=>?_)) h
 simp only[seval,EMB,eInt,eList]
 refine SpecS.inl Tryz.func97 rfl (by kernel_rfl) (by kernel_rfl) (λv18:(List (Int×(List aa)))×(List (Int×Int))×(List (Int×Int))×(List (Int×Int))=>.tuple [.ptr 8 0,.d (.int .i64 0)]) (λv18=>⟨[(cL a0),(cL a0),(cL a0),[.mapc .i64 (zA (ekv (evL ac)) v18.1)],[.mapc .i64 (zA (ekv (evI .i64)) v18.2.1)],[.mapc .i64 (zA (ekv (evI .i64)) v18.2.2.1)],[.mapc .i64 (zA (ekv (evI .i64)) v18.2.2.2)],[.mapc .i64 (zA (ekv (evL ac)) [])],[.mp 3,.mp 4,.mp 5,.mp 6,.mp 7]],[]⟩) h2 rfl ?_ ?_
 simp only[zB,zE,nS,nA,Tryz.ntmps97,SV]
 refine .sR λe h=>?_
 simp only[seval,EMB,eInt,eList]
 refine mU e (.seqK (.seqK (.bind λy1 h3=>.region λe h=>?_))) h
 simp only[seval,EMB,eInt,eList]
 refine SpecS.by (sp_proper_spec h3) (by simp only[seval,FMB,eInt,eList]) ?_
 simp only[seval,EMB,eInt,eList]
 refine mU e (.cond rfl (λh4=>?_) (λh4=>?_)) h
 exact Mir.no
 refine .skip (Mir.toK (.seqK (.regionW λe h=>regW.alt 0 rfl ?_)))
 simp only[seval,EMB,al,w_eq,eInt,eList]
 refine c8 .i64 (regW.alt 0 rfl ?_)
 simp only[seval,EMB,al,w_eq,xMN,eInt,eList]
 refine c8 .i64 (regW.alt 0 rfl ?_)
 simp only[seval,EMB,al,w_eq,xMN,eInt,eList]
 refine c8 .i64 (regW.alt 0 rfl ?_)
 simp only[seval,EMB,al,w_eq,xMN,eInt,eList]
 refine c8 .i64 (regW.alt 0 rfl ?_)
 simp only[seval,EMB,al,w_eq,xMN,eInt,eList]
 refine c8 .i64 (regW.of ?_)
 simp only[seval,EMB,al,w_eq,xMN,eInt,eList]
 refine mU e (.seqK (.regionW λe h=>regW.alt 2 rfl ?_)) h
 simp only[seval,EMB,al,w_eq,eInt,eList]
 refine dt (es:=zA (eList ac) [a0.Main]) app_208 (by simp only[seval,EMB,(oL 1),eInt,eList]) (by decide) (regW.of ?_)
 simp only[seval,EMB,al,w_eq,(oL 1),eInt,eList]
 refine mU e (.seqK (.sR λe h=>?_)) h
 simp only[seval,EMB,eInt,eList]
 refine mU e (Mir.joinO (λv2:(List (List aa))×(List (Int×(List aa)))=>([U,.ptr 2 0,U,U,.ptr 8 0,.own 0 (zA (eList ac) v2.1)]++us 104)) (λv2=>⟨[(cL a0),(cL a0),(cL a0),[.mapc .i64 (zA (ekv (evL ac)) v2.2)],[.mapc .i64 (zA (ekv (evI .i64)) [])],[.mapc .i64 (zA (ekv (evI .i64)) [])],[.mapc .i64 (zA (ekv (evI .i64)) [])],[.mapc .i64 (zA (ekv (evL ac)) [])],[.mp 3,.mp 4,.mp 5,.mp 6,.mp 7]],[(61,v2.1.length)]⟩) (λ_=>rfl) ?_ ?_) h
 refine .block (.guard λq1=>Mir.range (λ(i1:Nat) (v1:(List (List aa))×(List (Int×(List aa))))=>([U,.ptr 2 0,U,U,.ptr 8 0,.own 0 (zA (eList ac) v1.1),U,U,U,U,U,U,U,U,U,U,U,U,U,U,U,U,U,U,U,U,U,U,U,U,U,U,U,U,U,.d (.list (zA aG a0.Subs)),.d (.int .i64 (a0.Subs.length:Int)),.d (.int .i64 (i1:Int))]++us 72)) (λi1 v1=>⟨[(cL a0),(cL a0),(cL a0),[.mapc .i64 (zA (ekv (evL ac)) v1.2)],[.mapc .i64 (zA (ekv (evI .i64)) [])],[.mapc .i64 (zA (ekv (evI .i64)) [])],[.mapc .i64 (zA (ekv (evI .i64)) [])],[.mapc .i64 (zA (ekv (evL ac)) [])],[.mp 3,.mp 4,.mp 5,.mp 6,.mp 7]],[(61,v1.1.length)]⟩) q1 (λ_ _=>rfl) (by simp only[seval,FMB,eInt,eList,zNI]) (by simp only[seval,FMB,eInt,eList,zNI]) ?_ ?_)
 intro i1 e1 v1 q2
 refine .sR λe h=>?_
 simp only[seval,EMB,q2,eInt,eList]
 refine mU e (.seqK (.condT rfl (.skip (Mir.toK (.seqK (.block (.sR λe h=>?_))))))) h
 simp only[seval,EMB,q2,zD,eInt,eList]
 refine mU e (.seqK (.regionT 8 [] (by kernel_rfl) λe h=>?_)) h
 simp only[seval,EMB,al,w_eq,SB,eInt,eList]
 refine regW.alt 0 rfl ?_
 simp only[seval,EMB,al,w_eq,eInt,eList]
 refine bP (et:=61) rfl rfl rfl rfl (by simp only[mapT,iY,und_2]) (regW.of ?_)
 simp only[seval,EMB,al,w_eq,mp_L,eInt,eList]
 refine mU e (.guard λq3=>.region λe h=>?_) h
 simp only[seval,EMB,(oL 1),q3,eInt,eList]
 refine mU e (.region λe h=>?_) h
 simp only[seval,EMB,eInt,eList]
 cases h
 simp only[seval,FMB,eInt,eList,q2]
 intro v1 q4
 refine .sR λe h=>?_
 simp only[seval,EMB,q4,eInt,eList]
 refine mU e (.seqK (.condF rfl (.exit λe h=>?_))) h
 cases h
 simp only[seval,FMB,eInt,eList]
 intro v2
 refine Mir.toK (.sR λe h=>?_)
 simp only[seval,EMB,eInt,eList]
 refine mU e (.seqK (.seqK (.bind λy2 h5=>.region λe h=>?_))) h
 simp only[seval,EMB,eInt,eList]
 refine SpecS.by (dg h5) (by simp only[seval,FMB,eInt,eList]) ?_
 simp only[seval,EMB,eInt,eList]
 refine mU e (.gh [.slot 8 2] rfl (Mir.join (λv5:(List Int)=>([U,.ptr 2 0,U,U,.ptr 8 0,U,U,U,.own 1 (zA (eInt .i64) v5)]++us 101)) (λv5=>⟨[(cL a0),(cL a0),(cL a0),[.mapc .i64 (zA (ekv (evL ac)) v2.2)],[.mapc .i64 (zA (ekv (evI .i64)) [])],[.mapc .i64 (zA (ekv (evI .i64)) [])],[.mapc .i64 (zA (ekv (evI .i64)) [])],[.mapc .i64 (zA (ekv (evL ac)) [])],[.mp 3,.mp 4,.mp 5,.mp 6,.mp 7]],[(61,v2.1.length),(2,v5.length)]⟩) (λ_=>rfl) ?_ ?_)) h
 refine .block (.guard λq5=>Mir.range (λ(i2:Nat) (v3:(List Int))=>([U,.ptr 2 0,U,U,.ptr 8 0,U,U,U,.own 1 (zA (eInt .i64) v3),U,U,U,U,U,U,U,U,U,U,U,U,U,U,U,U,U,U,U,U,U,U,U,U,U,U,U,U,U,U,U,U,U,U,U,U,U,U,U,U,U,U,U,U,U,U,U,.d (.list (zA ac y2)),.d (.int .i64 (y2.length:Int)),.d (.int .i64 (i2:Int))]++us 51)) (λi2 v3=>⟨[(cL a0),(cL a0),(cL a0),[.mapc .i64 (zA (ekv (evL ac)) v2.2)],[.mapc .i64 (zA (ekv (evI .i64)) [])],[.mapc .i64 (zA (ekv (evI .i64)) [])],[.mapc .i64 (zA (ekv (evI .i64)) [])],[.mapc .i64 (zA (ekv (evL ac)) [])],[.mp 3,.mp 4,.mp 5,.mp 6,.mp 7]],[(61,v2.1.length),(2,v3.length)]⟩) q5 (λ_ _=>rfl) (by simp only[seval,FMB,eInt,eList,zNI]) (by simp only[seval,FMB,eInt,eList,zNI]) ?_ ?_)
 intro i2 e2 v3 q6
 refine .sR λe h=>?_
 simp only[seval,EMB,q6,eInt,eList]
 refine mU e (.seqK (.condT rfl (.skip (Mir.toK (.seqK (Mir.join (λv4:(List Int)=>([U,.ptr 2 0,U,U,.ptr 8 0,U,U,U,.own 1 (zA (eInt .i64) v4),U,U,U,U,U,U,U,U,U,U,U,U,U,U,U,U,U,U,U,U,U,U,U,U,U,U,U,U,U,U,U,U,U,U,U,U,U,U,U,U,U,U,U,U,U,U,U,.d (.list (zA ac y2)),.d (.int .i64 (y2.length:Int)),.d (.int .i64 (i2:Int))]++us 51)) (λv4=>⟨[(cL a0),(cL a0),(cL a0),[.mapc .i64 (zA (ekv (evL ac)) v2.2)],[.mapc .i64 (zA (ekv (evI .i64)) [])],[.mapc .i64 (zA (ekv (evI .i64)) [])],[.mapc .i64 (zA (ekv (evI .i64)) [])],[.mapc .i64 (zA (ekv (evL ac)) [])],[.mp 3,.mp 4,.mp 5,.mp 6,.mp 7]],[(61,v2.1.length),(2,v4.length)]⟩) (λ_=>rfl) ?_ ?_)))))) h
 refine .block (.sR λe h=>?_)
 simp only[seval,EMB,q6,zD,eInt,eList]
 refine mU e (.seqK (.bind λy3 h6=>.region λe h=>?_)) h
 simp only[seval,EMB,eInt,eList]
 refine SpecS.by (dX h6) (by simp only[seval,FMB,eInt,eList]) ?_
 simp only[seval,EMB,eInt,eList]
 refine mU e (.seqK (.sR λe h=>?_)) h
 simp only[seval,EMB,eInt,eList]
 refine mU e (.cond rfl (λh7=>?_) (λh7=>?_)) h
 exact Mir.no
 refine .skip (Mir.toK (.sR λe h=>?_))
 simp only[seval,EMB,eInt,eList]
 refine mU e (.cond rfl (λh8=>?_) (λh8=>?_)) h
 refine .guard λq7=>.region λe h=>?_
 simp only[seval,EMB,(oL 1),q7,eInt,eList]
 cases h
 simp only[seval,FMB,eInt,eList]
 refine .skip λe h=>?_
 cases h
 simp only[seval,FMB,eInt,eList]
 intro v4
 refine Mir.toK (.region λe h=>?_)
 simp only[seval,EMB,eInt,eList]
 cases h
 simp only[seval,FMB,eInt,eList,q6]
 intro v3 q8
 refine .sR λe h=>?_
 simp only[seval,EMB,q8,eInt,eList]
 refine mU e (.seqK (.condF rfl (.exit λe h=>?_))) h
 cases h
 simp only[seval,FMB,eInt,eList]
 intro v5
 refine Mir.toK (.seqK (.sR λe h=>?_))
 simp only[seval,EMB,eInt,eList]
 refine mU e (Mir.join (λv7:Unit=>([U,.ptr 2 0,U,U,.ptr 8 0]++us 105)) (λv7=>⟨[(cL a0),(cL a0),(cL a0),[.mapc .i64 (zA (ekv (evL ac)) v2.2)],[.mapc .i64 (zA (ekv (evI .i64)) [])],[.mapc .i64 (zA (ekv (evI .i64)) [])],[.mapc .i64 (zA (ekv (evI .i64)) [])],[.mapc .i64 (zA (ekv (evL ac)) [])],[.mp 3,.mp 4,.mp 5,.mp 6,.mp 7]],[(61,v2.1.length),(2,v5.length)]⟩) (λ_=>rfl) ?_ ?_) h
 refine .block (.guard λq9=>Mir.range (λ(i3:Nat) (v6:Unit)=>([U,.ptr 2 0,U,U,.ptr 8 0,U,U,U,U,U,U,U,U,U,U,U,U,U,U,U,U,U,U,U,U,U,U,U,U,U,U,U,U,U,U,U,U,U,U,U,U,U,U,U,U,U,U,U,U,U,U,U,U,U,U,U,U,U,U,U,U,U,U,U,U,U,U,U,U,U,U,U,U,U,U,U,U,U,.own 1 (zA (eInt .i64) v5),.d (.int .i64 (v5.length:Int)),.d (.int .i64 (i3:Int))]++us 29)) (λi3 v6=>⟨[(cL a0),(cL a0),(cL a0),[.mapc .i64 (zA (ekv (evL ac)) v2.2)],[.mapc .i64 (zA (ekv (evI .i64)) [])],[.mapc .i64 (zA (ekv (evI .i64)) [])],[.mapc .i64 (zA (ekv (evI .i64)) [])],[.mapc .i64 (zA (ekv (evL ac)) [])],[.mp 3,.mp 4,.mp 5,.mp 6,.mp 7]],[(61,v2.1.length),(2,v5.length)]⟩) q9 (λ_ _=>rfl) (by simp only[seval,FMB,eInt,eList,zNI]) (by simp only[seval,FMB,eInt,eList,zNI]) ?_ ?_)
 intro i3 e3 v6 q10
 refine .sR λe h=>?_
 simp only[seval,EMB,q10,eInt,eList]
 refine mU e (.seqK (.condT rfl (.skip (Mir.toK (.seqK (.block (.sR λe h=>?_))))))) h
 simp only[seval,EMB,q10,zD,eInt,eList]
 refine mU e (.seqK (.regionW λe h=>regW.alt 5 rfl ?_)) h
 simp only[seval,EMB,al,w_eq,eInt,eList]
 refine jD rfl rfl rfl (by simp only[mapT,iY,und_2]) kk rfl (regW.of ?_)
 simp only[seval,EMB,al,w_eq,mg_L,mis_kv,eInt,eList]
 refine mU e (.sR λe h=>?_) h
 simp only[seval,EMB,eInt,eList]
 refine mU e (.cond rfl (λh9=>?_) (λh9=>?_)) h
 exact Mir.no
 refine .skip (Mir.toB (Mir.toK (.region λe h=>?_)))
 simp only[seval,EMB,eInt,eList]
 cases h
 simp only[seval,FMB,eInt,eList,q10]
 intro v6 q11
 refine .sR λe h=>?_
 simp only[seval,EMB,q11,eInt,eList]
 refine mU e (.seqK (.condF rfl (.exit λe h=>?_))) h
 cases h
 simp only[seval,FMB,eInt,eList]
 intro v7
 refine Mir.toK (.seqK (.sR λe h=>?_))
 simp only[seval,EMB,eInt,eList]
 refine mU e (Mir.join (λv17:(List (Int×Int))×(List (Int×Int))×(List (Int×Int))=>([U,U,U,U,.ptr 8 0]++us 105)) (λv17=>⟨[(cL a0),(cL a0),(cL a0),[.mapc .i64 (zA (ekv (evL ac)) v2.2)],[.mapc .i64 (zA (ekv (evI .i64)) v17.1)],[.mapc .i64 (zA (ekv (evI .i64)) v17.2.1)],[.mapc .i64 (zA (ekv (evI .i64)) v17.2.2)],[.mapc .i64 (zA (ekv (evL ac)) [])],[.mp 3,.mp 4,.mp 5,.mp 6,.mp 7]],[(61,v2.1.length),(2,v5.length)]⟩) (λ_=>rfl) ?_ ?_) h
 refine .block (.guard λq12=>Mir.range (λ(i4:Nat) (v8:(List (Int×Int))×(List (Int×Int))×(List (Int×Int)))=>([U,U,U,U,.ptr 8 0,U,U,U,U,U,U,U,U,U,U,U,U,U,U,U,U,U,U,U,U,U,U,U,U,U,U,U,U,U,U,U,U,U,U,U,U,U,U,U,U,U,U,U,U,U,U,U,U,U,U,U,U,U,U,U,U,U,U,U,U,U,U,U,U,U,U,U,U,U,U,U,U,U,U,U,U,U,U,U,U,U,U,U,U,U,U,U,U,U,U,U,U,.d (.list (zA aG a0.Subs)),.d (.int .i64 (a0.Subs.length:Int)),.d (.int .i64 (i4:Int))]++us 10)) (λi4 v8=>⟨[(cL a0),(cL a0),(cL a0),[.mapc .i64 (zA (ekv (evL ac)) v2.2)],[.mapc .i64 (zA (ekv (evI .i64)) v8.1)],[.mapc .i64 (zA (ekv (evI .i64)) v8.2.1)],[.mapc .i64 (zA (ekv (evI .i64)) v8.2.2)],[.mapc .i64 (zA (ekv (evL ac)) [])],[.mp 3,.mp 4,.mp 5,.mp 6,.mp 7]],[(61,v2.1.length),(2,v5.length)]⟩) q12 (λ_ _=>rfl) (by simp only[seval,FMB,eInt,eList,zNI]) (by simp only[seval,FMB,eInt,eList,zNI]) ?_ ?_)
 intro i4 e4 v8 q13
 refine .sR λe h=>?_
 simp only[seval,EMB,q13,eInt,eList]
 refine mU e (.seqK (.condT rfl (.skip (Mir.toK (.seqK (.block (.sR λe h=>?_))))))) h
 simp only[seval,EMB,q13,zD,eInt,eList]
 refine mU e (.seqK (.bind λv16 h10=>.region λe h=>?_)) h
 simp only[seval,EMB,eInt,eList]
 refine SpecS.inl Tryz.func130 rfl (by kernel_rfl) (by kernel_rfl) (λv16:Bool×(List (Int×Int))×(List (Int×Int))×(List (Int×Int))=>.d (.bool v16.1)) (λv16=>⟨[(cL a0),(cL a0),(cL a0),[.mapc .i64 (zA (ekv (evL ac)) v2.2)],[.mapc .i64 (zA (ekv (evI .i64)) v16.2.1)],[.mapc .i64 (zA (ekv (evI .i64)) v16.2.2.1)],[.mapc .i64 (zA (ekv (evI .i64)) v16.2.2.2)],[.mapc .i64 (zA (ekv (evL ac)) [])],[.mp 3,.mp 4,.mp 5,.mp 6,.mp 7],(cK e4)],[(61,v2.1.length),(2,v5.length)]⟩) h10 rfl ?_ ?_
 simp only[zB,zE,nS,nA,Tryz.ntmps130,SV]
 refine .sR λe h=>?_
 simp only[seval,EMB,eInt,eList]
 refine mU e (.seqK (.seqK (.regionW λe h=>regW.alt 5 rfl ?_))) h
 simp only[seval,EMB,al,w_eq,eInt,eList]
 refine br rfl rfl rfl (by simp only[mapT,und_178,und_2]) fP rfl (regW.of ?_)
 simp only[seval,EMB,al,w_eq,mg_I,eInt,eList]
 refine mU e (.block (.sR λe h=>?_)) h
 simp only[seval,EMB,eInt,eList]
 refine mU e (.cond rfl (λh11=>?_) (λh11=>?_)) h
 refine .sR λe h=>?_
 simp only[seval,EMB,eInt,eList]
 refine mU e (.ret λe h=>?_) h
 cases h
 simp only[seval,FMB,eInt,eList]
 refine .sR λe h=>?_
 simp only[seval,EMB,eInt,eList]
 refine mU e (.cond rfl (λh12=>?_) (λh12=>?_)) h
 refine .sR λe h=>?_
 simp only[seval,EMB,eInt,eList]
 refine mU e (.ret λe h=>?_) h
 cases h
 simp only[seval,FMB,eInt,eList]
 refine .skip (Mir.toB (Mir.toK (.seqK (.regionW λe h=>regW.alt 5 rfl ?_))))
 simp only[seval,EMB,al,w_eq,eInt,eList]
 refine bP (et:=3) rfl rfl rfl rfl (by simp only[mapT,und_178,und_2]) (regW.of ?_)
 simp only[seval,EMB,al,w_eq,mp_I,eInt,eList]
 refine mU e (.seqK (.seqK (.regionW λe h=>regW.alt 5 rfl ?_))) h
 simp only[seval,EMB,al,w_eq,eInt,eList]
 refine br rfl rfl rfl (by simp only[mapT,iY,und_2]) kk rfl (regW.of ?_)
 simp only[seval,EMB,al,w_eq,mg_L,eInt,eList]
 refine mU e (Mir.joinO (λv11:Unit=>([.ptr 8 0,.d (.int .i64 e4.Number)]++us 76)) (λv11=>⟨[(cL a0),(cL a0),(cL a0),[.mapc .i64 (zA (ekv (evL ac)) v2.2)],[.mapc .i64 (zA (ekv (evI .i64)) (mput v8.1 e4.Number 1))],[.mapc .i64 (zA (ekv (evI .i64)) v8.2.1)],[.mapc .i64 (zA (ekv (evI .i64)) v8.2.2)],[.mapc .i64 (zA (ekv (evL ac)) [])],[.mp 3,.mp 4,.mp 5,.mp 6,.mp 7],(cK e4)],[(61,v2.1.length),(2,v5.length)]⟩) (λ_=>rfl) ?_ ?_) h
 refine .block (.guard λq14=>Mir.range (λ(i5:Nat) (v9:Unit)=>([.ptr 8 0,.d (.int .i64 e4.Number),U,U,U,U,U,U,U,U,U,U,U,U,U,U,U,U,U,U,U,U,U,U,U,U,U,U,U,U,U,.d (.list (zA ac ((mget v2.2 e4.Number).getD []))),.d (.int .i64 (((mget v2.2 e4.Number).getD []).length:Int)),.d (.int .i64 (i5:Int))]++us 44)) (λi5 v9=>⟨[(cL a0),(cL a0),(cL a0),[.mapc .i64 (zA (ekv (evL ac)) v2.2)],[.mapc .i64 (zA (ekv (evI .i64)) (mput v8.1 e4.Number 1))],[.mapc .i64 (zA (ekv (evI .i64)) v8.2.1)],[.mapc .i64 (zA (ekv (evI .i64)) v8.2.2)],[.mapc .i64 (zA (ekv (evL ac)) [])],[.mp 3,.mp 4,.mp 5,.mp 6,.mp 7],(cK e4)],[(61,v2.1.length),(2,v5.length)]⟩) q14 (λ_ _=>rfl) (by simp only[seval,FMB,eInt,eList,zNI]) (by simp only[seval,FMB,eInt,eList,zNI]) ?_ ?_)
 intro i5 e5 v9 q15
 refine .sR λe h=>?_
 simp only[seval,EMB,q15,eInt,eList]
 refine mU e (.seqK (.condT rfl (.skip (Mir.toK (.seqK (.block (.sR λe h=>?_))))))) h
 simp only[seval,EMB,q15,zD,eInt,eList]
 refine mU e (.seqK (.bind λy4 h13=>.region λe h=>?_)) h
 simp only[seval,EMB,eInt,eList]
 refine SpecS.by (dX h13) (by simp only[seval,FMB,eInt,eList]) ?_
 simp only[seval,EMB,eInt,eList]
 refine mU e (.seqK (Mir.joinO (λv10:Unit=>([.ptr 8 0,.d (.int .i64 e4.Number),U,U,U,U,U,U,U,U,U,U,U,U,U,U,U,U,U,U,U,U,U,U,U,U,U,U,U,U,U,.d (.list (zA ac ((mget v2.2 e4.Number).getD []))),.d (.int .i64 (((mget v2.2 e4.Number).getD []).length:Int)),.d (.int .i64 (i5:Int)),U,U,U,U,U,U,U,U,U,U,U,U,U,U,U,U,.d (.bool false)]++us 27)) (λv10=>⟨[(cL a0),(cL a0),(cL a0),[.mapc .i64 (zA (ekv (evL ac)) v2.2)],[.mapc .i64 (zA (ekv (evI .i64)) (mput v8.1 e4.Number 1))],[.mapc .i64 (zA (ekv (evI .i64)) v8.2.1)],[.mapc .i64 (zA (ekv (evI .i64)) v8.2.2)],[.mapc .i64 (zA (ekv (evL ac)) [])],[.mp 3,.mp 4,.mp 5,.mp 6,.mp 7],(cK e4),(cG e5)],[(61,v2.1.length),(2,v5.length)]⟩) (λ_=>rfl) ?_ ?_)) h
 refine .ite (λh14=>?_) (λh14=>?_)
 exact Mir.no
 refine .region λe h=>?_
 simp only[seval,EMB,eInt,eList,h14]
 cases h
 simp only[seval,FMB,eInt,eList,h14]
 intro v10
 refine Mir.toK (.condF rfl (.skip (Mir.toB (Mir.toK (.region λe h=>?_)))))
 simp only[seval,EMB,eInt,eList]
 cases h
 simp only[seval,FMB,eInt,eList,q15]
 intro v9 q16
 refine .sR λe h=>?_
 simp only[seval,EMB,q16,eInt,eList]
 refine mU e (.seqK (.condF rfl (.exit λe h=>?_))) h
 cases h
 simp only[seval,FMB,eInt,eList]
 intro v11
 refine Mir.toK (.seqK (.regionW λe h=>regW.alt 5 rfl ?_))
 simp only[seval,EMB,al,w_eq,eInt,eList]
 refine bP (et:=3) rfl rfl rfl rfl (by simp only[mapT,und_178,und_2]) (regW.of ?_)
 simp only[seval,EMB,al,w_eq,mp_I,eInt,eList]
 refine mU e (.seqK (.bind λv15 h15=>Mir.regionA 0 [] [.ptr 8 0,.d (.int .i64 e4.Number),U,U,U,U,U,U,U,U,U,U,U,U,U,U,U,U,U,U,U,U,U,U,U,U,U,U,U,U,U,U,U,U,U,U,U,U,U,U,U,U,U,U,U,U,U,U,U,U,U,U,.ptr 8 0,.ptr 8 0,.ptr 8 1,.mp 4,.d (.int .i64 e4.Number),.tuple [.d (.int .i64 v15.1),.d (.int .i64 v15.2)],.ptr 8 0,.ptr 8 0,.ptr 8 2,.mp 5,.d (.int .i64 e4.Number),.ptr 8 0,.ptr 8 0,.ptr 8 3,.mp 6,.d (.int .i64 e4.Number),.ptr 8 0,.ptr 8 0,.ptr 8 0,.ptr 8 0,.mp 3,.d (.int .i64 e4.Number),.d (.list (zA ac ((mget v2.2 e4.Number).getD []))),.tuple [.d (.int .i64 v15.1),.d (.int .i64 v15.2)],.d (.int .i64 v15.1),.d (.int .i64 v15.2)] ⟨[(cL a0),(cL a0),(cL a0),[.mapc .i64 (zA (ekv (evL ac)) v2.2)],[.mapc .i64 (zA (ekv (evI .i64)) (mput (mput v8.1 e4.Number 1) e4.Number 2))],[.mapc .i64 (zA (ekv (evI .i64)) (mput v8.2.1 e4.Number v15.1))],[.mapc .i64 (zA (ekv (evI .i64)) (mput v8.2.2 e4.Number v15.2))],[.mapc .i64 (zA (ekv (evL ac)) [])],[.mp 3,.mp 4,.mp 5,.mp 6,.mp 7],(cK e4)],[(61,v2.1.length),(2,v5.length)]⟩ (by kernel_rfl) (λe h=>?_) (λe h=>?_))) h
 simp only[seval,EMB,al,w_eq,SB,eInt,eList]
 refine regV.toA (k:=8) (ms:=[3,4,5,6,7]) (regV.moveB (j:=0) (by kernel_rfl) rfl rfl rfl ?_)
 simp only[seval,EMB,al,w_eq,eInt,eList]
 refine regV.nilB (j:=1) (by kernel_rfl) rfl rfl rfl rfl ?_
 simp only[seval,EMB,al,w_eq,eInt,eList]
 refine regV.fieldB (j:=2) (y:=.ptr 8 2) (by kernel_rfl) rfl rfl rfl (by first | simp only[seval,EMB,fld_181_2,sz_178,eInt,eList,lit_pn] | kernel_rfl) ?_
 simp only[seval,EMB,al,w_eq,eInt,eList]
 refine regV.loadB (j:=3) (m:=5) (by kernel_rfl) rfl rfl rfl rfl ag_178 rfl ?_
 simp only[seval,EMB,al,w_eq,eInt,eList]
 refine regV.moveB (j:=4) (by kernel_rfl) rfl rfl rfl ?_
 simp only[seval,EMB,al,w_eq,eInt,eList]
 refine regV.moveB (j:=5) (by kernel_rfl) rfl rfl rfl ?_
 simp only[seval,EMB,al,w_eq,eInt,eList]
 refine regV.nilB (j:=6) (by kernel_rfl) rfl rfl rfl rfl ?_
 simp only[seval,EMB,al,w_eq,eInt,eList]
 refine regV.fieldB (j:=7) (y:=.ptr 8 3) (by kernel_rfl) rfl rfl rfl (by first | simp only[seval,EMB,fld_181_3,sz_179,eInt,eList,lit_pn] | kernel_rfl) ?_
 simp only[seval,EMB,al,w_eq,eInt,eList]
 refine regV.loadB (j:=8) (m:=6) (by kernel_rfl) rfl rfl rfl rfl ag_179 rfl ?_
 simp only[seval,EMB,al,w_eq,eInt,eList]
 refine regV.moveB (j:=9) (by kernel_rfl) rfl rfl rfl ?_
 simp only[seval,EMB,al,w_eq,eInt,eList]
 refine regV.moveB (j:=10) (by kernel_rfl) rfl rfl rfl ?_
 simp only[seval,EMB,al,w_eq,eInt,eList]
 refine regV.moveB (j:=11) (by kernel_rfl) rfl rfl rfl ?_
 simp only[seval,EMB,al,w_eq,eInt,eList]
 refine regV.nilB (j:=12) (by kernel_rfl) rfl rfl rfl rfl ?_
 simp only[seval,EMB,al,w_eq,eInt,eList]
 refine regV.fieldB (j:=13) (y:=.ptr 8 0) (by kernel_rfl) rfl rfl rfl (by first | simp only[seval,EMB,fld_181_0,sz_177,eInt,eList,lit_pn] | kernel_rfl) ?_
 simp only[seval,EMB,al,w_eq,eInt,eList]
 refine regV.loadB (j:=14) (m:=3) (by kernel_rfl) rfl rfl rfl rfl ag_177 rfl ?_
 simp only[seval,EMB,al,w_eq,eInt,eList]
 refine regV.moveB (j:=15) (by kernel_rfl) rfl rfl rfl ?_
 simp only[seval,EMB,al,w_eq,eInt,eList]
 refine regV.one (j:=16) (by kernel_rfl) rfl (regW.alt 0 rfl ?_)
 simp only[seval,EMB,al,w_eq,eInt,eList]
 refine br rfl rfl rfl (by simp only[mapT,iY,und_2]) kk rfl (regW.of ?_)
 simp only[seval,EMB,al,w_eq,mg_L,eInt,eList]
 refine⟨rfl,?_⟩
 refine regV.one (j:=17) (by kernel_rfl) rfl (regW.of ?_)
 simp only[seval,EMB,al,w_eq,eInt,eList]
 refine SpecS.inl Tryz.func98 rfl (by kernel_rfl) (by kernel_rfl) (λv15:Int×Int=>.tuple [.d (.int .i64 v15.1),.d (.int .i64 v15.2)]) (λv15=>⟨[(cL a0),(cL a0),(cL a0),[.mapc .i64 (zA (ekv (evL ac)) v2.2)],[.mapc .i64 (zA (ekv (evI .i64)) (mput (mput v8.1 e4.Number 1) e4.Number 2))],[.mapc .i64 (zA (ekv (evI .i64)) v8.2.1)],[.mapc .i64 (zA (ekv (evI .i64)) v8.2.2)],[.mapc .i64 (zA (ekv (evL ac)) [])],[.mp 3,.mp 4,.mp 5,.mp 6,.mp 7],(cK e4)],[(61,v2.1.length),(2,v5.length)]⟩) h15 rfl ?_ ?_
 simp only[zB,zE,nS,nA,Tryz.ntmps98,SV]
 refine .sR λe h=>?_
 simp only[seval,EMB,eInt,eList]
 refine mU e (.sR λe h=>?_) h
 simp only[seval,EMB,eInt,eList]
 refine mU e (.seqK (.sR λe h=>?_)) h
 simp only[seval,EMB,eInt,eList]
 refine mU e (Mir.joinO (λv14:Int×Int=>([U,U,U,U,U,U,.d (.int .i64 v14.1),.d (.int .i64 v14.2)]++us 48)) (λv14=>⟨[(cL a0),(cL a0),(cL a0),[.mapc .i64 (zA (ekv (evL ac)) v2.2)],[.mapc .i64 (zA (ekv (evI .i64)) (mput (mput v8.1 e4.Number 1) e4.Number 2))],[.mapc .i64 (zA (ekv (evI .i64)) v8.2.1)],[.mapc .i64 (zA (ekv (evI .i64)) v8.2.2)],[.mapc .i64 (zA (ekv (evL ac)) [])],[.mp 3,.mp 4,.mp 5,.mp 6,.mp 7],(cK e4)],[(61,v2.1.length),(2,v5.length)]⟩) (λ_=>rfl) ?_ ?_) h
 refine .block (.guard λq17=>Mir.range (λ(i6:Nat) (v12:Int×Int)=>([.ptr 8 0,U,U,U,U,U,.d (.int .i64 v12.1),.d (.int .i64 v12.2),U,U,U,U,U,U,.d (.list (zA ac ((mget v2.2 e4.Number).getD []))),.d (.int .i64 (((mget v2.2 e4.Number).getD []).length:Int)),.d (.int .i64 (i6:Int))]++us 39)) (λi6 v12=>⟨[(cL a0),(cL a0),(cL a0),[.mapc .i64 (zA (ekv (evL ac)) v2.2)],[.mapc .i64 (zA (ekv (evI .i64)) (mput (mput v8.1 e4.Number 1) e4.Number 2))],[.mapc .i64 (zA (ekv (evI .i64)) v8.2.1)],[.mapc .i64 (zA (ekv (evI .i64)) v8.2.2)],[.mapc .i64 (zA (ekv (evL ac)) [])],[.mp 3,.mp 4,.mp 5,.mp 6,.mp 7],(cK e4)],[(61,v2.1.length),(2,v5.length)]⟩) q17 (λ_ _=>rfl) (by simp only[seval,FMB,eInt,eList,zNI]) (by simp only[seval,FMB,eInt,eList,zNI]) ?_ ?_)
 intro i6 e6 v12 q18
 refine .sR λe h=>?_
 simp only[seval,EMB,q18,eInt,eList]
 refine mU e (.seqK (.condT rfl (.skip (Mir.toK (.seqK (.block (.sR λe h=>?_))))))) h
 simp only[seval,EMB,q18,zD,eInt,eList]
 refine mU e (.seqK (.bind λy5 h16=>.region λe h=>?_)) h
 simp only[seval,EMB,eInt,eList]
 refine SpecS.by (dX h16) (by simp only[seval,FMB,eInt,eList]) ?_
 simp only[seval,EMB,eInt,eList]
 refine mU e (.seqK (.sR λe h=>?_)) h
 simp only[seval,EMB,eInt,eList]
 refine mU e (Mir.joinO (λv13:Int×Int=>([.ptr 8 0,U,U,U,U,U,.d (.int .i64 v13.1),.d (.int .i64 v13.2),U,U,U,U,U,U,.d (.list (zA ac ((mget v2.2 e4.Number).getD []))),.d (.int .i64 (((mget v2.2 e4.Number).getD []).length:Int)),.d (.int .i64 (i6:Int))]++us 39)) (λv13=>⟨[(cL a0),(cL a0),(cL a0),[.mapc .i64 (zA (ekv (evL ac)) v2.2)],[.mapc .i64 (zA (ekv (evI .i64)) (mput (mput v8.1 e4.Number 1) e4.Number 2))],[.mapc .i64 (zA (ekv (evI .i64)) v8.2.1)],[.mapc .i64 (zA (ekv (evI .i64)) v8.2.2)],[.mapc .i64 (zA (ekv (evL ac)) [])],[.mp 3,.mp 4,.mp 5,.mp 6,.mp 7],(cK e4),(cG e6)],[(61,v2.1.length),(2,v5.length)]⟩) (λ_=>rfl) ?_ ?_) h
 refine .cond rfl (λh17=>?_) (λh17=>?_)
 refine .region λe h=>?_
 simp only[seval,EMB,eInt,eList]
 cases h
 simp only[seval,FMB,eInt,eList]
 refine .seqK (.regionW λe h=>regW.alt 6 rfl ?_)
 simp only[seval,EMB,al,w_eq,eInt,eList]
 refine br rfl rfl rfl (by simp only[mapT,und_178,und_2]) fP rfl (regW.of ?_)
 simp only[seval,EMB,al,w_eq,mg_I,eInt,eList]
 refine mU e (.regionW λe h=>regW.alt 7 rfl ?_) h
 simp only[seval,EMB,al,w_eq,eInt,eList]
 refine br rfl rfl rfl (by simp only[mapT,und_179,und_2]) zero_2 rfl (regW.of ?_)
 simp only[seval,EMB,al,w_eq,mg_I,eInt,eList]
 cases h
 simp only[seval,FMB,eInt,eList]
 intro v13
 refine Mir.toK (.region λe h=>?_)
 simp only[seval,EMB,eInt,eList]
 refine mU e (.region λe h=>?_) h
 simp only[seval,EMB,eInt,eList]
 cases h
 simp only[seval,FMB,eInt,eList,q18]
 intro v12 q19
 refine .sR λe h=>?_
 simp only[seval,EMB,q19,eInt,eList]
 refine mU e (.seqK (.condF rfl (.exit λe h=>?_))) h
 cases h
 simp only[seval,FMB,eInt,eList]
 intro v14
 refine Mir.toK (.sR λe h=>?_)
 simp only[seval,EMB,eInt,eList]
 refine mU e (.ret λe h=>?_) h
 cases h
 simp only[seval,FMB,eInt,eList]
 simp only[seval,EMB,al,w_eq,eInt,eList]
 refine⟨rfl,?_⟩
 refine regV.moveB (j:=18) (by kernel_rfl) rfl rfl rfl ?_
 simp only[seval,EMB,al,w_eq,eInt,eList]
 refine regV.extB (j:=19) (by kernel_rfl) rfl rfl rfl rfl rfl ?_
 simp only[seval,EMB,al,w_eq,eInt,eList]
 refine regV.extB (j:=20) (by kernel_rfl) rfl rfl rfl rfl rfl ?_
 simp only[seval,EMB,al,w_eq,eInt,eList]
 refine regV.one (j:=21) (by kernel_rfl) rfl (regW.alt 0 rfl ?_)
 simp only[seval,EMB,al,w_eq,eInt,eList]
 refine bP (et:=3) rfl rfl rfl rfl (by simp only[mapT,und_178,und_2]) (regW.of ?_)
 simp only[seval,EMB,al,w_eq,mp_I,eInt,eList]
 refine⟨rfl,?_⟩
 refine regV.one (j:=22) (by kernel_rfl) rfl (regW.alt 0 rfl ?_)
 simp only[seval,EMB,al,w_eq,eInt,eList]
 refine bP (et:=2) rfl rfl rfl rfl (by simp only[mapT,und_179,und_2]) (regW.of ?_)
 simp only[seval,EMB,al,w_eq,mp_I,eInt,eList]
 refine⟨rfl,?_⟩
 exact regV.nil (by kernel_rfl) ⟨by first | rfl | simp only[seval,FMB,eInt,eList,lit_pn,xMA,xLA],by first | rfl | simp only[seval,FMB,eInt,eList,lit_pn,xMA,xLA]⟩
 refine mU e (.sR λe h=>?_) h
 simp only[seval,EMB,eInt,eList]
 refine mU e (.ret λe h=>?_) h
 cases h
 simp only[seval,FMB,eInt,eList]
 simp only[seval,EMB,eInt,eList]
 refine mU e (.cond rfl (λh18=>?_) (λh18=>?_)) h
 exact Mir.no
 refine .skip (Mir.toB (Mir.toK (.region λe h=>?_)))
 simp only[seval,EMB,eInt,eList]
 cases h
 simp only[seval,FMB,eInt,eList,q13]
 intro v8 q20
 refine .sR λe h=>?_
 simp only[seval,EMB,q20,eInt,eList]
 refine mU e (.seqK (.condF rfl (.exit λe h=>?_))) h
 cases h
 simp only[seval,FMB,eInt,eList]
 intro v17
 refine Mir.toK (.sR λe h=>?_)
 simp only[seval,EMB,eInt,eList]
 refine mU e (.ret λe h=>?_) h
 cases h
 simp only[seval,FMB,eInt,eList]
 simp only[seval,EMB,eInt,eList]
 refine mU e (.seqK (.sR λe h=>?_)) h
 simp only[seval,EMB,(nr rfl:((0:Int) != 0)=false),eInt,eList]
 refine mU e (.condF rfl (.skip (Mir.toK (.seqK (.bind λv22 h19=>.region λe h=>?_))))) h
 simp only[seval,EMB,eInt,eList]
 refine SpecS.inl Tryz.func98 rfl (by kernel_rfl) (by kernel_rfl) (λv22:Int×Int=>.tuple [.d (.int .i64 v22.1),.d (.int .i64 v22.2)]) (λv22=>⟨[(cL a0),(cL a0),(cL a0),[.mapc .i64 (zA (ekv (evL ac)) v18.1)],[.mapc .i64 (zA (ekv (evI .i64)) v18.2.1)],[.mapc .i64 (zA (ekv (evI .i64)) v18.2.2.1)],[.mapc .i64 (zA (ekv (evI .i64)) v18.2.2.2)],[.mapc .i64 (zA (ekv (evL ac)) [])],[.mp 3,.mp 4,.mp 5,.mp 6,.mp 7]],[]⟩) h19 rfl ?_ ?_
 simp only[zB,zE,nS,nA,Tryz.ntmps98,SV]
 refine .sR λe h=>?_
 simp only[seval,EMB,eInt,eList]
 refine mU e (.sR λe h=>?_) h
 simp only[seval,EMB,eInt,eList]
 refine mU e (.seqK (.sR λe h=>?_)) h
 simp only[seval,EMB,eInt,eList]
 refine mU e (Mir.joinO (λv21:Int×Int=>([U,U,U,U,U,U,.d (.int .i64 v21.1),.d (.int .i64 v21.2)]++us 48)) (λv21=>⟨[(cL a0),(cL a0),(cL a0),[.mapc .i64 (zA (ekv (evL ac)) v18.1)],[.mapc .i64 (zA (ekv (evI .i64)) v18.2.1)],[.mapc .i64 (zA (ekv (evI .i64)) v18.2.2.1)],[.mapc .i64 (zA (ekv (evI .i64)) v18.2.2.2)],[.mapc .i64 (zA (ekv (evL ac)) [])],[.mp 3,.mp 4,.mp 5,.mp 6,.mp 7]],[]⟩) (λ_=>rfl) ?_ ?_) h
 refine .block (.guard λq21=>Mir.range (λ(i7:Nat) (v19:Int×Int)=>([.ptr 8 0,U,U,U,U,U,.d (.int .i64 v19.1),.d (.int .i64 v19.2),U,U,U,U,U,U,.d (.list (zA ac a0.Main)),.d (.int .i64 (a0.Main.length:Int)),.d (.int .i64 (i7:Int))]++us 39)) (λi7 v19=>⟨[(cL a0),(cL a0),(cL a0),[.mapc .i64 (zA (ekv (evL ac)) v18.1)],[.mapc .i64 (zA (ekv (evI .i64)) v18.2.1)],[.mapc .i64 (zA (ekv (evI .i64)) v18.2.2.1)],[.mapc .i64 (zA (ekv (evI .i64)) v18.2.2.2)],[.mapc .i64 (zA (ekv (evL ac)) [])],[.mp 3,.mp 4,.mp 5,.mp 6,.mp 7]],[]⟩) q21 (λ_ _=>rfl) (by simp only[seval,FMB,eInt,eList,zNI]) (by simp only[seval,FMB,eInt,eList,zNI]) ?_ ?_)
 intro i7 e7 v19 q22
 refine .sR λe h=>?_
 simp only[seval,EMB,q22,eInt,eList]
 refine mU e (.seqK (.condT rfl (.skip (Mir.toK (.seqK (.block (.sR λe h=>?_))))))) h
 simp only[seval,EMB,q22,zD,eInt,eList]
 refine mU e (.seqK (.bind λy6 h20=>.region λe h=>?_)) h
 simp only[seval,EMB,eInt,eList]
 refine SpecS.by (dX h20) (by simp only[seval,FMB,eInt,eList]) ?_
 simp only[seval,EMB,eInt,eList]
 refine mU e (.seqK (.sR λe h=>?_)) h
 simp only[seval,EMB,eInt,eList]
 refine mU e (Mir.joinO (λv20:Int×Int=>([.ptr 8 0,U,U,U,U,U,.d (.int .i64 v20.1),.d (.int .i64 v20.2),U,U,U,U,U,U,.d (.list (zA ac a0.Main)),.d (.int .i64 (a0.Main.length:Int)),.d (.int .i64 (i7:Int))]++us 39)) (λv20=>⟨[(cL a0),(cL a0),(cL a0),[.mapc .i64 (zA (ekv (evL ac)) v18.1)],[.mapc .i64 (zA (ekv (evI .i64)) v18.2.1)],[.mapc .i64 (zA (ekv (evI .i64)) v18.2.2.1)],[.mapc .i64 (zA (ekv (evI .i64)) v18.2.2.2)],[.mapc .i64 (zA (ekv (evL ac)) [])],[.mp 3,.mp 4,.mp 5,.mp 6,.mp 7],(cG e7)],[]⟩) (λ_=>rfl) ?_ ?_) h
 refine .cond rfl (λh21=>?_) (λh21=>?_)
 refine .region λe h=>?_
 simp only[seval,EMB,eInt,eList]
 cases h
 simp only[seval,FMB,eInt,eList]
 refine .seqK (.regionW λe h=>regW.alt 6 rfl ?_)
 simp only[seval,EMB,al,w_eq,eInt,eList]
 refine br rfl rfl rfl (by simp only[mapT,und_178,und_2]) fP rfl (regW.of ?_)
 simp only[seval,EMB,al,w_eq,mg_I,eInt,eList]
 refine mU e (.regionW λe h=>regW.alt 7 rfl ?_) h
 simp only[seval,EMB,al,w_eq,eInt,eList]
 refine br rfl rfl rfl (by simp only[mapT,und_179,und_2]) zero_2 rfl (regW.of ?_)
 simp only[seval,EMB,al,w_eq,mg_I,eInt,eList]
 cases h
 simp only[seval,FMB,eInt,eList]
 intro v20
 refine Mir.toK (.region λe h=>?_)
 simp only[seval,EMB,eInt,eList]
 refine mU e (.region λe h=>?_) h
 simp only[seval,EMB,eInt,eList]
 cases h
 simp only[seval,FMB,eInt,eList,q22]
 intro v19 q23
 refine .sR λe h=>?_
 simp only[seval,EMB,q23,eInt,eList]
 refine mU e (.seqK (.condF rfl (.exit λe h=>?_))) h
 cases h
 simp only[seval,FMB,eInt,eList]
 intro v21
 refine Mir.toK (.sR λe h=>?_)
 simp only[seval,EMB,eInt,eList]
 refine mU e (.ret λe h=>?_) h
 cases h
 simp only[seval,FMB,eInt,eList]
 simp only[seval,EMB,eInt,eList]
 refine mU e (.seqK (.seqK (.joinV [U,U,U,U,U,.ptr 8 0,U,U,.d (.int .i64 v22.2),U,U,U,U,U,U,U,U,U,U,U,U,U,U,U,U,U,U,U,U,.d (.bool ((decide (v22.1>8))||(decide (v22.2>20000)))),U,U] ⟨[(cL a0),(cL a0),(cL a0),[.mapc .i64 (zA (ekv (evL ac)) v18.1)],[.mapc .i64 (zA (ekv (evI .i64)) v18.2.1)],[.mapc .i64 (zA (ekv (evI .i64)) v18.2.2.1)],[.mapc .i64 (zA (ekv (evI .i64)) v18.2.2.2)],[.mapc .i64 (zA (ekv (evL ac)) [])],[.mp 3,.mp 4,.mp 5,.mp 6,.mp 7]],[]⟩ rfl ?_ ?_))) h
 refine SWs.region ?_
 rcases zF (decide (v22.1>8))with h22 | h22
 simp only[seval,EMB,SL,PB,h22,eInt,eList]
 simp only[seval,EMB,SL,PB,h22,eInt,eList]
 refine Mir.toK (.cond rfl (λh23=>?_) (λh23=>?_))
 exact Mir.no
 refine .skip (Mir.toK (.sR λe h=>?_))
 simp only[seval,EMB,eInt,eList]
 refine mU e (.ret λe h=>?_) h
 cases h
 simp only[seval,FMB,eInt,eList]
 simp only[seval,EMB,eInt,eList]
 refine mU e (.seqK (.sR λe h=>?_)) h
 simp only[seval,EMB,(nr rfl:((0:Int) != 0)=false),eInt,eList]
 refine mU e (.condF rfl (.skip (Mir.toK (.sR λe h=>?_)))) h
 simp only[seval,EMB,eInt,eList]
 refine mU e (.seqK (.seqK (.bind λv34 h24=>.region λe h=>?_))) h
 simp only[seval,EMB,eInt,eList]
 refine SpecS.inl Tryz.func52 rfl (by kernel_rfl) (by kernel_rfl) (λv34:(List aa)×(List (Int×(List aa)))=>.own 0 (zA ac v34.1)) (λv34=>⟨[(cL a0),(cL a0),(cL a0),[.mapc .i64 (zA (ekv (evL ac)) v23.2.1)],[.mapc .i64 (zA (ekv (evI .i64)) v23.2.2.1)],[.mapc .i64 (zA (ekv (evI .i64)) v23.2.2.2.1)],[.mapc .i64 (zA (ekv (evI .i64)) v23.2.2.2.2)],[.mapc .i64 (zA (ekv (evL ac)) v34.2)],[.mp 3,.mp 4,.mp 5,.mp 6,.mp 7]],[(96,v34.1.length)]⟩) h24 rfl ?_ ?_
 simp only[zB,zE,nS,nA,Tryz.ntmps52,SV]
 refine .sR λe h=>?_
 simp only[seval,EMB,eInt,eList]
 refine mU e (.sR λe h=>?_) h
 simp only[seval,EMB,eInt,eList]
 refine mU e (.seqK (.sR λe h=>?_)) h
 simp only[seval,EMB,eInt,eList]
 refine mU e (.gh [.slot 5 96] rfl (Mir.joinO (λv33:(List aa)×(List (Int×(List aa)))=>([U,U,U,U,U,.own 0 (zA ac v33.1)]++us 64)) (λv33=>⟨[(cL a0),(cL a0),(cL a0),[.mapc .i64 (zA (ekv (evL ac)) v23.2.1)],[.mapc .i64 (zA (ekv (evI .i64)) v23.2.2.1)],[.mapc .i64 (zA (ekv (evI .i64)) v23.2.2.2.1)],[.mapc .i64 (zA (ekv (evI .i64)) v23.2.2.2.2)],[.mapc .i64 (zA (ekv (evL ac)) v33.2)],[.mp 3,.mp 4,.mp 5,.mp 6,.mp 7]],[(96,v33.1.length)]⟩) (λ_=>rfl) ?_ ?_)) h
 refine .block (.guard λq24=>Mir.range (λ(i8:Nat) (v24:(List aa)×(List (Int×(List aa))))=>([.ptr 8 0,U,U,U,U,.own 0 (zA ac v24.1),U,U,U,U,U,U,U,U,.d (.list (zA ac a0.Main)),.d (.int .i64 (a0.Main.length:Int)),.d (.int .i64 (i8:Int))]++us 53)) (λi8 v24=>⟨[(cL a0),(cL a0),(cL a0),[.mapc .i64 (zA (ekv (evL ac)) v23.2.1)],[.mapc .i64 (zA (ekv (evI .i64)) v23.2.2.1)],[.mapc .i64 (zA (ekv (evI .i64)) v23.2.2.2.1)],[.mapc .i64 (zA (ekv (evI .i64)) v23.2.2.2.2)],[.mapc .i64 (zA (ekv (evL ac)) v24.2)],[.mp 3,.mp 4,.mp 5,.mp 6,.mp 7]],[(96,v24.1.length)]⟩) q24 (λ_ _=>rfl) (by simp only[seval,FMB,eInt,eList,zNI]) (by simp only[seval,FMB,eInt,eList,zNI]) ?_ ?_)
 intro i8 e8 v24 q25
 refine .sR λe h=>?_
 simp only[seval,EMB,q25,eInt,eList]
 refine mU e (.seqK (.condT rfl (.skip (Mir.toK (.seqK (Mir.joinO (λv32:(List aa)×(List (Int×(List aa)))=>([.ptr 8 0,U,U,U,U,.own 0 (zA ac v32.1),U,U,U,U,U,U,U,U,.d (.list (zA ac a0.Main)),.d (.int .i64 (a0.Main.length:Int)),.d (.int .i64 (i8:Int))]++us 53)) (λv32=>⟨[(cL a0),(cL a0),(cL a0),[.mapc .i64 (zA (ekv (evL ac)) v23.2.1)],[.mapc .i64 (zA (ekv (evI .i64)) v23.2.2.1)],[.mapc .i64 (zA (ekv (evI .i64)) v23.2.2.2.1)],[.mapc .i64 (zA (ekv (evI .i64)) v23.2.2.2.2)],[.mapc .i64 (zA (ekv (evL ac)) v32.2)],[.mp 3,.mp 4,.mp 5,.mp 6,.mp 7]],[(96,v32.1.length)]⟩) (λ_=>rfl) ?_ ?_)))))) h
 refine .block (.sR λe h=>?_)
 simp only[seval,EMB,q25,zD,eInt,eList]
 refine mU e (.seqK (.bind λy7 h25=>.region λe h=>?_)) h
 simp only[seval,EMB,eInt,eList]
 refine SpecS.by (dX h25) (by simp only[seval,FMB,eInt,eList]) ?_
 simp only[seval,EMB,eInt,eList]
 refine mU e (.seqK (.sR λe h=>?_)) h
 simp only[seval,EMB,eInt,eList]
 refine mU e (.cond rfl (λh26=>?_) (λh26=>?_)) h
 refine .seqK (.guard λq26=>.region λe h=>?_)
 simp only[seval,EMB,(oL 3),q26,eInt,eList]
 refine mU e (.exit λe h=>?_) h
 cases h
 simp only[seval,FMB,eInt,eList]
 refine .skip (Mir.toK (.seqK (.regionW λe h=>regW.alt 5 rfl ?_)))
 simp only[seval,EMB,al,w_eq,eInt,eList]
 refine jD rfl rfl rfl (by simp only[mapT,iY,und_2]) kk rfl (regW.of ?_)
 simp only[seval,EMB,al,w_eq,mg_L,mis_kv,eInt,eList]
 refine mU e (.seqK (.sR λe h=>?_)) h
 simp only[seval,EMB,eInt,eList]
 refine mU e (Mir.joinO (λv30:(List aa)×(List (Int×(List aa)))=>([.ptr 8 0,U,U,U,U,.own 0 (zA ac v24.1),U,U,U,.d (.int .i64 y7.2.1),U,U,.d (.list (zA ac v30.1)),U,.d (.list (zA ac a0.Main)),.d (.int .i64 (a0.Main.length:Int)),.d (.int .i64 (i8:Int))]++us 53)) (λv30=>⟨[(cL a0),(cL a0),(cL a0),[.mapc .i64 (zA (ekv (evL ac)) v23.2.1)],[.mapc .i64 (zA (ekv (evI .i64)) v23.2.2.1)],[.mapc .i64 (zA (ekv (evI .i64)) v23.2.2.2.1)],[.mapc .i64 (zA (ekv (evI .i64)) v23.2.2.2.2)],[.mapc .i64 (zA (ekv (evL ac)) v30.2)],[.mp 3,.mp 4,.mp 5,.mp 6,.mp 7],(cG e8)],[(96,v24.1.length)]⟩) (λ_=>rfl) ?_ ?_) h
 refine .cond rfl (λh27=>?_) (λh27=>?_)
 refine .seqK (.bind λv29 h28=>.regionW λe h=>regW.alt 6 rfl ?_)
 simp only[seval,EMB,al,w_eq,eInt,eList]
 refine br rfl rfl rfl (by simp only[mapT,iY,und_2]) kk rfl (regW.of ?_)
 simp only[seval,EMB,al,w_eq,mg_L,eInt,eList]
 refine SpecS.inl Tryz.func52 rfl (by kernel_rfl) (by kernel_rfl) (λv29:(List aa)=>.own 1 (zA ac v29)) (λv29=>⟨[(cL a0),(cL a0),(cL a0),[.mapc .i64 (zA (ekv (evL ac)) v23.2.1)],[.mapc .i64 (zA (ekv (evI .i64)) v23.2.2.1)],[.mapc .i64 (zA (ekv (evI .i64)) v23.2.2.2.1)],[.mapc .i64 (zA (ekv (evI .i64)) v23.2.2.2.2)],[.mapc .i64 (zA (ekv (evL ac)) v24.2)],[.mp 3,.mp 4,.mp 5,.mp 6,.mp 7],(cG e8)],[(96,v24.1.length),(96,v29.length)]⟩) h28 rfl ?_ ?_
 simp only[zB,zE,nS,nA,Tryz.ntmps52,SV]
 refine .sR λe h=>?_
 simp only[seval,EMB,eInt,eList]
 refine mU e (.sR λe h=>?_) h
 simp only[seval,EMB,eInt,eList]
 refine mU e (.seqK (.sR λe h=>?_)) h
 simp only[seval,EMB,eInt,eList]
 refine mU e (.gh [.slot 5 96] rfl (Mir.joinO (λv28:(List aa)=>([U,U,U,U,U,.own 1 (zA ac v28)]++us 64)) (λv28=>⟨[(cL a0),(cL a0),(cL a0),[.mapc .i64 (zA (ekv (evL ac)) v23.2.1)],[.mapc .i64 (zA (ekv (evI .i64)) v23.2.2.1)],[.mapc .i64 (zA (ekv (evI .i64)) v23.2.2.2.1)],[.mapc .i64 (zA (ekv (evI .i64)) v23.2.2.2.2)],[.mapc .i64 (zA (ekv (evL ac)) v24.2)],[.mp 3,.mp 4,.mp 5,.mp 6,.mp 7],(cG e8)],[(96,v24.1.length),(96,v28.length)]⟩) (λ_=>rfl) ?_ ?_)) h
 refine .block (.guard λq27=>Mir.range (λ(i9:Nat) (v25:(List aa))=>([.ptr 8 0,U,U,U,U,.own 1 (zA ac v25),U,U,U,U,U,U,U,U,.d (.list (zA ac ((mget v23.2.1 y7.1).getD []))),.d (.int .i64 (((mget v23.2.1 y7.1).getD []).length:Int)),.d (.int .i64 (i9:Int))]++us 53)) (λi9 v25=>⟨[(cL a0),(cL a0),(cL a0),[.mapc .i64 (zA (ekv (evL ac)) v23.2.1)],[.mapc .i64 (zA (ekv (evI .i64)) v23.2.2.1)],[.mapc .i64 (zA (ekv (evI .i64)) v23.2.2.2.1)],[.mapc .i64 (zA (ekv (evI .i64)) v23.2.2.2.2)],[.mapc .i64 (zA (ekv (evL ac)) v24.2)],[.mp 3,.mp 4,.mp 5,.mp 6,.mp 7],(cG e8)],[(96,v24.1.length),(96,v25.length)]⟩) q27 (λ_ _=>rfl) (by simp only[seval,FMB,eInt,eList,zNI]) (by simp only[seval,FMB,eInt,eList,zNI]) ?_ ?_)
 intro i9 e9 v25 q28
 refine .sR λe h=>?_
 simp only[seval,EMB,q28,eInt,eList]
 refine mU e (.seqK (.condT rfl (.skip (Mir.toK (.seqK (Mir.joinO (λv27:(List aa)=>([.ptr 8 0,U,U,U,U,.own 1 (zA ac v27),U,U,U,U,U,U,U,U,.d (.list (zA ac ((mget v23.2.1 y7.1).getD []))),.d (.int .i64 (((mget v23.2.1 y7.1).getD []).length:Int)),.d (.int .i64 (i9:Int))]++us 53)) (λv27=>⟨[(cL a0),(cL a0),(cL a0),[.mapc .i64 (zA (ekv (evL ac)) v23.2.1)],[.mapc .i64 (zA (ekv (evI .i64)) v23.2.2.1)],[.mapc .i64 (zA (ekv (evI .i64)) v23.2.2.2.1)],[.mapc .i64 (zA (ekv (evI .i64)) v23.2.2.2.2)],[.mapc .i64 (zA (ekv (evL ac)) v24.2)],[.mp 3,.mp 4,.mp 5,.mp 6,.mp 7],(cG e8)],[(96,v24.1.length),(96,v27.length)]⟩) (λ_=>rfl) ?_ ?_)))))) h
 refine .block (.sR λe h=>?_)
 simp only[seval,EMB,q28,zD,eInt,eList]
 refine mU e (.seqK (.bind λy8 h29=>.region λe h=>?_)) h
 simp only[seval,EMB,eInt,eList]
 refine SpecS.by (dX h29) (by simp only[seval,FMB,eInt,eList]) ?_
 simp only[seval,EMB,eInt,eList]
 refine mU e (.seqK (.sR λe h=>?_)) h
 simp only[seval,EMB,eInt,eList]
 refine mU e (.cond rfl (λh30=>?_) (λh30=>?_)) h
 refine .seqK (.guard λq29=>.region λe h=>?_)
 simp only[seval,EMB,(oL 3),q29,eInt,eList]
 refine mU e (.exit λe h=>?_) h
 cases h
 simp only[seval,FMB,eInt,eList]
 refine .skip (Mir.toK (.seqK (.regionW λe h=>regW.alt 5 rfl ?_)))
 simp only[seval,EMB,al,w_eq,eInt,eList]
 refine jD rfl rfl rfl (by simp only[mapT,iY,und_2]) kk rfl (regW.of ?_)
 simp only[seval,EMB,al,w_eq,mg_L,mis_kv,eInt,eList]
 refine mU e (.seqK (.sR λe h=>?_)) h
 simp only[seval,EMB,eInt,eList]
 refine mU e (.cond rfl (λh31=>?_) (λh31=>?_)) h
 exact Mir.no
 refine .skip (Mir.toK (.seqK (.sR λe h=>?_)))
 simp only[seval,EMB,eInt,eList]
 refine mU e (.cond rfl (λh32=>?_) (λh32=>?_)) h
 refine .exit λe h=>?_
 cases h
 simp only[seval,FMB,eInt,eList]
 refine .skip (Mir.toK (.sR λe h=>?_))
 simp only[seval,EMB,eInt,eList]
 refine mU e (.block (Mir.loop (λv26:(List aa)×Int=>([.ptr 8 0,U,U,U,U,.own 1 (zA ac v26.1),U,U,U,U,U,U,.d (.list (zA ac ((mget v24.2 y8.1).getD []))),U,.d (.list (zA ac ((mget v23.2.1 y7.1).getD []))),.d (.int .i64 (((mget v23.2.1 y7.1).getD []).length:Int)),.d (.int .i64 (i9:Int)),U,U,U,U,U,U,U,U,U,U,U,U,U,U,U,U,U,U,U,U,U,U,U,U,U,U,U,U,U,U,U,U,U,U,U,U,U,U,U,U,U,U,U,U,.d (.int .i64 y8.2.1),.d (.int .i64 v26.2)]++us 7)) (λv26=>⟨[(cL a0),(cL a0),(cL a0),[.mapc .i64 (zA (ekv (evL ac)) v23.2.1)],[.mapc .i64 (zA (ekv (evI .i64)) v23.2.2.1)],[.mapc .i64 (zA (ekv (evI .i64)) v23.2.2.2.1)],[.mapc .i64 (zA (ekv (evI .i64)) v23.2.2.2.2)],[.mapc .i64 (zA (ekv (evL ac)) v24.2)],[.mp 3,.mp 4,.mp 5,.mp 6,.mp 7],(cG e8),(cG e9)],[(96,v24.1.length),(96,v26.1.length)]⟩) (λ_=>rfl) (by simp only[seval,FMB,eInt,eList]) (by simp only[seval,FMB,eInt,eList]) λv26=>.sR λe h=>?_)) h
 simp only[seval,EMB,eInt,eList]
 refine mU e (.seqK (.cond rfl (λh33=>?_) (λh33=>?_))) h
 refine .skip (Mir.toK (.seqK (.block (.guard λq30=>.region λe h=>?_))))
 simp only[seval,EMB,q30,eInt,eList]
 refine mU e (.region λe h=>?_) h
 simp only[seval,EMB,eInt,eList]
 cases h
 simp only[seval,FMB,eInt,eList]
 refine .exit λe h=>?_
 cases h
 simp only[seval,FMB,eInt,eList]
 intro v27
 refine Mir.toK (.region λe h=>?_)
 simp only[seval,EMB,eInt,eList]
 cases h
 simp only[seval,FMB,eInt,eList,q28]
 intro v25 q31
 refine .sR λe h=>?_
 simp only[seval,EMB,q31,eInt,eList]
 refine mU e (.seqK (.condF rfl (.exit λe h=>?_))) h
 cases h
 simp only[seval,FMB,eInt,eList]
 intro v28
 refine Mir.toK (.sR λe h=>?_)
 simp only[seval,EMB,eInt,eList]
 refine mU e (.ret λe h=>?_) h
 cases h
 simp only[seval,FMB,eInt,eList]
 simp only[seval,EMB,al,w_eq,eInt,eList]
 refine mU e (.regionW λe h=>regW.alt 6 rfl ?_) h
 simp only[seval,EMB,al,w_eq,eInt,eList]
 refine bP (et:=61) rfl rfl rfl rfl (by simp only[mapT,iY,und_2]) (regW.of ?_)
 simp only[seval,EMB,al,w_eq,mp_L,eInt,eList]
 cases h
 simp only[seval,FMB,eInt,eList]
 refine .skip λe h=>?_
 cases h
 simp only[seval,FMB,eInt,eList]
 intro v30
 refine Mir.toK (.seqK (.sR λe h=>?_))
 simp only[seval,EMB,eInt,eList]
 refine mU e (.cond rfl (λh34=>?_) (λh34=>?_)) h
 refine .exit λe h=>?_
 cases h
 simp only[seval,FMB,eInt,eList]
 refine .skip (Mir.toK (.sR λe h=>?_))
 simp only[seval,EMB,eInt,eList]
 refine mU e (.block (Mir.loop (λv31:(List aa)×Int=>([.ptr 8 0,U,U,U,U,.own 0 (zA ac v31.1),U,U,U,U,U,U,.d (.list (zA ac v30.1)),U,.d (.list (zA ac a0.Main)),.d (.int .i64 (a0.Main.length:Int)),.d (.int .i64 (i8:Int)),U,U,U,U,U,U,U,U,U,U,U,U,U,U,U,U,U,U,U,U,U,U,U,U,U,U,U,U,U,U,U,U,U,U,U,U,U,U,U,U,U,U,U,U,.d (.int .i64 y7.2.1),.d (.int .i64 v31.2)]++us 7)) (λv31=>⟨[(cL a0),(cL a0),(cL a0),[.mapc .i64 (zA (ekv (evL ac)) v23.2.1)],[.mapc .i64 (zA (ekv (evI .i64)) v23.2.2.1)],[.mapc .i64 (zA (ekv (evI .i64)) v23.2.2.2.1)],[.mapc .i64 (zA (ekv (evI .i64)) v23.2.2.2.2)],[.mapc .i64 (zA (ekv (evL ac)) v30.2)],[.mp 3,.mp 4,.mp 5,.mp 6,.mp 7],(cG e8)],[(96,v31.1.length)]⟩) (λ_=>rfl) (by simp only[seval,FMB,eInt,eList]) (by simp only[seval,FMB,eInt,eList]) λv31=>.sR λe h=>?_)) h
 simp only[seval,EMB,eInt,eList]
 refine mU e (.seqK (.cond rfl (λh35=>?_) (λh35=>?_))) h
 refine .skip (Mir.toK (.seqK (.block (.guard λq32=>.region λe h=>?_))))
 simp only[seval,EMB,q32,eInt,eList]
 refine mU e (.region λe h=>?_) h
 simp only[seval,EMB,eInt,eList]
 cases h
 simp only[seval,FMB,eInt,eList]
 refine .exit λe h=>?_
 cases h
 simp only[seval,FMB,eInt,eList]
 intro v32
 refine Mir.toK (.region λe h=>?_)
 simp only[seval,EMB,eInt,eList]
 cases h
 simp only[seval,FMB,eInt,eList,q25]
 intro v24 q33
 refine .sR λe h=>?_
 simp only[seval,EMB,q33,eInt,eList]
 refine mU e (.seqK (.condF rfl (.exit λe h=>?_))) h
 cases h
 simp only[seval,FMB,eInt,eList]
 intro v33
 refine Mir.toK (.sR λe h=>?_)
 simp only[seval,EMB,eInt,eList]
 refine mU e (.ret λe h=>?_) h
 cases h
 simp only[seval,FMB,eInt,eList]
 simp only[seval,EMB,eInt,eList]
 refine mU e (.gh [.slot 7 96] rfl (Mir.joinO (λv36:(List aa)=>([U,U,U,U,U,U,U,.own 1 (zA ac v36)]++us 30)) (λv36=>⟨[(cL a0),(cL a0),(cL a0),[.mapc .i64 (zA (ekv (evL ac)) v23.2.1)],[.mapc .i64 (zA (ekv (evI .i64)) v23.2.2.1)],[.mapc .i64 (zA (ekv (evI .i64)) v23.2.2.2.1)],[.mapc .i64 (zA (ekv (evI .i64)) v23.2.2.2.2)],[.mapc .i64 (zA (ekv (evL ac)) v34.2)],[.mp 3,.mp 4,.mp 5,.mp 6,.mp 7]],[(96,v34.1.length),(96,v36.length)]⟩) (λ_=>rfl) ?_ ?_)) h
 refine .block (.guard λq34=>Mir.range (λ(i10:Nat) (v35:(List aa))=>([U,U,U,U,U,U,U,.own 1 (zA ac v35),U,U,U,U,U,U,U,U,U,U,U,U,U,U,.own 0 (zA ac v34.1),.d (.int .i64 (v34.1.length:Int)),.d (.int .i64 (i10:Int))]++us 13)) (λi10 v35=>⟨[(cL a0),(cL a0),(cL a0),[.mapc .i64 (zA (ekv (evL ac)) v23.2.1)],[.mapc .i64 (zA (ekv (evI .i64)) v23.2.2.1)],[.mapc .i64 (zA (ekv (evI .i64)) v23.2.2.2.1)],[.mapc .i64 (zA (ekv (evI .i64)) v23.2.2.2.2)],[.mapc .i64 (zA (ekv (evL ac)) v34.2)],[.mp 3,.mp 4,.mp 5,.mp 6,.mp 7]],[(96,v34.1.length),(96,v35.length)]⟩) q34 (λ_ _=>rfl) (by simp only[seval,FMB,eInt,eList,zNI]) (by simp only[seval,FMB,eInt,eList,zNI]) ?_ ?_)
 intro i10 e10 v35 q35
 refine .sR λe h=>?_
 simp only[seval,EMB,q35,eInt,eList]
 refine mU e (.seqK (.condT rfl (.skip (Mir.toK (.seqK (.block (.sR λe h=>?_))))))) h
 simp only[seval,EMB,q35,zD,eInt,eList]
 refine mU e (.seqK (.bind λy9 h36=>.region λe h=>?_)) h
 simp only[seval,EMB,eInt,eList]
 refine SpecS.by (dQ h36) (by simp only[seval,FMB,eInt,eList]) ?_
 simp only[seval,EMB,eInt,eList]
 refine mU e (.guard λq36=>.region λe h=>?_) h
 simp only[seval,EMB,(oL 3),q36,eInt,eList]
 refine mU e (.region λe h=>?_) h
 simp only[seval,EMB,eInt,eList]
 cases h
 simp only[seval,FMB,eInt,eList,q35]
 intro v35 q37
 refine .sR λe h=>?_
 simp only[seval,EMB,q37,eInt,eList]
 refine mU e (.seqK (.condF rfl (.exit λe h=>?_))) h
 cases h
 simp only[seval,FMB,eInt,eList]
 intro v36
 refine Mir.toK (.sR λe h=>?_)
 simp only[seval,EMB,eInt,eList]
 refine mU e (.ret λe h=>?_) h
 cases h
 simp only[seval,FMB,eInt,eList]
def gY(a0:aa):Option Bool:=bindX (az (okIdx a0.Words) ( aI (λ(i1:Nat) (e1:ap) (v1:Unit)=>bindX (bindO (if (e1.Letter==71)=true then some (e1.Letter==71)else if (e1.Letter==84)=true then some (e1.Letter==84)else if (e1.Letter==70)=true then some (e1.Letter==70)else if (e1.Letter==72)=true then some (e1.Letter==72)else if (e1.Letter==78)=true then some (e1.Letter==78)else if (e1.Letter==88)=true then some (e1.Letter==88)else if (e1.Letter==89)=true then some (e1.Letter==89)else if (e1.Letter==90)=true then some (e1.Letter==90)else if (e1.Letter==73)=true then some (e1.Letter==73)else if (e1.Letter==74)=true then some (e1.Letter==74)else if (e1.Letter==81)=true then some (e1.Letter==81)else some (e1.Letter==82)) λ(v2:Bool)=>if v2=true then some (.go ())else if (e1.Letter==77)=true then bindO (aM [0,1000,3000,4000,5000,6000,8000,9000,30000] e1.Value) λ(y1:Bool)=>if (!y1)=true then some (.ret (.ret (.ret false)))else some (.go ())else if (e1.Letter==83)=true then if (decide (e1.Value<0))=true then some (.ret (.ret (.ret false)))else some (.go ())else some (.ret (.ret (.ret false)))) λ(v3:Unit)=>some (.go ())) (λ(v1:Unit)=>some (.go ())) a0.Words 0 ())) λ(v4:Unit)=>some true
theorem inp_known_spec{a0:aa}{y:Bool}(h:gY a0=some y):Spec gP 102 [.agg (cG a0)] (.d (.bool y)):=by
 refine auB Tryz.func102 (λy:Bool=>.d (.bool y)) ?_ h
 unfold gY
 refine .sR λe h=>?_
 simp only[seval,EMB,eInt]
 refine mU e (.seqK (.sR λe h=>?_)) h
 simp only[seval,EMB,eInt]
 refine mU e (Mir.join (λv4:Unit=>(us 40)) (λv4=>⟨[(cG a0)],[]⟩) (λ_=>rfl) ?_ ?_) h
 refine .block (.guard λq1=>Mir.range (λ(i1:Nat) (v1:Unit)=>([U,U,U,U,U,U,.d (.list (zA ao a0.Words)),.d (.int .i64 (a0.Words.length:Int)),.d (.int .i64 (i1:Int))]++us 31)) (λi1 v1=>⟨[(cG a0)],[]⟩) q1 (λ_ _=>rfl) (by simp only[seval,FMB,eInt,zNI]) (by simp only[seval,FMB,eInt,zNI]) ?_ ?_)
 intro i1 e1 v1 q2
 refine .sR λe h=>?_
 simp only[seval,EMB,q2,eInt]
 refine mU e (.seqK (.condT rfl (.skip (Mir.toK (.seqK (Mir.join (λv3:Unit=>([U,U,U,U,U,U,.d (.list (zA ao a0.Words)),.d (.int .i64 (a0.Words.length:Int)),.d (.int .i64 (i1:Int))]++us 31)) (λv3=>⟨[(cG a0)],[]⟩) (λ_=>rfl) ?_ ?_)))))) h
 refine .block (.sR λe h=>?_)
 simp only[seval,EMB,q2,zD,eInt]
 refine mU e (.sR λe h=>?_) h
 simp only[seval,EMB,eInt]
 refine mU e (.block (.seqK (.sR λe h=>?_))) h
 simp only[seval,EMB,eInt]
 refine mU e (Mir.joinO (λv2:Bool=>([U,U,U,U,.ptr 1 0,U,.d (.list (zA ao a0.Words)),.d (.int .i64 (a0.Words.length:Int)),.d (.int .i64 (i1:Int)),U,U,U,U,.d (.int .u8 e1.Letter),.d (.bool v2)]++us 25)) (λv2=>⟨[(cG a0),(cJ e1)],[]⟩) (λ_=>rfl) ?_ ?_) h
 refine .cond rfl (λh1=>?_) (λh1=>?_)
 refine .skip λe h=>?_
 cases h
 simp only[seval,FMB,eInt]
 refine .sR λe h=>?_
 simp only[seval,EMB,eInt]
 refine mU e (.cond rfl (λh2=>?_) (λh2=>?_)) h
 refine .skip λe h=>?_
 cases h
 simp only[seval,FMB,eInt]
 refine .sR λe h=>?_
 simp only[seval,EMB,eInt]
 refine mU e (.cond rfl (λh3=>?_) (λh3=>?_)) h
 refine .skip λe h=>?_
 cases h
 simp only[seval,FMB,eInt]
 refine .sR λe h=>?_
 simp only[seval,EMB,eInt]
 refine mU e (.cond rfl (λh4=>?_) (λh4=>?_)) h
 refine .skip λe h=>?_
 cases h
 simp only[seval,FMB,eInt]
 refine .sR λe h=>?_
 simp only[seval,EMB,eInt]
 refine mU e (.cond rfl (λh5=>?_) (λh5=>?_)) h
 refine .skip λe h=>?_
 cases h
 simp only[seval,FMB,eInt]
 refine .sR λe h=>?_
 simp only[seval,EMB,eInt]
 refine mU e (.cond rfl (λh6=>?_) (λh6=>?_)) h
 refine .skip λe h=>?_
 cases h
 simp only[seval,FMB,eInt]
 refine .sR λe h=>?_
 simp only[seval,EMB,eInt]
 refine mU e (.cond rfl (λh7=>?_) (λh7=>?_)) h
 refine .skip λe h=>?_
 cases h
 simp only[seval,FMB,eInt]
 refine .sR λe h=>?_
 simp only[seval,EMB,eInt]
 refine mU e (.cond rfl (λh8=>?_) (λh8=>?_)) h
 refine .skip λe h=>?_
 cases h
 simp only[seval,FMB,eInt]
 refine .sR λe h=>?_
 simp only[seval,EMB,eInt]
 refine mU e (.cond rfl (λh9=>?_) (λh9=>?_)) h
 refine .skip λe h=>?_
 cases h
 simp only[seval,FMB,eInt]
 refine .sR λe h=>?_
 simp only[seval,EMB,eInt]
 refine mU e (.cond rfl (λh10=>?_) (λh10=>?_)) h
 refine .skip λe h=>?_
 cases h
 simp only[seval,FMB,eInt]
 refine .sR λe h=>?_
 simp only[seval,EMB,eInt]
 refine mU e (.cond rfl (λh11=>?_) (λh11=>?_)) h
 refine .skip λe h=>?_
 cases h
 simp only[seval,FMB,eInt]
 refine .region λe h=>?_
 simp only[seval,EMB,eInt]
 cases h
 simp only[seval,FMB,eInt]
 intro v2
 refine Mir.toK (.cond rfl (λh12=>?_) (λh12=>?_))
 refine .skip λe h=>?_
 cases h
 simp only[seval,FMB,eInt]
 refine .sR λe h=>?_
 simp only[seval,EMB,eInt]
 refine mU e (.cond rfl (λh13=>?_) (λh13=>?_)) h
 refine .seqK (.bind λy1 h14=>.region λe h=>?_)
 simp only[seval,EMB,glT,eInt]
 refine SpecS.by (bF h14) (by simp only[seval,FMB,eInt]) ?_
 simp only[seval,EMB,eInt]
 refine mU e (.cond rfl (λh15=>?_) (λh15=>?_)) h
 refine .sR λe h=>?_
 simp only[seval,EMB,eInt]
 refine mU e (.ret λe h=>?_) h
 cases h
 simp only[seval,FMB,eInt]
 refine .skip λe h=>?_
 cases h
 simp only[seval,FMB,eInt]
 refine .sR λe h=>?_
 simp only[seval,EMB,eInt]
 refine mU e (.cond rfl (λh16=>?_) (λh16=>?_)) h
 refine .sR λe h=>?_
 simp only[seval,EMB,eInt]
 refine mU e (.cond rfl (λh17=>?_) (λh17=>?_)) h
 refine .sR λe h=>?_
 simp only[seval,EMB,eInt]
 refine mU e (.ret λe h=>?_) h
 cases h
 simp only[seval,FMB,eInt]
 refine .skip λe h=>?_
 cases h
 simp only[seval,FMB,eInt]
 refine .sR λe h=>?_
 simp only[seval,EMB,eInt]
 refine mU e (.ret λe h=>?_) h
 cases h
 simp only[seval,FMB,eInt]
 intro v3
 refine Mir.toK (.region λe h=>?_)
 simp only[seval,EMB,eInt]
 cases h
 simp only[seval,FMB,eInt,q2]
 intro v1 q3
 refine .sR λe h=>?_
 simp only[seval,EMB,q3,eInt]
 refine mU e (.seqK (.condF rfl (.exit λe h=>?_))) h
 cases h
 simp only[seval,FMB,eInt]
 intro v4
 refine Mir.toK (.sR λe h=>?_)
 simp only[seval,EMB,eInt]
 refine mU e (.ret λe h=>?_) h
 cases h
 simp only[seval,FMB,eInt]
def dp(a0:Int):Option Bool:=some ((a0==81000)||((a0==82000)||(a0==83000)))
theorem cX{a0:Int}{y:Bool}(h:dp a0=some y):Spec gP 103 [.d (.int .i64 a0)] (.d (.bool y)):=by
 refine auB Tryz.func103 (λy:Bool=>.d (.bool y)) ?_ h
 unfold dp
 refine .sB ?_
 refine .seqK (.joinV ([U,U,.d (.bool ((a0==81000)||((a0==82000)||(a0==83000))))]++us 10) ⟨[],[]⟩ rfl ?_ ?_)
 refine SWs.region ?_
 rcases zF (a0==81000)with hb1 | hb1
 simp only[seval,EMB,SL,PB,hb1]
 rcases zF (a0==82000)with hb2 | hb2
 simp only[seval,EMB,SL,PB,hb1,hb2]
 simp only[seval,EMB,SL,PB,hb1,hb2]
 refine Mir.toK (.ret QB)
def fm(a0:aa)(a1:(List UInt8)):Option Bool:=bindX (az (okIdx a1) ( aI (λ(i1:Nat) (c1:UInt8) (v1:Unit)=>bindO (eP a0 (c1.toNat:Int)) λ(y1:Int×Bool)=>if y1.2=true then some (.ret (.ret true))else some (.go ())) (λ(v1:Unit)=>some (.go ())) a1 0 ())) λ(v2:Unit)=>some false
theorem bv{a0:aa}{a1:(List UInt8)}{y:Bool}(h:fm a0 a1=some y):Spec gP 104 [.agg (cG a0),.d (.str a1)] (.d (.bool y)):=by
 refine auB Tryz.func104 (λy:Bool=>.d (.bool y)) ?_ h
 unfold fm
 refine .sB ?_
 refine .seqK (.sB ?_)
 refine Mir.join (λv2:Unit=>(us 23)) (λv2=>⟨[(cG a0)],[]⟩) (λ_=>rfl) ?_ ?_
 refine .block (.guard λqg65=>Mir.range (λ(i1:Nat) (v1:Unit)=>([U,.d (.str a1),.ptr 0 0,U,U,U,U,U,U,.d (.int .i64 (a1.length:Int)),.d (.int .i64 (i1:Int))]++us 12)) (λi1 v1=>⟨[(cG a0)],[]⟩) qg65 (λ_ _=>rfl) (by simp only[seval,FMB,zNI]) (by simp only[seval,FMB,zNI]) ?_ ?_)
 intro i1 c1 v1 qr63
 refine .sR λe h=>?_
 simp only[seval,EMB,qr63]
 refine mU e (.seqK (.condT rfl (.skip (Mir.toK (.seqK (.block (.sB ?_))))))) h
 refine .seqK (.bind λy1 hy68=>.regionD [] (by kernel_rfl) λe h=>?_)
 simp only[seval,EMB,SB,zD,qr63]
 refine Spec.by (dZ hy68) (by simp only[seval,FMB]) ?_
 simp only[seval,EMB,SB]
 refine mU e (.sB ?_) h
 refine .cond rfl (λhb70=>?_) (λhb70=>?_)
 refine .sB ?_
 refine .ret QB
 refine .skip (Mir.toB (Mir.toK (.region λe h=>?_)))
 simp only[seval,EMB]
 cases h
 simp only[seval,FMB,qr63]
 intro v1 qd64
 refine .sR λe h=>?_
 simp only[seval,EMB,qd64]
 refine mU e (.seqK (.condF rfl (.exit QB))) h
 intro v2
 refine Mir.toK (.sB ?_)
 refine .ret QB
def tb_slot(a0:Int):Option (Int×Int):=if (((zL a0 1000) != 0)||((decide (a0<54000))||(decide (a0>59000))))=true then some (0,4)else some (zM.wrap ((zM.wrap (zG a0 1000))-54),0)
theorem tb_slot_spec{a0:Int}{y:Int×Int}(h:tb_slot a0=some y):Spec gP 153 [.d (.int .i64 a0)] (.tuple [.d (.int .i64 y.1),.d (.int .i64 y.2)]):=by
 refine auB Tryz.func153 (λy:Int×Int=>.tuple [.d (.int .i64 y.1),.d (.int .i64 y.2)]) ?_ h
 unfold tb_slot
 refine .sB ?_
 refine .seqK (.seqK (.joinV [.d (.int .i64 a0),U,U,U,U,U,U,U,U,U,U,U,U,U,.d (.bool (((zL a0 1000) != 0)||((decide (a0<54000))||(decide (a0>59000))))),U,U,U] ⟨[],[]⟩ rfl ?_ ?_))
 refine SWs.region ?_
 rcases zF ((zL a0 1000) != 0)with hb1 | hb1
 simp only[seval,EMB,SL,PB,hb1]
 rcases zF (decide (a0<54000))with hb2 | hb2
 simp only[seval,EMB,SL,PB,hb1,hb2]
 simp only[seval,EMB,SL,PB,hb1,hb2]
 refine Mir.toK (.cond rfl (λhb4=>?_) (λhb4=>?_))
 refine .sB ?_
 refine .ret QB
 refine .skip (Mir.toK (.sB ?_))
 refine .ret QB
def cY(a0:Int):Option Bool:=some (a0 != a0)
theorem fw{a0:Int}{y:Bool}(h:cY a0=some y):Spec gP 211 [.d (.int .i64 a0)] (.d (.bool y)):=by
 refine auB Tryz.func211 (λy:Bool=>.d (.bool y)) ?_ h
 unfold cY
 refine .sB ?_
 refine .sB ?_
 refine .ret QB
def cj(a0:Int)(a1:Int):Option Int:=bindO (cY a0) λ(y1:Bool)=>bindO (cY a1) λ(y2:Bool)=>if y1=true then if y2=true then some 0 else some (-1)else if y2=true then some 1 else if (decide (a0<a1))=true then some (-1)else if (decide (a0>a1))=true then some 1 else some 0
theorem iX{a0:Int}{a1:Int}{y:Int}(h:cj a0 a1=some y):Spec gP 196 [.d (.int .i64 a0),.d (.int .i64 a1)] (.d (.int .i64 y)):=by
 refine auB Tryz.func196 (λy:Int=>.d (.int .i64 y)) ?_ h
 unfold cj
 refine .sB ?_
 refine .seqK (.bind λy1 hy1=>.region λe h=>WB ?_)
 refine .byB (fw hy1) (mB ?_ h)
 refine .seqK (.bind λy2 hy2=>.region λe h=>WB ?_)
 refine .byB (fw hy2) (mB ?_ h)
 refine .seqK (.sB ?_)
 refine .cond rfl (λhb6=>?_) (λhb6=>?_)
 refine .seqK (.sB ?_)
 refine .cond rfl (λhb8=>?_) (λhb8=>?_)
 refine .sB ?_
 refine .ret QB
 refine .skip (Mir.toK (.sB ?_))
 refine .ret QB
 refine .skip (Mir.toK (.seqK (.sB ?_)))
 refine .cond rfl (λhb10=>?_) (λhb10=>?_)
 refine .sB ?_
 refine .ret QB
 refine .skip (Mir.toK (.seqK (.sB ?_)))
 refine .cond rfl (λhb12=>?_) (λhb12=>?_)
 refine .sB ?_
 refine .ret QB
 refine .skip (Mir.toK (.seqK (.sB ?_)))
 refine .cond rfl (λhb14=>?_) (λhb14=>?_)
 refine .sB ?_
 refine .ret QB
 refine .skip (Mir.toK (.sB ?_))
 refine .ret QB
def fJ(a0:aQ)(a1:Int):Option Int:=bindO (cj a0.Number a1) λ(y1:Int)=>some y1
theorem ja{a0:aQ}{a1:Int}{y:Int}(h:fJ a0 a1=some y):Spec gP 195 [.agg [.d (.int .i64 a0.Number),.d (.int .i64 a0.Length)],.d (.int .i64 a1)] (.d (.int .i64 y)):=by
 refine auB Tryz.func195 (λy:Int=>.d (.int .i64 y)) ?_ h
 unfold fJ
 refine .sB ?_
 refine .seqK (.bind λy1 hy1=>.region λe h=>WB ?_)
 refine .byB (iX hy1) (mB ?_ h)
 refine .ret QB
def tb_find(a0:aw)(a1:Int):Option (Int×Bool):=bindO (bindO (loopX (λ(v1:Int×Int)=>if (decide (v1.1<v1.2))=true then bindO (gt a0.Lengths (zM.wrap (shrI .u64 (IntKind.u64.wrap (zM.wrap (v1.1+v1.2))) 1))) λ(e1:aQ)=>bindO (fJ e1 a1) λ(y1:Int)=>if (decide (y1<0))=true then some (.go (zM.wrap ((zM.wrap (shrI .u64 (IntKind.u64.wrap (zM.wrap (v1.1+v1.2))) 1))+1),v1.2))else some (.go (v1.1,zM.wrap (shrI .u64 (IntKind.u64.wrap (zM.wrap (v1.1+v1.2))) 1)))else some (.ret v1.1)) fuel (0,(a0.Lengths.length:Int))) λ(v2:Int)=>bindO (if (decide (v2<(a0.Lengths.length:Int)))=true then bindO (gt a0.Lengths v2) λ(e2:aQ)=>bindO (fJ e2 a1) λ(y2:Int)=>some (y2==0)else some false) λ(v3:Bool)=>some (v2,v3)) λ(v4:Int×Bool)=>some (v4.1,v4.2)
theorem tb_find_spec{a0:aw}{a1:Int}{y:Int×Bool}(h:tb_find a0 a1=some y):Spec gP 172 [.agg (w6 a0.Work [.d (.list (zA ar a0.Lengths))]),.d (.int .i64 a1)] (.tuple [.d (.int .i64 y.1),.d (.bool y.2)]):=by
 refine auB Tryz.func172 (λy:Int×Bool=>.tuple [.d (.int .i64 y.1),.d (.bool y.2)]) ?_ h
 unfold tb_find
 refine .sB ?_
 refine .seqK (.bind λv4 hv34=>.region λe h=>WB ?_)
 refine SpecS.inl Tryz.func194 rfl (by kernel_rfl) (by kernel_rfl) (λv4:Int×Bool=>.tuple [.d (.int .i64 v4.1),.d (.bool v4.2)]) (λv4=>⟨[(w6 a0.Work [.d (.list (zA ar a0.Lengths))])],[]⟩) hv34 rfl ?_ ?_
 simp only[zB,zE,nS,nA,Tryz.ntmps194,SV]
 refine .sB ?_
 refine .sB ?_
 refine .sB ?_
 refine .seqK (Mir.joinO (λv2:Int=>([.d (.list (zA ar a0.Lengths)),.d (.int .i64 a1),.fn 195 [],U,U,U,U,U,.d (.int .i64 (a0.Lengths.length:Int)),.d (.int .i64 v2)]++us 39)) (λv2=>⟨[(w6 a0.Work [.d (.list (zA ar a0.Lengths))])],[]⟩) (λ_=>rfl) ?_ ?_)
 refine .block (Mir.loop (λv1:Int×Int=>([.d (.list (zA ar a0.Lengths)),.d (.int .i64 a1),.fn 195 [],U,U,U,U,U,.d (.int .i64 (a0.Lengths.length:Int)),.d (.int .i64 v1.1),.d (.int .i64 v1.2)]++us 38)) (λv1=>⟨[(w6 a0.Work [.d (.list (zA ar a0.Lengths))])],[]⟩) (λ_=>rfl) (by simp only[seval,FMB]) (by simp only[seval,FMB]) λv1=>.seqK (.sB ?_))
 refine .cond rfl (λhb61=>?_) (λhb61=>?_)
 refine .skip (Mir.toK (.block (.sB ?_)))
 refine .seqK (.bind λe1 q62=>?_)
 replace q62:=gt_ok q62
 refine .bind λy1 hy63=>.region λe h=>?_
 simp only[seval,EMB,q62]
 refine .byB (ja hy63) (mB ?_ h)
 refine .cond rfl (λ_=>.rB) (λ_=>.rB)
 refine .exit QB
 intro v2
 refine Mir.toK (.seqK (Mir.joinO (λv3:Bool=>([U,U,U,U,U,U,.d (.int .i64 v2),.d (.bool v3)]++us 41)) (λv3=>⟨[(w6 a0.Work [.d (.list (zA ar a0.Lengths))])],[]⟩) (λ_=>rfl) ?_ ?_))
 refine .ite (λhb65=>?_) (λhb65=>?_)
 refine .bind λe2 q66=>?_
 replace q66:=gt_ok q66
 refine .bind λy2 hy67=>.region λe h=>?_
 simp only[seval,EMB,q66,hb65]
 refine SpecS.by (ja hy67) (by simp only[seval,FMB,hb65]) ?_
 simp only[seval,EMB,hb65]
 cases h
 simp only[seval,FMB,hb65]
 refine .region λe h=>?_
 simp only[seval,EMB,hb65]
 cases h
 simp only[seval,FMB,hb65]
 intro v3
 refine Mir.toK (.ret QB)
 simp only[seval,EMB]
 refine mU e (.ret QB) h
def fS(a0:aw)(a1:Int):Option (Int×Int):=if (a1==0)=true then some (0,0)else bindO (tb_find (aw.mk a0.Work a0.Lengths) a1) λ(y1:Int×Bool)=>if (!y1.2)=true then some (0,4)else bindO (gt a0.Lengths y1.1) λ(e1:aQ)=>some (e1.Length,0)
theorem tb_length_spec{a0:aw}{a1:Int}{y:Int×Int}(h:fS a0 a1=some y):Spec gP 154 [.agg (w6 a0.Work [.d (.list (zA ar a0.Lengths))]),.d (.int .i64 a1)] (.tuple [.d (.int .i64 y.1),.d (.int .i64 y.2)]):=by
 refine auB Tryz.func154 (λy:Int×Int=>.tuple [.d (.int .i64 y.1),.d (.int .i64 y.2)]) ?_ h
 unfold fS
 refine .sB ?_
 refine .seqK (.sB ?_)
 refine .cond rfl (λhb2=>?_) (λhb2=>?_)
 refine .sB ?_
 refine .ret QB
 refine .skip (Mir.toK (.seqK (.bind λy1 hy3=>.region λe h=>WB ?_)))
 refine .byB (tb_find_spec hy3) (mB ?_ h)
 refine .seqK (.sB ?_)
 refine .cond rfl (λhb5=>?_) (λhb5=>?_)
 refine .sB ?_
 refine .ret QB
 refine .skip (Mir.toK (.seqK (.bind λe1 q6=>?_)))
 replace q6:=gt_ok q6
 refine .region λe h=>?_
 simp only[seval,EMB,q6]
 refine mU e (.ret QB) h
def eW(a0:aw)(a1:Int)(a2:Int):Option (ae×Int):=bindO (dI a0) λ(y1:Int)=>if (y1 != 0)=true then some (ae.mk 0 0 0,y1)else bindO (tb_slot a1) λ(y2:Int×Int)=>bindO (fS (aw.mk a0.Work a0.Lengths) a2) λ(y3:Int×Int)=>if ((y2.2 != 0)||(y3.2 != 0))=true then some (ae.mk 0 0 0,4)else bindO (az (decide (0≤y2.1∧y2.1<6)) ( if (y2.1==0)=true then some a0.Work.e0 else if (y2.1==1)=true then some a0.Work.e1 else if (y2.1==2)=true then some a0.Work.e2 else if (y2.1==3)=true then some a0.Work.e3 else if (y2.1==4)=true then some a0.Work.e4 else some a0.Work.e5)) λ(v1:ae)=>some (ae.mk v1.X v1.Y (zM.wrap (v1.Z+y3.1)),0)
theorem j9{a0:aw}{a1:Int}{a2:Int}{y:ae×Int}(h:eW a0 a1 a2=some y):Spec gP 131 [.agg (w6 a0.Work [.d (.list (zA ar a0.Lengths))]),.d (.int .i64 a1),.d (.int .i64 a2)] (.tuple [.agg [.d (.int .i64 y.1.X),.d (.int .i64 y.1.Y),.d (.int .i64 y.1.Z)],.d (.int .i64 y.2)]):=by
 refine auB Tryz.func131 (λy:ae×Int=>.tuple [.agg [.d (.int .i64 y.1.X),.d (.int .i64 y.1.Y),.d (.int .i64 y.1.Z)],.d (.int .i64 y.2)]) ?_ h
 unfold eW
 refine .sB ?_
 refine .seqK (.seqK (.bind λy1 hy1=>.region λe h=>WB ?_))
 refine .byB (tb_Valid_spec hy1) (mB ?_ h)
 refine .sB ?_
 refine .cond rfl (λhb3=>?_) (λhb3=>?_)
 refine .sB ?_
 refine .ret QB
 refine .skip (Mir.toK (.seqK (.bind λy2 hy4=>.region λe h=>WB ?_)))
 refine .byB (tb_slot_spec hy4) (mB ?_ h)
 refine .seqK (.bind λy3 hy5=>.region λe h=>WB ?_)
 refine .byB (tb_length_spec hy5) (mB ?_ h)
 refine .seqK (.seqK (.joinV ([U,U,U,.ptr 0 0,U,U,.ptr 1 0,U,U,.d (.int .i64 y2.1),U,.d (.int .i64 y3.1),U,U,U,U,U,U,U,U,U,U,U,U,U,U,U,U,U,U,U,U,U,U,U,U,.d (.bool ((y2.2 != 0)||(y3.2 != 0)))]++us 11) ⟨[(w6 a0.Work [.d (.list (zA ar a0.Lengths))]),[.d (.int .i64 0),.d (.int .i64 0),.d (.int .i64 0)]],[]⟩ rfl ?_ ?_))
 refine SWs.region ?_
 rcases zF (y2.2 != 0)with hb6 | hb6
 simp only[seval,EMB,SL,PB,hb6]
 simp only[seval,EMB,SL,PB,hb6]
 refine Mir.toK (.cond rfl (λhb8=>?_) (λhb8=>?_))
 refine .sB ?_
 refine .ret QB
 refine .skip (Mir.toK (.seqK (Mir.joinO (λv1:ae=>([U,U,U,U,U,U,.ptr 1 0,U,U,U,U,.d (.int .i64 y3.1),U,.ptr 2 0]++us 34)) (λv1=>⟨[(w6 a0.Work [.d (.list (zA ar a0.Lengths))]),[.d (.int .i64 0),.d (.int .i64 0),.d (.int .i64 0)],(cF v1)],[]⟩) (λ_=>rfl) ?_ ?_)))
 refine .guard λqi9=>.ite (λhb10=>?_) (λhb10=>?_)
 refine .region λe h=>?_
 simp only[seval,EMB,(eq_of_beq hb10),hb10]
 cases h
 simp only[seval,FMB,hb10]
 refine .ite (λhb11=>?_) (λhb11=>?_)
 refine .region λe h=>?_
 simp only[seval,EMB,(eq_of_beq hb11),hb10,hb11]
 cases h
 simp only[seval,FMB,hb10,hb11]
 refine .ite (λhb12=>?_) (λhb12=>?_)
 refine .region λe h=>?_
 simp only[seval,EMB,(eq_of_beq hb12),hb10,hb11,hb12]
 cases h
 simp only[seval,FMB,hb10,hb11,hb12]
 refine .ite (λhb13=>?_) (λhb13=>?_)
 refine .region λe h=>?_
 simp only[seval,EMB,(eq_of_beq hb13),hb10,hb11,hb12,hb13]
 cases h
 simp only[seval,FMB,hb10,hb11,hb12,hb13]
 refine .ite (λhb14=>?_) (λhb14=>?_)
 refine .region λe h=>?_
 simp only[seval,EMB,(eq_of_beq hb14),hb10,hb11,hb12,hb13,hb14]
 cases h
 simp only[seval,FMB,hb10,hb11,hb12,hb13,hb14]
 have hz15:y2.1=5:=by have h0:=of_decide_eq_true qi9;have h1:=bh hb10;have h2:=bh hb11;have h3:=bh hb12;have h4:=bh hb13;have h5:=bh hb14;omega
 refine .region λe h=>?_
 simp only[seval,EMB,hz15,hb10,hb11,hb12,hb13,hb14]
 cases h
 simp only[seval,FMB,hb10,hb11,hb12,hb13,hb14]
 intro v1
 refine Mir.toK (.sB ?_)
 refine .sB ?_
 refine .ret QB
def gA(a0:ae)(a1:ae)(a2:Int):Option (ae×Int):=bindO (iJ a0) λ(y1:Bool)=>if y1=true then some (ae.mk 0 0 0,11)else bindO (iJ (ae.mk (zM.wrap (a0.X+(zM.wrap (a2*a1.X)))) (zM.wrap (a0.Y+(zM.wrap (a2*a1.Y)))) (zM.wrap (a0.Z+(zM.wrap (a2*a1.Z)))))) λ(y2:Bool)=>if y2=true then some (ae.mk 0 0 0,11)else some (ae.mk (zM.wrap (a0.X+(zM.wrap (a2*a1.X)))) (zM.wrap (a0.Y+(zM.wrap (a2*a1.Y)))) (zM.wrap (a0.Z+(zM.wrap (a2*a1.Z)))),0)
theorem tb_moved_spec{a0:ae}{a1:ae}{a2:Int}{y:ae×Int}(h:gA a0 a1 a2=some y):Spec gP 132 [.agg (cF a0),.agg (cF a1),.d (.int .i64 a2)] (.tuple [.agg [.d (.int .i64 y.1.X),.d (.int .i64 y.1.Y),.d (.int .i64 y.1.Z)],.d (.int .i64 y.2)]):=by
 refine auB Tryz.func132 (λy:ae×Int=>.tuple [.agg [.d (.int .i64 y.1.X),.d (.int .i64 y.1.Y),.d (.int .i64 y.1.Z)],.d (.int .i64 y.2)]) ?_ h
 unfold gA
 refine .sB ?_
 refine .seqK (.seqK (.bind λy1 hy1=>.region λe h=>WB ?_))
 refine .byB (cR hy1) (mB ?_ h)
 refine .cond rfl (λhb3=>?_) (λhb3=>?_)
 refine .sB ?_
 refine .ret QB
 refine .skip (Mir.toK (.sB ?_))
 refine .seqK (.seqK (.bind λy2 hy4=>.region λe h=>WB ?_))
 refine .byB (cR hy4) (mB ?_ h)
 refine .cond rfl (λhb6=>?_) (λhb6=>?_)
 refine .sB ?_
 refine .ret QB
 refine .skip (Mir.toK (.sB ?_))
 refine .ret QB
def il(a0:aw)(a1:Int)(a2:Int)(a3:ae):Option (ae×Int):=bindO (eW (aw.mk a0.Work a0.Lengths) a1 a2) λ(y1:ae×Int)=>if (y1.2 != 0)=true then some (ae.mk 0 0 0,y1.2)else bindO (gA a3 y1.1 (-1)) λ(y2:ae×Int)=>some (y2.1,y2.2)
theorem tb_Work_spec{a0:aw}{a1:Int}{a2:Int}{a3:ae}{y:ae×Int}(h:il a0 a1 a2 a3=some y):Spec gP 105 [.agg (w6 a0.Work [.d (.list (zA ar a0.Lengths))]),.d (.int .i64 a1),.d (.int .i64 a2),.agg (cF a3)] (.tuple [.agg [.d (.int .i64 y.1.X),.d (.int .i64 y.1.Y),.d (.int .i64 y.1.Z)],.d (.int .i64 y.2)]):=by
 refine auB Tryz.func105 (λy:ae×Int=>.tuple [.agg [.d (.int .i64 y.1.X),.d (.int .i64 y.1.Y),.d (.int .i64 y.1.Z)],.d (.int .i64 y.2)]) ?_ h
 unfold il
 refine .sB ?_
 refine .seqK (.bind λy1 hy1=>.region λe h=>WB ?_)
 refine .byB (j9 hy1) (mB ?_ h)
 refine .seqK (.sB ?_)
 refine .cond rfl (λhb3=>?_) (λhb3=>?_)
 refine .sB ?_
 refine .ret QB
 refine .skip (Mir.toK (.seqK (.bind λy2 hy4=>.region λe h=>WB ?_)))
 refine .byB (tb_moved_spec hy4) (mB ?_ h)
 refine .ret QB
def gX(a0:ak)(a1:aa)(a2:ae):Option ae:=bindO (bindO (bindO (eP a1 88) λ(y1:Int×Bool)=>if (!y1.2)=true then some a2.X else if (a0.Distance==90000)=true then some y1.1 else some (zM.wrap (a2.X+y1.1))) λ(v1:Int)=>bindO (bindO (eP a1 89) λ(y2:Int×Bool)=>if (!y2.2)=true then some a2.Y else if (a0.Distance==90000)=true then some y2.1 else some (zM.wrap (a2.Y+y2.1))) λ(v2:Int)=>bindO (bindO (eP a1 90) λ(y3:Int×Bool)=>if (!y3.2)=true then some a2.Z else if (a0.Distance==90000)=true then some y3.1 else some (zM.wrap (a2.Z+y3.1))) λ(v3:Int)=>some (ae.mk v1 v2 v3)) λ(v4:ae)=>some v4
theorem inp_target_spec{a0:ak}{a1:aa}{a2:ae}{y:ae}(h:gX a0 a1 a2=some y):Spec gP 133 [.agg (cA a0),.agg (cG a1),.agg (cF a2)] (.agg [.d (.int .i64 y.X),.d (.int .i64 y.Y),.d (.int .i64 y.Z)]):=by
 refine auB Tryz.func133 (λy:ae=>.agg [.d (.int .i64 y.X),.d (.int .i64 y.Y),.d (.int .i64 y.Z)]) ?_ h
 unfold gX
 refine .sB ?_
 refine .seqK (.sR λe h=>?_)
 simp only[seval,EMB,(oL 6),(nr rfl:((3:Nat):Int)=3)]
 refine mU e (Mir.joinO (λv4:ae=>([U,U,U,U,U,.ptr 2 0,.ptr 3 0]++us 43)) (λv4=>⟨[(cA a0),(cG a1),(cF v4),[.d (.int .i64 0),.d (.int .i64 0),.d (.int .i64 0)],[.d (.int .u8 88),.ptr 2 0,.d (.int .u8 89),.ptr 2 1,.d (.int .u8 90),.ptr 2 2]],[]⟩) (λ_=>rfl) ?_ ?_) h
 refine .block (.loopR 15 (.sB ?_))
 refine .seqK (.condT rfl (.skip (Mir.toK (.seqK (Mir.joinO (λv1:Int=>([U,U,U,.ptr 0 0,.ptr 1 0,.ptr 2 0,.ptr 3 0,U,U,U,U,U,U,U,U,U,U,.sl 4 0 3 3,.d (.int .i64 3),.d (.int .i64 0)]++us 30)) (λv1=>⟨[(cA a0),(cG a1),[.d (.int .i64 v1),.d (.int .i64 a2.Y),.d (.int .i64 a2.Z)],[.d (.int .i64 0),.d (.int .i64 0),.d (.int .i64 0)],[.d (.int .u8 88),.ptr 2 0,.d (.int .u8 89),.ptr 2 1,.d (.int .u8 90),.ptr 2 2]],[]⟩) (λ_=>rfl) ?_ ?_)))))
 refine .block (.sB ?_)
 refine .seqK (.bind λy1 hy22=>.region λe h=>WB ?_)
 refine .byB (dZ hy22) (mB ?_ h)
 refine .block (.sB ?_)
 refine .cond rfl (λ_=>.skip QB) (λhb23=>?_)
 refine .sB ?_
 refine .cond rfl (λ_=>.rB) (λ_=>.rB)
 intro v1
 refine Mir.toK (.region λe h=>?_)
 simp only[seval,EMB,(nr rfl:zM.wrap 1=1)]
 refine Mir.useN (e:=e) ?_ h
 refine .sB ?_
 refine .seqK (.condT rfl (.skip (Mir.toK (.seqK (Mir.joinO (λv2:Int=>([U,U,U,.ptr 0 0,.ptr 1 0,.ptr 2 0,.ptr 3 0,U,U,U,U,U,U,U,U,U,U,.sl 4 0 3 3,.d (.int .i64 3),.d (.int .i64 1)]++us 30)) (λv2=>⟨[(cA a0),(cG a1),[.d (.int .i64 v1),.d (.int .i64 v2),.d (.int .i64 a2.Z)],[.d (.int .i64 0),.d (.int .i64 0),.d (.int .i64 0)],[.d (.int .u8 88),.ptr 2 0,.d (.int .u8 89),.ptr 2 1,.d (.int .u8 90),.ptr 2 2]],[]⟩) (λ_=>rfl) ?_ ?_)))))
 refine .block (.sB ?_)
 refine .seqK (.bind λy2 hy28=>.region λe h=>WB ?_)
 refine .byB (dZ hy28) (mB ?_ h)
 refine .block (.sB ?_)
 refine .cond rfl (λ_=>.skip QB) (λhb29=>?_)
 refine .sB ?_
 refine .cond rfl (λ_=>.rB) (λ_=>.rB)
 intro v2
 refine Mir.toK (.region λe h=>?_)
 simp only[seval,EMB,(nr rfl:zM.wrap 2=2)]
 refine Mir.useN (e:=e) ?_ h
 refine .sB ?_
 refine .seqK (.condT rfl (.skip (Mir.toK (.seqK (Mir.joinO (λv3:Int=>([U,U,U,.ptr 0 0,.ptr 1 0,.ptr 2 0,.ptr 3 0,U,U,U,U,U,U,U,U,U,U,.sl 4 0 3 3,.d (.int .i64 3),.d (.int .i64 2)]++us 30)) (λv3=>⟨[(cA a0),(cG a1),[.d (.int .i64 v1),.d (.int .i64 v2),.d (.int .i64 v3)],[.d (.int .i64 0),.d (.int .i64 0),.d (.int .i64 0)],[.d (.int .u8 88),.ptr 2 0,.d (.int .u8 89),.ptr 2 1,.d (.int .u8 90),.ptr 2 2]],[]⟩) (λ_=>rfl) ?_ ?_)))))
 refine .block (.sB ?_)
 refine .seqK (.bind λy3 hy34=>.region λe h=>WB ?_)
 refine .byB (dZ hy34) (mB ?_ h)
 refine .block (.sB ?_)
 refine .cond rfl (λ_=>.skip QB) (λhb35=>?_)
 refine .sB ?_
 refine .cond rfl (λ_=>.rB) (λ_=>.rB)
 intro v3
 refine Mir.toK (.region λe h=>?_)
 simp only[seval,EMB,(nr rfl:zM.wrap 3=3)]
 refine Mir.useN (e:=e) ?_ h
 refine .sB ?_
 refine .seqK (.condF rfl (.exit QB))
 intro v4
 refine Mir.toK (.sB ?_)
 refine .ret QB
def gW(a0:aa)(a1:Int):Option Int:=bindO (eP a0 a1) λ(y1:Int×Bool)=>some y1.1
theorem kg{a0:aa}{a1:Int}{y:Int}(h:gW a0 a1=some y):Spec gP 157 [.agg (cG a0),.d (.int .u8 a1)] (.d (.int .i64 y)):=by
 refine auB Tryz.func157 (λy:Int=>.d (.int .i64 y)) ?_ h
 unfold gW
 refine .sB ?_
 refine .seqK (.bind λy1 hy1=>.region λe h=>WB ?_)
 refine .byB (dZ hy1) (mB ?_ h)
 refine .sB ?_
 refine .ret QB
def cc(a0:ae)(a1:ay):Option (Int×Int):=bindO (fF a1) λ(y1:Bool)=>if (!y1)=true then some (0,1)else bindO (eU a0 a1) λ(y2:Int)=>if (y2 != 0)=true then some (0,y2)else bindO (cO a0 a1.Center) λ(y3:Int×Int)=>bindO (cO a1.To a1.Center) λ(y4:Int×Int)=>bindO (if (a1.Kind==3)=true then some (zM.wrap (0-(zM.wrap (y4.1-y3.1))))else some (zM.wrap (y4.1-y3.1))) λ(v1:Int)=>bindO (if (decide (v1≤0))=true then some (zM.wrap (v1+4))else some v1) λ(v2:Int)=>some (v2,0)
theorem ip_Quarters_spec{a0:ae}{a1:ay}{y:Int×Int}(h:cc a0 a1=some y):Spec gP 178 [.agg (cF a0),.agg (cB a1)] (.tuple [.d (.int .i64 y.1),.d (.int .i64 y.2)]):=by
 refine auB Tryz.func178 (λy:Int×Int=>.tuple [.d (.int .i64 y.1),.d (.int .i64 y.2)]) ?_ h
 unfold cc
 refine .sB ?_
 refine .seqK (.seqK (.bind λy1 hy1=>.region λe h=>WB ?_))
 refine .byB (dl hy1) (mB ?_ h)
 refine .cond rfl (λhb3=>?_) (λhb3=>?_)
 refine .sB ?_
 refine .ret QB
 refine .skip (Mir.toK (.seqK (.seqK (.bind λy2 hy4=>.region λe h=>WB ?_))))
 refine .byB (ip_Valid_spec hy4) (mB ?_ h)
 refine .sB ?_
 refine .cond rfl (λhb6=>?_) (λhb6=>?_)
 refine .sB ?_
 refine .ret QB
 refine .skip (Mir.toK (.seqK (.bind λy3 hy7=>.region λe h=>WB ?_)))
 refine .byB (dj hy7) (mB ?_ h)
 refine .seqK (.bind λy4 hy8=>.region λe h=>WB ?_)
 refine .byB (dj hy8) (mB ?_ h)
 refine .sB ?_
 refine .seqK (.sB ?_)
 refine Mir.joinO (λv1:Int=>([U,U,U,U,U,U,U,U,U,U,U,.d (.int .i64 v1)]++us 37)) (λv1=>⟨[(cF a0),(cB a1)],[]⟩) (λ_=>rfl) ?_ ?_
 refine .cond rfl (λ_=>.rB) (λ_=>.skip QB)
 intro v1
 refine Mir.toK (.seqK (.sB ?_))
 refine Mir.joinO (λv2:Int=>([U,U,U,U,U,U,U,U,U,U,U,.d (.int .i64 v2)]++us 37)) (λv2=>⟨[(cF a0),(cB a1)],[]⟩) (λ_=>rfl) ?_ ?_
 refine .cond rfl (λ_=>.rB) (λ_=>.skip QB)
 intro v2
 refine Mir.toK (.sB ?_)
 refine .ret QB
def jt(a0:Int):Option Int:=if (decide (a0≤0))=true then some 0 else bindO (loopX (λ(v1:Int×Int)=>if (decide (v1.1<v1.2))=true then if (decide ((zM.wrap ((zM.wrap (zG (zM.wrap (v1.1+v1.2)) 2))*(zM.wrap (zG (zM.wrap (v1.1+v1.2)) 2))))≥(zM.wrap ((zM.wrap (zG (zM.wrap (a0-1)) 10))+1))))=true then some (.go (v1.1,zM.wrap (zG (zM.wrap (v1.1+v1.2)) 2)))else some (.go (zM.wrap ((zM.wrap (zG (zM.wrap (v1.1+v1.2)) 2))+1),v1.2))else some (.ret v1.1)) fuel (1,1073741824)) λ(v2:Int)=>some v2
theorem ip_Chords_spec{a0:Int}{y:Int}(h:jt a0=some y):Spec gP 179 [.d (.int .i64 a0)] (.d (.int .i64 y)):=by
 refine auB Tryz.func179 (λy:Int=>.d (.int .i64 y)) ?_ h
 unfold jt
 refine .sB ?_
 refine .seqK (.sB ?_)
 refine .cond rfl (λhb2=>?_) (λhb2=>?_)
 refine .sB ?_
 refine .ret QB
 refine .skip (Mir.toK (.sB ?_))
 refine .sB ?_
 refine .seqK (Mir.joinO (λv2:Int=>([U,U,U,U,.d (.int .i64 v2)]++us 24)) (λv2=>⟨[],[]⟩) (λ_=>rfl) ?_ ?_)
 refine .block (Mir.loop (λv1:Int×Int=>([U,U,U,.d (.int .i64 (zM.wrap ((zM.wrap (zG (zM.wrap (a0-1)) 10))+1))),.d (.int .i64 v1.1),.d (.int .i64 v1.2)]++us 23)) (λv1=>⟨[],[]⟩) (λ_=>rfl) (by simp only[seval,FMB]) (by simp only[seval,FMB]) λv1=>.seqK (.sB ?_))
 refine .cond rfl (λh1=>?_) (λh1=>?_)
 refine .skip (Mir.toK (.block (.sB ?_)))
 refine .sB ?_
 refine .cond rfl (λ_=>.rB) (λ_=>.rB)
 refine .exit QB
 intro v2
 refine Mir.toK (.sB ?_)
 refine .ret QB
def gV(a0:Int)(a1:Int)(a2:Int):Option (Int×Int):=bindO (loopX (λ(v1:Int×Int×Int)=>if (decide (v1.2.2<(andI .i64 a2 3)))=true then some (.go (zM.wrap (0-v1.2.1),v1.1,zM.wrap (v1.2.2+1)))else some (.ret (v1.1,v1.2.1))) fuel (a0,a1,0)) λ(v2:Int×Int)=>some (v2.1,v2.2)
theorem kf{a0:Int}{a1:Int}{a2:Int}{y:Int×Int}(h:gV a0 a1 a2=some y):Spec gP 180 [.d (.int .i64 a0),.d (.int .i64 a1),.d (.int .i64 a2)] (.tuple [.d (.int .i64 y.1),.d (.int .i64 y.2)]):=by
 refine auB Tryz.func180 (λy:Int×Int=>.tuple [.d (.int .i64 y.1),.d (.int .i64 y.2)]) ?_ h
 unfold gV
 refine .sB ?_
 refine .seqK (.sB ?_)
 refine Mir.joinO (λv2:Int×Int=>([.d (.int .i64 v2.1),.d (.int .i64 v2.2)]++us 16)) (λv2=>⟨[],[]⟩) (λ_=>rfl) ?_ ?_
 refine .block (Mir.loop (λv1:Int×Int×Int=>([.d (.int .i64 v1.1),.d (.int .i64 v1.2.1),U,U,U,U,U,U,U,.d (.int .i64 (andI .i64 a2 3)),.d (.int .i64 v1.2.2)]++us 7)) (λv1=>⟨[],[]⟩) (λ_=>rfl) (by simp only[seval,FMB]) (by simp only[seval,FMB]) λv1=>.sB ?_)
 refine .seqK (.cond rfl (λhb12=>?_) (λhb12=>?_))
 refine .skip (Mir.toK (.seqK (.block (.region λe h=>WB ?_))))
 refine mU e (.rB) h
 refine .exit QB
 intro v2
 refine Mir.toK (.sB ?_)
 refine .ret QB
def ip_floor(a0:Int)(a1:Int):Option Int:=az (!(a1==0)) ( az (!(a1==0)) ( bindO (if (decide ((zL a0 a1)<0))=true then some (zM.wrap ((zM.wrap (zG a0 a1))-1))else some (zM.wrap (zG a0 a1))) λ(v1:Int)=>some v1))
theorem ip_floor_spec{a0:Int}{a1:Int}{y:Int}(h:ip_floor a0 a1=some y):Spec gP 181 [.d (.int .i64 a0),.d (.int .i64 a1)] (.d (.int .i64 y)):=by
 refine auB Tryz.func181 (λy:Int=>.d (.int .i64 y)) ?_ h
 unfold ip_floor
 refine .sB ?_
 refine .seqK (.guard λq1=>?_)
 replace q1:=ne_of q1
 refine .region λe h=>?_
 simp only[seval,EMB,q1]
 refine mU e (.seqK (.seqK (.guard λq2=>?_))) h
 replace q2:=ne_of q2
 refine .region λe h=>?_
 simp only[seval,EMB,q2]
 refine mU e (Mir.joinO (λv1:Int=>([U,U,U,U,U,.d (.int .i64 v1)]++us 10)) (λv1=>⟨[],[]⟩) (λ_=>rfl) ?_ ?_) h
 refine .cond rfl (λ_=>.rB) (λ_=>.skip QB)
 intro v1
 refine Mir.toK (.sB ?_)
 refine .ret QB
def ip_Arc(a0:ae)(a1:ay):Option ((List ae)×Int):=bindO (cc a0 a1) λ(y1:Int×Int)=>if (y1.2 != 0)=true then some ([],y1.2)else bindO (cO a0 a1.Center) λ(y2:Int×Int)=>bindO (jt (zM.wrap y2.2)) λ(y3:Int)=>if (decide ((zM.wrap (y3*y1.1))>20000))=true then some ([],3)else bindO (loopX (λ(v1:(List ae)×Int)=>if (decide (v1.2<y1.1))=true then bindO (loopX (λ(v2:(List ae)×Int)=>if (decide (v2.2≤y3))=true then az (!((zM.wrap ((zM.wrap (y3*y3))+(zM.wrap (v2.2*v2.2))))==0)) ( az (!((zM.wrap ((zM.wrap (y3*y3))+(zM.wrap (v2.2*v2.2))))==0)) ( bindO (if (a1.Kind==3)=true then bindO (gV (zM.wrap (zG (zM.wrap ((zM.wrap y2.2)*(zM.wrap ((zM.wrap (y3*y3))-(zM.wrap (v2.2*v2.2)))))) (zM.wrap ((zM.wrap (y3*y3))+(zM.wrap (v2.2*v2.2)))))) (zM.wrap (0-(zM.wrap (zG (zM.wrap ((zM.wrap ((zM.wrap (2*(zM.wrap y2.2)))*v2.2))*y3)) (zM.wrap ((zM.wrap (y3*y3))+(zM.wrap (v2.2*v2.2)))))))) (zM.wrap ((zM.wrap (y2.1-v1.2))+4))) λ(y4:Int×Int)=>some (y4.1,y4.2)else bindO (gV (zM.wrap (zG (zM.wrap ((zM.wrap y2.2)*(zM.wrap ((zM.wrap (y3*y3))-(zM.wrap (v2.2*v2.2)))))) (zM.wrap ((zM.wrap (y3*y3))+(zM.wrap (v2.2*v2.2)))))) (zM.wrap (zG (zM.wrap ((zM.wrap ((zM.wrap (2*(zM.wrap y2.2)))*v2.2))*y3)) (zM.wrap ((zM.wrap (y3*y3))+(zM.wrap (v2.2*v2.2)))))) (zM.wrap (y2.1+v1.2))) λ(y5:Int×Int)=>some (y5.1,y5.2)) λ(v3:Int×Int)=>bindO (ip_floor (zM.wrap ((zM.wrap (a1.To.Z-a0.Z))*(zM.wrap ((v2.1.length:Int)+1)))) (zM.wrap (y3*y1.1))) λ(y6:Int)=>az (okLen (v2.1.length+1)) ( some (.go (v2.1++[ae.mk (zM.wrap (a1.Center.X+v3.1)) (zM.wrap (a1.Center.Y+v3.2)) (zM.wrap (a0.Z+y6))],zM.wrap (v2.2+1))))))else some (.ret v2.1)) fuel (v1.1,1)) λ(v4:(List ae))=>some (.go (v4,zM.wrap (v1.2+1)))else some (.ret v1.1)) fuel ([],0)) λ(v5:(List ae))=>some (v5,0)
theorem ip_Arc_spec{a0:ae}{a1:ay}{y:(List ae)×Int}(h:ip_Arc a0 a1=some y):Spec gP 158 [.agg (cF a0),.agg (cB a1)] (.tuple [.d (.list (zA bt y.1)),.d (.int .i64 y.2)]):=by
 refine auB Tryz.func158 (λy:(List ae)×Int=>.tuple [.d (.list (zA bt y.1)),.d (.int .i64 y.2)]) ?_ h
 unfold ip_Arc
 refine .sB ?_
 refine .seqK (.bind λy1 hy1=>.region λe h=>WB ?_)
 refine .byB (ip_Quarters_spec hy1) (mB ?_ h)
 refine .seqK (.sB ?_)
 refine .cond rfl (λhb3=>?_) (λhb3=>?_)
 refine .sB ?_
 refine .ret QB
 refine .skip (Mir.toK (.seqK (.bind λy2 hy4=>.region λe h=>WB ?_)))
 refine .byB (dj hy4) (mB ?_ h)
 refine .sB ?_
 refine .seqK (.bind λy3 hy5=>.region λe h=>WB ?_)
 refine .byB (ip_Chords_spec hy5) (mB ?_ h)
 refine .sB ?_
 refine .seqK (.sB ?_)
 refine .cond rfl (λhb7=>?_) (λhb7=>?_)
 refine .sB ?_
 refine .ret QB
 refine .skip (Mir.toK (.sB ?_))
 refine .seqK (.sB ?_)
 refine .gh [.slot 13 24] rfl (Mir.joinO (λv5:(List ae)=>([U,U,U,U,U,U,U,U,U,U,U,U,U,.own 0 (zA bt v5)]++us 125)) (λv5=>⟨[(cF a0),(cB a1)],[(24,v5.length)]⟩) (λ_=>rfl) ?_ ?_)
 refine .block (Mir.loop (λv1:(List ae)×Int=>([U,U,.ptr 0 0,.ptr 1 0,U,U,U,U,.d (.int .i64 y2.1),U,.d (.int .i64 (zM.wrap y2.2)),.d (.int .i64 y3),.d (.int .i64 (zM.wrap (y3*y1.1))),.own 0 (zA bt v1.1),U,U,U,U,U,U,U,U,U,U,U,U,U,U,U,U,U,U,U,U,U,U,U,U,U,U,U,U,U,U,.d (.int .i64 y1.1),.d (.int .i64 v1.2)]++us 93)) (λv1=>⟨[(cF a0),(cB a1)],[(24,v1.1.length)]⟩) (λ_=>rfl) (by simp only[seval,FMB]) (by simp only[seval,FMB]) λv1=>.sB ?_)
 refine .seqK (.cond rfl (λh1=>?_) (λh1=>?_))
 refine .skip (Mir.toK (.seqK (Mir.joinO (λv4:(List ae)=>([U,U,.ptr 0 0,.ptr 1 0,U,U,U,U,.d (.int .i64 y2.1),U,.d (.int .i64 (zM.wrap y2.2)),.d (.int .i64 y3),.d (.int .i64 (zM.wrap (y3*y1.1))),.own 0 (zA bt v4),U,U,U,U,U,U,U,U,U,U,U,U,U,U,U,U,U,U,U,U,U,U,U,U,U,U,U,U,U,U,.d (.int .i64 y1.1),.d (.int .i64 v1.2)]++us 93)) (λv4=>⟨[(cF a0),(cB a1)],[(24,v4.length)]⟩) (λ_=>rfl) ?_ ?_)))
 refine .block (.sB ?_)
 refine .sB ?_
 refine .block (Mir.loop (λv2:(List ae)×Int=>([U,U,.ptr 0 0,.ptr 1 0,U,U,U,U,.d (.int .i64 y2.1),U,.d (.int .i64 (zM.wrap y2.2)),.d (.int .i64 y3),.d (.int .i64 (zM.wrap (y3*y1.1))),.own 0 (zA bt v2.1),.d (.int .i64 v1.2),.d (.int .i64 v2.2),U,U,U,U,U,U,U,U,U,U,U,U,U,U,U,U,U,U,U,U,U,U,U,U,U,U,U,U,.d (.int .i64 y1.1),.d (.int .i64 v1.2)]++us 93)) (λv2=>⟨[(cF a0),(cB a1)],[(24,v2.1.length)]⟩) (λ_=>rfl) (by simp only[seval,FMB]) (by simp only[seval,FMB]) λv2=>.seqK (.sB ?_))
 refine .cond rfl (λh2=>?_) (λh2=>?_)
 refine .skip (Mir.toK (.seqK (.block (.seqK (.guard λq1=>?_)))))
 replace q1:=ne_of q1
 refine .guard λq2=>?_
 replace q2:=ne_of q2
 refine .regionD [] (by kernel_rfl) λe h=>?_
 simp only[seval,EMB,SB,q1,q2]
 refine mU e (.seqK (.sB ?_)) h
 refine Mir.joinO (λv3:Int×Int=>([U,U,.ptr 0 0,.ptr 1 0,U,U,U,U,.d (.int .i64 y2.1),U,.d (.int .i64 (zM.wrap y2.2)),.d (.int .i64 y3),.d (.int .i64 (zM.wrap (y3*y1.1))),.own 0 (zA bt v2.1),.d (.int .i64 v1.2),.d (.int .i64 v2.2),.d (.int .i64 v3.1),.d (.int .i64 v3.2),U,U,U,U,U,U,U,U,U,U,U,U,U,U,U,U,U,U,U,U,U,U,U,U,U,U,.d (.int .i64 y1.1),.d (.int .i64 v1.2)]++us 93)) (λv3=>⟨[(cF a0),(cB a1)],[(24,v2.1.length)]⟩) (λ_=>rfl) ?_ ?_
 refine .cond rfl (λh3=>?_) (λh3=>?_)
 refine .bind λy4 h4=>.region λe h=>WB ?_
 refine .byB (kf h4) ?_
 simp only[seval,EMB]
 cases h
 simp only[seval,FMB]
 refine .bind λy5 h5=>.region λe h=>WB ?_
 refine .byB (kf h5) ?_
 simp only[seval,EMB]
 cases h
 simp only[seval,FMB]
 intro v3
 refine Mir.toK (.sB ?_)
 refine .bind λy6 h6=>.guard λq3=>.regionD [] (by kernel_rfl) λe h=>?_
 simp only[seval,EMB,SB]
 refine Spec.by (ip_floor_spec h6) (by simp only[seval,FMB]) ?_
 simp only[seval,EMB,SB,(oL 3),q3]
 refine mU e (.rB) h
 refine .exit QB
 intro v4
 refine Mir.toK (.rB)
 refine .exit QB
 intro v5
 refine Mir.toK (.sB ?_)
 refine .ret QB
end Go.Proofs.YtgojngpeaknbnaaGreatDoor
