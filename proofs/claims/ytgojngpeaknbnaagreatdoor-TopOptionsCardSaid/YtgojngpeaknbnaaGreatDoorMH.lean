import Derived.Test.YtgojngpeaknbnaaGreatDoorG1
import Derived.Test.YtgojngpeaknbnaaGreatDoorTy
import Derived.Test.YtgojngpeaknbnaaGreatDoorGn
import Derived.Test.YtgojngpeaknbnaaGreatDoorSzz
import Derived.Test.YtgojngpeaknbnaaGreatDoorMB
open Bool renaming eq_false_or_eq_true → zA
open List renaming map → zB,replicate → zF,length → zG
open And renaming intro → zD
open Int renaming toNat_natCast → zE,tmod → zH
open Go.IntKind renaming u64 → zI,i64 → zJ
namespace Go.Proofs.YtgojngpeaknbnaaGreatDoor
set_option linter.defProp false
open Go.RowKit
open Nat renaming reduceAdd → nA,reduceSub → nS,reduceMul → nM,reduceEqDiff → nE,reduceLeDiff → nL,reduceLT → nT,reduceBEq → nB
open Int renaming reduceLT → iT,reduceToNat → iN,reduceEq → iE
set_option linter.unusedVariables false
set_option linter.unusedSimpArgs false
set_option maxRecDepth 100000
set_option maxHeartbeats 8000000
structure bz where
 Stages:(List aW)
 Start:ae
 Offset:ae
 deriving DecidableEq
def iP(x:bz):List D:=[.list (zB bi x.Stages),.int .i64 x.Start.X,.int .i64 x.Start.Y,.int .i64 x.Start.Z,.int .i64 x.Offset.X,.int .i64 x.Offset.Y,.int .i64 x.Offset.Z]
abbrev cD(x:bz):List V:=[.d (.list (zB bi x.Stages)),.d (.int .i64 x.Start.X),.d (.int .i64 x.Start.Y),.d (.int .i64 x.Start.Z),.d (.int .i64 x.Offset.X),.d (.int .i64 x.Offset.Y),.d (.int .i64 x.Offset.Z)]
def ENMH:=@iP.eq_1
def TMH:=zD @Tryz.ntmps10<|zD @Tryz.ntmps109<|zD @Tryz.ntmps11<|zD @Tryz.ntmps12<|zD @Tryz.ntmps13<|zD @Tryz.ntmps22<|zD @Tryz.ntmps23<|zD @Tryz.ntmps24<|zD @Tryz.ntmps5<|zD @Tryz.ntmps58<|zD @Tryz.ntmps59<|zD @Tryz.ntmps60<|zD @Tryz.ntmps61<|zD @Tryz.ntmps7<|zD @Tryz.results10<|zD @Tryz.results109<|zD @Tryz.results11<|zD @Tryz.results12<|zD @Tryz.results13<|zD @Tryz.results21<|zD @Tryz.results22<|zD @Tryz.results23<|zD @Tryz.results24<|zD @Tryz.results5<|zD @Tryz.results58<|zD @Tryz.results59<|zD @Tryz.results60<|zD @Tryz.results61<|zD @Tryz.results7<|zD @ag_22<|zD @ag_47<|zD @fld_26_0<|zD @fld_26_1<|zD @fld_26_2<|@sz_22
def EMH:=zD @EMB<|zD @ENMH<|@TMH
def FMH:=zD @FMB<|zD @ENMH<|@TMH
theorem QH{α:Type}{x:α}{p:α→Prop}(e:p x:=by simp only[seval,FMH]):∀y,some x=some y→p y:=λ_ i=>Option.some.inj i▸e
theorem WH{p q:Prop}(h:q)(e:p=q:=by simp only[seval,EMH];rfl):p:=Eq.mpr e h
theorem mH{P:Program}{g:Pg P}{fr:Fr}{s:Sg}{ε:Type}{Φ:ε→SQ}{m:Option ε}{c:Code}{e:ε}{p:Prop}(h:Mir g c fr s m Φ)(i:m=some e)(w:p=SWs g c (Φ e) fr s:=by simp only[seval,EMH];rfl):p:=Eq.mpr w (h e i)
theorem Mir.sH{P:Program}{g g':Pg P}{fr fr':Fr}{s s':Sg}{ε:Type}{Φ:ε→SQ}{m:Option ε}{id:Nat}{ops:Array Oper}{k c:Code}(h:Mir g' c fr' s' m Φ)(e:∀e,regS g false ops ops.toList fr s (kQ g k Φ e .normal)=SWs g' c (Φ e) fr' s':=by intro e;simp only[seval,EMH];rfl):Mir g (.seq (.region id ops false) k) fr s m Φ:=Mir.sR λy i=>Eq.mpr (e y) (h y i)
theorem Mir.rH{P:Program}{g:Pg P}{fr:Fr}{s:Sg}{ε:Type}{Φ:ε→SQ}{x:ε}{id:Nat}{ops:Array Oper}(e:regS g false ops ops.toList fr s (Φ x .normal):=by simp only[seval,EMH];simp only[seval,FMH]):Mir g (.region id ops false) fr s (some x) Φ:=Mir.region λ_ i=>Option.some.inj i▸e
theorem SpecS.byH{P:Program}{g:Pg P}{f:FuncId}{args:List V}{s:Sg}{R:V→Sg→Prop}{r:V}{args':List V}(h:Spec g f args' r)(hR:R r s)(ha:args.map V.clean=args':=by simp only[seval,FMH]):SpecS g f args s R:=SpecS.by h ha hR
theorem auH{P:Program}{g:Pg P}{f:FuncId}{fn:Func}{c:Code}(hf:P.funcs[f]? = some fn){args:List V}{ρ:Type}(en:ρ→V){m:Option ρ}{fr:Fr}(h:Mir g c fr ⟨[],[]⟩ m (fnQ g fn.results.toList en)){y:ρ}(hy:m=some y)(hb:fn.body=some c:=by rfl)(he:bl P f=true:=by kernel_rfl)(hd:bN c=true:=by kernel_rfl)(e:args++List.replicate (fn.ntmps-args.length) .undef=fr:=by simp only[List.replicate,List.length,nS,nA,SV,TMH];rfl):Spec g f args (en y):=fA hf hb he hd en (e▸h) hy
def r33_arc(a0:ay):Option Bool:=some ((a0.Kind==3)||(a0.Kind==4))
theorem gD{a0:ay}{y:Bool}(h:r33_arc a0=some y):Spec gP 23 [.agg (cB a0)] (.d (.bool y)):=by
 refine auH Tryz.func23 (λy:Bool=>.d (.bool y)) ?_ h
 unfold r33_arc
 refine .sH ?_
 refine .seqK (.joinV ([U,U,.d (.bool ((a0.Kind==3)||(a0.Kind==4)))]++us 8) ⟨[(cB a0)],[]⟩ rfl ?_ ?_)
 refine SWs.region ?_
 rcases zA (a0.Kind==3)with hb1 | hb1
 simp only[seval,EMH,SL,PB,hb1]
 simp only[seval,EMH,SL,PB,hb1]
 refine Mir.toK (.ret QH)
def dy(a0:Int):Option Bool:=some ((decide (a0>10000000))||(decide (a0<(-10000000))))
theorem aJ{a0:Int}{y:Bool}(h:dy a0=some y):Spec gP 58 [.d (.int .i64 a0)] (.d (.bool y)):=by
 refine auH Tryz.func58 (λy:Bool=>.d (.bool y)) ?_ h
 unfold dy
 refine .sH ?_
 refine .seqK (.joinV ([U,U,.d (.bool ((decide (a0>10000000))||(decide (a0<(-10000000)))))]++us 6) ⟨[],[]⟩ rfl ?_ ?_)
 refine SWs.region ?_
 rcases zA (decide (a0>10000000))with hb1 | hb1
 simp only[seval,EMH,SL,PB,hb1]
 simp only[seval,EMH,SL,PB,hb1]
 refine Mir.toK (.ret QH)
def fX(a0:Int)(a1:Int):Option Int:=bindO (if (decide (a0<a1))=true then some (a1,a0)else some (a0,a1)) λ(v1:Int×Int)=>some (zI.wrap ((zI.wrap v1.1)-(zI.wrap v1.2)))
theorem eT{a0:Int}{a1:Int}{y:Int}(h:fX a0 a1=some y):Spec gP 109 [.d (.int .i64 a0),.d (.int .i64 a1)] (.d (.int .u64 y)):=by
 refine auH Tryz.func109 (λy:Int=>.d (.int .u64 y)) ?_ h
 unfold fX
 refine .sH ?_
 refine .seqK (.sH ?_)
 refine Mir.joinO (λv1:Int×Int=>([.d (.int .i64 v1.1),.d (.int .i64 v1.2)]++us 13)) (λv1=>⟨[],[]⟩) (λ_=>rfl) ?_ ?_
 refine .cond rfl (λ_=>.rH) (λ_=>.skip QH)
 intro v1
 refine Mir.toK (.sH ?_)
 refine .ret QH
def jh(a0:ae)(a1:ay):Option Bool:=bindO (fX a0.X a1.Center.X) λ(y1:Int)=>bindO (fX a0.Y a1.Center.Y) λ(y2:Int)=>bindO (fX a1.To.X a1.Center.X) λ(y3:Int)=>bindO (fX a1.To.Y a1.Center.Y) λ(y4:Int)=>some (!((y1==0)==(y2==0))&&(!((y3==0)==(y4==0))&&((zI.wrap (y1+y2))==(zI.wrap (y3+y4)))))
theorem r33_right_spec{a0:ae}{a1:ay}{y:Bool}(h:jh a0 a1=some y):Spec gP 59 [.agg (cF a0),.agg (cB a1)] (.d (.bool y)):=by
 refine auH Tryz.func59 (λy:Bool=>.d (.bool y)) ?_ h
 unfold jh
 refine .sH ?_
 refine .seqK (.bind λy1 hy1=>.bind λy2 hy2=>.regionD [] (by kernel_rfl) λe h=>?_)
 simp only[seval,EMH,SB]
 refine Spec.by (eT hy1) (by simp only[seval,FMH]) ?_
 simp only[seval,EMH,SB]
 refine Spec.by (eT hy2) (by simp only[seval,FMH]) ?_
 simp only[seval,EMH,SB]
 refine mU e (.seqK (.bind λy3 hy3=>.bind λy4 hy4=>.regionD [] (by kernel_rfl) λe h=>?_)) h
 simp only[seval,EMH,SB]
 refine Spec.by (eT hy3) (by simp only[seval,FMH]) ?_
 simp only[seval,EMH,SB]
 refine Spec.by (eT hy4) (by simp only[seval,FMH]) ?_
 simp only[seval,EMH,SB]
 refine mU e (.seqK (.joinV ([U,U,U,U,.d (.bool (!((y1==0)==(y2==0))&&(!((y3==0)==(y4==0))&&((zI.wrap (y1+y2))==(zI.wrap (y3+y4))))))]++us 51) ⟨[(cF a0),(cB a1)],[]⟩ rfl ?_ ?_)) h
 refine SWs.region ?_
 rcases zA ((y1==0)==(y2==0))with hb5 | hb5
 simp only[seval,EMH,SL,PB,hb5]
 rcases zA ((y3==0)==(y4==0))with hb6 | hb6
 simp only[seval,EMH,SL,PB,hb5,hb6]
 simp only[seval,EMH,SL,PB,hb5,hb6]
 refine Mir.toK (.ret QH)
def dY(a0:Int)(a1:Int):Option (Int×Int):=if ((decide (a0>0))&&(a1==0))=true then some (0,a0)else if ((a0==0)&&(decide (a1>0)))=true then some (1,a1)else if ((decide (a0<0))&&(a1==0))=true then some (2,zJ.wrap (0-a0))else if ((a0==0)&&(decide (a1<0)))=true then some (3,zJ.wrap (0-a1))else some (-1,0)
theorem gQ{a0:Int}{a1:Int}{y:Int×Int}(h:dY a0 a1=some y):Spec gP 60 [.d (.int .i64 a0),.d (.int .i64 a1)] (.tuple [.d (.int .i64 y.1),.d (.int .i64 y.2)]):=by
 refine auH Tryz.func60 (λy:Int×Int=>.tuple [.d (.int .i64 y.1),.d (.int .i64 y.2)]) ?_ h
 unfold dY
 refine .sH ?_
 refine .seqK (.block (.seqK (.joinV ([.d (.int .i64 a0),.d (.int .i64 a1),U,U,U,U,.d (.bool ((decide (a0>0))&&(a1==0)))]++us 33) ⟨[],[]⟩ rfl ?_ ?_)))
 refine SWs.region ?_
 rcases zA (decide (a0>0))with hb9 | hb9
 simp only[seval,EMH,SL,PB,hb9]
 simp only[seval,EMH,SL,PB,hb9]
 refine Mir.toK (.cond rfl (λhb17=>?_) (λhb17=>?_))
 refine .sH ?_
 refine .ret QH
 refine .seqK (.joinV ([.d (.int .i64 a0),.d (.int .i64 a1),U,U,U,U,U,U,U,U,U,U,U,U,.d (.bool ((a0==0)&&(decide (a1>0))))]++us 25) ⟨[],[]⟩ rfl ?_ ?_)
 refine SWs.region ?_
 rcases zA (a0==0)with hb18 | hb18
 simp only[seval,EMH,SL,PB,hb18]
 simp only[seval,EMH,SL,PB,hb18]
 refine Mir.toK (.cond rfl (λhb24=>?_) (λhb24=>?_))
 refine .sH ?_
 refine .ret QH
 refine .seqK (.joinV ([.d (.int .i64 a0),.d (.int .i64 a1),U,U,U,U,U,U,U,U,U,U,U,U,U,U,U,U,U,U,U,U,.d (.bool ((decide (a0<0))&&(a1==0)))]++us 17) ⟨[],[]⟩ rfl ?_ ?_)
 refine SWs.region ?_
 rcases zA (decide (a0<0))with hb25 | hb25
 simp only[seval,EMH,SL,PB,hb25]
 simp only[seval,EMH,SL,PB,hb25]
 refine Mir.toK (.cond rfl (λhb29=>?_) (λhb29=>?_))
 refine .sH ?_
 refine .ret QH
 refine .seqK (.joinV ([U,.d (.int .i64 a1),U,U,U,U,U,U,U,U,U,U,U,U,U,U,U,U,U,U,U,U,U,U,U,U,U,U,U,U,U,.d (.bool ((a0==0)&&(decide (a1<0))))]++us 8) ⟨[],[]⟩ rfl ?_ ?_)
 refine SWs.region ?_
 rcases zA (a0==0)with hb30 | hb30
 simp only[seval,EMH,SL,PB,hb30]
 simp only[seval,EMH,SL,PB,hb30]
 refine Mir.toK (.cond rfl (λhb32=>?_) (λhb32=>?_))
 refine .sH ?_
 refine .ret QH
 refine .skip (Mir.toB (Mir.toK (.sH ?_)))
 refine .ret QH
def ji(a0:ae)(a1:ay):Option Int:=bindO (if (if (a1.Kind==1)=true then (a1.Rate==0)||((a1.Kind==2)&&(decide (a1.Rate>0)))else (a1.Kind==2)&&(decide (a1.Rate>0)))=true then some false else bindO (r33_arc a1) λ(y1:Bool)=>if y1=true then some (decide (a1.Rate≤0))else some true) λ(v1:Bool)=>if v1=true then some 1 else bindO (bindO (dy a0.X) λ(y2:Bool)=>if y2=true then some true else bindO (dy a0.Y) λ(y3:Bool)=>if y3=true then some true else bindO (dy a0.Z) λ(y4:Bool)=>if y4=true then some true else bindO (dy a1.To.X) λ(y5:Bool)=>if y5=true then some true else bindO (dy a1.To.Y) λ(y6:Bool)=>if y6=true then some true else bindO (dy a1.To.Z) λ(y7:Bool)=>some y7) λ(v2:Bool)=>if (if (a1.Kind==1)=true then (a1.Rate==0)||((a1.Kind==2)&&(decide (a1.Rate>0)))else (a1.Kind==2)&&(decide (a1.Rate>0)))=true then if v2=true then some 11 else some 0 else bindO (if v2=true then some true else bindO (dy a1.Center.X) λ(y8:Bool)=>if y8=true then some true else bindO (dy a1.Center.Y) λ(y9:Bool)=>some y9) λ(v3:Bool)=>if v3=true then bindO (jh a0 a1) λ(y10:Bool)=>if (!y10)=true then some 1 else some 11 else bindO (dY (zJ.wrap (a0.X-a1.Center.X)) (zJ.wrap (a0.Y-a1.Center.Y))) λ(y11:Int×Int)=>bindO (dY (zJ.wrap (a1.To.X-a1.Center.X)) (zJ.wrap (a1.To.Y-a1.Center.Y))) λ(y12:Int×Int)=>if ((decide (y11.1<0))||((decide (y12.1<0))||(y11.2 != y12.2)))=true then some 1 else bindO (bindO (dy (zJ.wrap (a1.Center.X+y11.2))) λ(y13:Bool)=>if y13=true then some true else bindO (dy (zJ.wrap (a1.Center.X-y11.2))) λ(y14:Bool)=>if y14=true then some true else bindO (dy (zJ.wrap (a1.Center.Y+y11.2))) λ(y15:Bool)=>if y15=true then some true else bindO (dy (zJ.wrap (a1.Center.Y-y11.2))) λ(y16:Bool)=>some y16) λ(v4:Bool)=>if v4=true then some 11 else some 0
theorem r33_Valid_spec{a0:ae}{a1:ay}{y:Int}(h:ji a0 a1=some y):Spec gP 22 [.agg (cF a0),.agg (cB a1)] (.d (.int .i64 y)):=by
 refine auH Tryz.func22 (λy:Int=>.d (.int .i64 y)) ?_ h
 unfold ji
 refine .sH ?_
 refine .seqK (.joinV ([U,U,.ptr 0 0,.ptr 1 0,U,.d (.bool (if (a1.Kind==1)=true then (a1.Rate==0)||((a1.Kind==2)&&(decide (a1.Rate>0)))else (a1.Kind==2)&&(decide (a1.Rate>0))))]++us 160) ⟨[(cF a0),(cB a1)],[]⟩ rfl ?_ ?_)
 refine SWs.region ?_
 rcases zA (a1.Kind==1)with hb1 | hb1
 rcases zA (a1.Rate==0)with hb2 | hb2
 simp only[seval,EMH,SL,PB,hb1,hb2]
 rcases zA (a1.Kind==2)with hb3 | hb3
 simp only[seval,EMH,SL,PB,hb1,hb2,hb3]
 simp only[seval,EMH,SL,PB,hb1,hb2,hb3]
 rcases zA (a1.Kind==2)with hb4 | hb4
 simp only[seval,EMH,SL,PB,hb1,hb4]
 simp only[seval,EMH,SL,PB,hb1,hb4]
 refine Mir.toK (.seqK (.seqK (Mir.joinO (λv1:Bool=>([U,U,.ptr 0 0,.ptr 1 0,U,.d (.bool (if (a1.Kind==1)=true then (a1.Rate==0)||((a1.Kind==2)&&(decide (a1.Rate>0)))else (a1.Kind==2)&&(decide (a1.Rate>0)))),U,U,U,U,U,U,U,U,U,U,U,U,U,U,U,U,U,U,U,U,U,U,U,U,U,U,U,U,U,U,U,U,U,U,.d (.bool v1)]++us 125)) (λv1=>⟨[(cF a0),(cB a1)],[]⟩) (λ_=>rfl) ?_ ?_)))
 refine .ite (λhb5=>?_) (λhb5=>?_)
 refine .region λe h=>?_
 simp only[seval,EMH,hb5]
 cases h
 simp only[seval,FMH,hb5]
 refine .bind λy1 hy6=>.ite (λhb7=>?_) (λhb7=>?_)
 refine .region λe h=>?_
 simp only[seval,EMH,hb5,hb7]
 refine SpecS.by (gD hy6) (by simp only[seval,FMH,hb5,hb7]) ?_
 simp only[seval,EMH,hb5,hb7]
 cases h
 simp only[seval,FMH,hb5,hb7]
 refine .region λe h=>?_
 simp only[seval,EMH,hb5,hb7]
 refine SpecS.by (gD hy6) (by simp only[seval,FMH,hb5,hb7]) ?_
 simp only[seval,EMH,hb5,hb7]
 cases h
 simp only[seval,FMH,hb5,hb7]
 intro v1
 refine Mir.toK (.cond rfl (λhb9=>?_) (λhb9=>?_))
 refine .sH ?_
 refine .ret QH
 refine .skip (Mir.toK (.seqK (Mir.joinO (λv2:Bool=>([U,U,.ptr 0 0,.ptr 1 0,U,.d (.bool (if (a1.Kind==1)=true then (a1.Rate==0)||((a1.Kind==2)&&(decide (a1.Rate>0)))else (a1.Kind==2)&&(decide (a1.Rate>0)))),.d (.bool v2)]++us 159)) (λv2=>⟨[(cF a0),(cB a1)],[]⟩) (λ_=>rfl) ?_ ?_)))
 refine .bind λy2 hy10=>.ite (λhb11=>?_) (λhb11=>?_)
 refine .region λe h=>?_
 simp only[seval,EMH,hb11]
 refine SpecS.by (aJ hy10) (by simp only[seval,FMH,hb11]) ?_
 simp only[seval,EMH,hb11]
 cases h
 simp only[seval,FMH,hb11]
 refine .bind λy3 hy12=>.ite (λhb13=>?_) (λhb13=>?_)
 refine .region λe h=>?_
 simp only[seval,EMH,hb11,hb13]
 refine SpecS.by (aJ hy10) (by simp only[seval,FMH,hb11,hb13]) ?_
 simp only[seval,EMH,hb11,hb13]
 refine SpecS.by (aJ hy12) (by simp only[seval,FMH,hb11,hb13]) ?_
 simp only[seval,EMH,hb11,hb13]
 cases h
 simp only[seval,FMH,hb11,hb13]
 refine .bind λy4 hy14=>.ite (λhb15=>?_) (λhb15=>?_)
 refine .region λe h=>?_
 simp only[seval,EMH,hb11,hb13,hb15]
 refine SpecS.by (aJ hy10) (by simp only[seval,FMH,hb11,hb13,hb15]) ?_
 simp only[seval,EMH,hb11,hb13,hb15]
 refine SpecS.by (aJ hy12) (by simp only[seval,FMH,hb11,hb13,hb15]) ?_
 simp only[seval,EMH,hb11,hb13,hb15]
 refine SpecS.by (aJ hy14) (by simp only[seval,FMH,hb11,hb13,hb15]) ?_
 simp only[seval,EMH,hb11,hb13,hb15]
 cases h
 simp only[seval,FMH,hb11,hb13,hb15]
 refine .bind λy5 hy16=>.ite (λhb17=>?_) (λhb17=>?_)
 refine .region λe h=>?_
 simp only[seval,EMH,hb11,hb13,hb15,hb17]
 refine SpecS.by (aJ hy10) (by simp only[seval,FMH,hb11,hb13,hb15,hb17]) ?_
 simp only[seval,EMH,hb11,hb13,hb15,hb17]
 refine SpecS.by (aJ hy12) (by simp only[seval,FMH,hb11,hb13,hb15,hb17]) ?_
 simp only[seval,EMH,hb11,hb13,hb15,hb17]
 refine SpecS.by (aJ hy14) (by simp only[seval,FMH,hb11,hb13,hb15,hb17]) ?_
 simp only[seval,EMH,hb11,hb13,hb15,hb17]
 refine SpecS.by (aJ hy16) (by simp only[seval,FMH,hb11,hb13,hb15,hb17]) ?_
 simp only[seval,EMH,hb11,hb13,hb15,hb17]
 cases h
 simp only[seval,FMH,hb11,hb13,hb15,hb17]
 refine .bind λy6 hy18=>.ite (λhb19=>?_) (λhb19=>?_)
 refine .region λe h=>?_
 simp only[seval,EMH,hb11,hb13,hb15,hb17,hb19]
 refine SpecS.by (aJ hy10) (by simp only[seval,FMH,hb11,hb13,hb15,hb17,hb19]) ?_
 simp only[seval,EMH,hb11,hb13,hb15,hb17,hb19]
 refine SpecS.by (aJ hy12) (by simp only[seval,FMH,hb11,hb13,hb15,hb17,hb19]) ?_
 simp only[seval,EMH,hb11,hb13,hb15,hb17,hb19]
 refine SpecS.by (aJ hy14) (by simp only[seval,FMH,hb11,hb13,hb15,hb17,hb19]) ?_
 simp only[seval,EMH,hb11,hb13,hb15,hb17,hb19]
 refine SpecS.by (aJ hy16) (by simp only[seval,FMH,hb11,hb13,hb15,hb17,hb19]) ?_
 simp only[seval,EMH,hb11,hb13,hb15,hb17,hb19]
 refine SpecS.by (aJ hy18) (by simp only[seval,FMH,hb11,hb13,hb15,hb17,hb19]) ?_
 simp only[seval,EMH,hb11,hb13,hb15,hb17,hb19]
 cases h
 simp only[seval,FMH,hb11,hb13,hb15,hb17,hb19]
 refine .bind λy7 hy20=>.region λe h=>?_
 simp only[seval,EMH,hb11,hb13,hb15,hb17,hb19]
 refine SpecS.by (aJ hy10) (by simp only[seval,FMH,hb11,hb13,hb15,hb17,hb19]) ?_
 simp only[seval,EMH,hb11,hb13,hb15,hb17,hb19]
 refine SpecS.by (aJ hy12) (by simp only[seval,FMH,hb11,hb13,hb15,hb17,hb19]) ?_
 simp only[seval,EMH,hb11,hb13,hb15,hb17,hb19]
 refine SpecS.by (aJ hy14) (by simp only[seval,FMH,hb11,hb13,hb15,hb17,hb19]) ?_
 simp only[seval,EMH,hb11,hb13,hb15,hb17,hb19]
 refine SpecS.by (aJ hy16) (by simp only[seval,FMH,hb11,hb13,hb15,hb17,hb19]) ?_
 simp only[seval,EMH,hb11,hb13,hb15,hb17,hb19]
 refine SpecS.by (aJ hy18) (by simp only[seval,FMH,hb11,hb13,hb15,hb17,hb19]) ?_
 simp only[seval,EMH,hb11,hb13,hb15,hb17,hb19]
 refine SpecS.by (aJ hy20) (by simp only[seval,FMH,hb11,hb13,hb15,hb17,hb19]) ?_
 simp only[seval,EMH,hb11,hb13,hb15,hb17,hb19]
 cases h
 simp only[seval,FMH,hb11,hb13,hb15,hb17,hb19]
 intro v2
 refine Mir.toK (.seqK (.sH ?_))
 refine .cond rfl (λhb24=>?_) (λhb24=>?_)
 refine .seqK (.sH ?_)
 refine .cond rfl (λhb26=>?_) (λhb26=>?_)
 refine .sH ?_
 refine .ret QH
 refine .skip (Mir.toK (.sH ?_))
 refine .ret QH
 refine .skip (Mir.toK (.seqK (.seqK (Mir.joinO (λv3:Bool=>([U,U,.ptr 0 0,.ptr 1 0,U,U,U,U,U,U,U,U,U,U,U,U,U,U,U,U,U,U,U,U,U,U,U,U,U,U,U,U,U,U,U,U,U,U,U,U,U,U,U,U,U,U,U,U,U,U,U,U,U,U,U,U,U,U,U,U,U,U,U,U,U,U,U,U,U,U,U,U,U,U,U,U,U,U,U,U,U,U,U,U,U,U,.d (.bool v3)]++us 79)) (λv3=>⟨[(cF a0),(cB a1)],[]⟩) (λ_=>rfl) ?_ ?_))))
 refine .ite (λhb27=>?_) (λhb27=>?_)
 refine .region λe h=>?_
 simp only[seval,EMH,hb27]
 cases h
 simp only[seval,FMH,hb27]
 refine .bind λy8 hy28=>.ite (λhb29=>?_) (λhb29=>?_)
 refine .region λe h=>?_
 simp only[seval,EMH,hb27,hb29]
 refine SpecS.by (aJ hy28) (by simp only[seval,FMH,hb27,hb29]) ?_
 simp only[seval,EMH,hb27,hb29]
 cases h
 simp only[seval,FMH,hb27,hb29]
 refine .bind λy9 hy30=>.region λe h=>?_
 simp only[seval,EMH,hb27,hb29]
 refine SpecS.by (aJ hy28) (by simp only[seval,FMH,hb27,hb29]) ?_
 simp only[seval,EMH,hb27,hb29]
 refine SpecS.by (aJ hy30) (by simp only[seval,FMH,hb27,hb29]) ?_
 simp only[seval,EMH,hb27,hb29]
 cases h
 simp only[seval,FMH,hb27,hb29]
 intro v3
 refine Mir.toK (.cond rfl (λhb35=>?_) (λhb35=>?_))
 refine .seqK (.seqK (.bind λy10 hy36=>.region λe h=>WH ?_))
 refine .byH (r33_right_spec hy36) (mH ?_ h)
 refine .cond rfl (λhb38=>?_) (λhb38=>?_)
 refine .sH ?_
 refine .ret QH
 refine .skip (Mir.toK (.sH ?_))
 refine .ret QH
 refine .skip (Mir.toK (.seqK (.bind λy11 hy39=>.region λe h=>WH ?_)))
 refine .byH (gQ hy39) (mH ?_ h)
 refine .seqK (.bind λy12 hy40=>.region λe h=>WH ?_)
 refine .byH (gQ hy40) (mH ?_ h)
 refine .seqK (.seqK (.joinV ([U,U,U,.ptr 1 0,U,U,U,U,.d (.int .i64 y11.2),U,U,U,U,U,U,U,U,U,U,U,U,U,U,U,U,U,U,U,U,U,U,U,U,U,U,U,U,U,U,U,U,U,U,U,U,U,U,U,U,U,U,U,U,U,U,U,U,U,U,U,U,U,U,U,U,U,U,U,U,U,U,U,U,U,U,U,U,U,U,U,U,U,U,U,U,U,U,U,U,U,U,U,U,U,U,U,U,U,U,U,U,U,U,U,U,U,U,U,U,U,U,U,U,U,U,U,U,U,U,U,U,U,U,U,U,U,U,U,U,U,U,U,U,U,U,.d (.bool ((decide (y11.1<0))||((decide (y12.1<0))||(y11.2 != y12.2))))]++us 30) ⟨[(cF a0),(cB a1)],[]⟩ rfl ?_ ?_))
 refine SWs.region ?_
 rcases zA (decide (y11.1<0))with hb41 | hb41
 simp only[seval,EMH,SL,PB,hb41]
 rcases zA (decide (y12.1<0))with hb42 | hb42
 simp only[seval,EMH,SL,PB,hb41,hb42]
 simp only[seval,EMH,SL,PB,hb41,hb42]
 refine Mir.toK (.cond rfl (λhb44=>?_) (λhb44=>?_))
 refine .sH ?_
 refine .ret QH
 refine .skip (Mir.toK (.seqK (.seqK (Mir.joinO (λv4:Bool=>[U,U,U,U,U,U,U,U,U,U,U,U,U,U,U,U,U,U,U,U,U,U,U,U,U,U,U,U,U,U,U,U,U,U,U,U,U,U,U,U,U,U,U,U,U,U,U,U,U,U,U,U,U,U,U,U,U,U,U,U,U,U,U,U,U,U,U,U,U,U,U,U,U,U,U,U,U,U,U,U,U,U,U,U,U,U,U,U,U,U,U,U,U,U,U,U,U,U,U,U,U,U,U,U,U,U,U,U,U,U,U,U,U,U,U,U,U,U,U,U,U,U,U,U,U,U,U,U,U,U,U,U,U,U,U,U,U,U,U,U,U,U,U,U,U,U,U,U,U,U,U,U,U,U,U,U,U,U,U,U,U,U,U,U,U,.d (.bool v4)]) (λv4=>⟨[(cF a0),(cB a1)],[]⟩) (λ_=>rfl) ?_ ?_))))
 refine .bind λy13 hy45=>.ite (λhb46=>?_) (λhb46=>?_)
 refine .region λe h=>?_
 simp only[seval,EMH,hb46]
 refine SpecS.by (aJ hy45) (by simp only[seval,FMH,hb46]) ?_
 simp only[seval,EMH,hb46]
 cases h
 simp only[seval,FMH,hb46]
 refine .bind λy14 hy47=>.ite (λhb48=>?_) (λhb48=>?_)
 refine .region λe h=>?_
 simp only[seval,EMH,hb46,hb48]
 refine SpecS.by (aJ hy45) (by simp only[seval,FMH,hb46,hb48]) ?_
 simp only[seval,EMH,hb46,hb48]
 refine SpecS.by (aJ hy47) (by simp only[seval,FMH,hb46,hb48]) ?_
 simp only[seval,EMH,hb46,hb48]
 cases h
 simp only[seval,FMH,hb46,hb48]
 refine .bind λy15 hy49=>.ite (λhb50=>?_) (λhb50=>?_)
 refine .region λe h=>?_
 simp only[seval,EMH,hb46,hb48,hb50]
 refine SpecS.by (aJ hy45) (by simp only[seval,FMH,hb46,hb48,hb50]) ?_
 simp only[seval,EMH,hb46,hb48,hb50]
 refine SpecS.by (aJ hy47) (by simp only[seval,FMH,hb46,hb48,hb50]) ?_
 simp only[seval,EMH,hb46,hb48,hb50]
 refine SpecS.by (aJ hy49) (by simp only[seval,FMH,hb46,hb48,hb50]) ?_
 simp only[seval,EMH,hb46,hb48,hb50]
 cases h
 simp only[seval,FMH,hb46,hb48,hb50]
 refine .bind λy16 hy51=>.region λe h=>?_
 simp only[seval,EMH,hb46,hb48,hb50]
 refine SpecS.by (aJ hy45) (by simp only[seval,FMH,hb46,hb48,hb50]) ?_
 simp only[seval,EMH,hb46,hb48,hb50]
 refine SpecS.by (aJ hy47) (by simp only[seval,FMH,hb46,hb48,hb50]) ?_
 simp only[seval,EMH,hb46,hb48,hb50]
 refine SpecS.by (aJ hy49) (by simp only[seval,FMH,hb46,hb48,hb50]) ?_
 simp only[seval,EMH,hb46,hb48,hb50]
 refine SpecS.by (aJ hy51) (by simp only[seval,FMH,hb46,hb48,hb50]) ?_
 simp only[seval,EMH,hb46,hb48,hb50]
 cases h
 simp only[seval,FMH,hb46,hb48,hb50]
 intro v4
 refine Mir.toK (.cond rfl (λhb53=>?_) (λhb53=>?_))
 refine .sH ?_
 refine .ret QH
 refine .skip (Mir.toK (.sH ?_))
 refine .ret QH
def jO(a0:Int):Option Int:=if (decide (a0<0))=true then some (zJ.wrap (0-a0))else some a0
theorem r33_size_spec{a0:Int}{y:Int}(h:jO a0=some y):Spec gP 61 [.d (.int .i64 a0)] (.d (.int .i64 y)):=by
 refine auH Tryz.func61 (λy:Int=>.d (.int .i64 y)) ?_ h
 unfold jO
 refine .sH ?_
 refine .seqK (.sH ?_)
 refine .cond rfl (λhb2=>?_) (λhb2=>?_)
 refine .sH ?_
 refine .ret QH
 refine .skip (Mir.toK (.sH ?_))
 refine .ret QH
def gR(a0:ae)(a1:ay):Option Int:=bindO (jO (zJ.wrap (a0.X-a1.Center.X))) λ(y1:Int)=>bindO (jO (zJ.wrap (a0.Y-a1.Center.Y))) λ(y2:Int)=>some (zJ.wrap (y1+y2))
theorem r33_Radius_spec{a0:ae}{a1:ay}{y:Int}(h:gR a0 a1=some y):Spec gP 24 [.agg (cF a0),.agg (cB a1)] (.d (.int .i64 y)):=by
 refine auH Tryz.func24 (λy:Int=>.d (.int .i64 y)) ?_ h
 unfold gR
 refine .sH ?_
 refine .seqK (.bind λy1 hy1=>.bind λy2 hy2=>.regionD [] (by kernel_rfl) λe h=>?_)
 simp only[seval,EMH,SB]
 refine Spec.by (r33_size_spec hy1) (by simp only[seval,FMH]) ?_
 simp only[seval,EMH,SB]
 refine Spec.by (r33_size_spec hy2) (by simp only[seval,FMH]) ?_
 simp only[seval,EMH,SB]
 refine mU e (.ret QH) h
def r33_Few(a0:ae)(a1:(List ay))(a2:Int):Option Bool:=if (decide ((a1.length:Int)>a2))=true then some false else bindX (az (okIdx a1) ( aI (λ(i1:Nat) (e1:ay) (v1:ae)=>bindO (ji v1 e1) λ(y1:Int)=>if (y1 != 0)=true then some (.ret (.ret true))else bindO (bindO (r33_arc e1) λ(y2:Bool)=>if y2=true then bindO (gR v1 e1) λ(y3:Int)=>some (decide (y3>50000))else some false) λ(v2:Bool)=>if v2=true then some (.ret (.ret false))else some (.go e1.To)) (λ(v1:ae)=>some (.go v1)) a1 0 a0)) λ(v3:ae)=>some true
theorem r33_Few_spec{a0:ae}{a1:(List ay)}{a2:Int}{y:Bool}(h:r33_Few a0 a1 a2=some y):Spec gP 12 [.agg (cF a0),.d (.list (zB ci a1)),.d (.int .i64 a2)] (.d (.bool y)):=by
 refine auH Tryz.func12 (λy:Bool=>.d (.bool y)) ?_ h
 unfold r33_Few
 refine .sH ?_
 refine .seqK (.sH ?_)
 refine .cond rfl (λhb2=>?_) (λhb2=>?_)
 refine .sH ?_
 refine .ret QH
 refine .skip (Mir.toK (.seqK (.sH ?_)))
 refine Mir.join (λv3:ae=>(us 44)) (λv3=>⟨[(cF v3)],[]⟩) (λ_=>rfl) ?_ ?_
 refine .block (.guard λq1=>Mir.range (λ(i1:Nat) (v1:ae)=>([U,.d (.list (zB ci a1)),U,.ptr 0 0,U,U,U,.d (.int .i64 (i1:Int))]++us 36)) (λi1 v1=>⟨[(cF v1)],[]⟩) q1 (λ_ _=>rfl) (by simp only[seval,FMH,zNI]) (by simp only[seval,FMH,zNI]) ?_ ?_)
 intro i1 e1 v1 q2
 refine .seqK (.sR λe h=>?_)
 simp only[seval,EMH,q2]
 refine mU e (.condT rfl (.skip (Mir.toK (.seqK (.block (.seqK (.seqK (.bind λy1 h1=>.regionD [] (by kernel_rfl) λe h=>?_)))))))) h
 simp only[seval,EMH,SB,q2,zE]
 refine Spec.by (r33_Valid_spec h1) (by simp only[seval,FMH]) ?_
 simp only[seval,EMH,SB]
 refine mU e (.cond rfl (λh2=>?_) (λh2=>?_)) h
 refine .sH ?_
 refine .ret QH
 refine .skip (Mir.toK (.seqK (.seqK (Mir.joinO (λv2:Bool=>([U,.d (.list (zB ci a1)),U,.ptr 0 0,U,U,U,.d (.int .i64 (i1:Int)),U,U,U,U,U,U,U,U,U,U,U,U,U,U,U,U,U,U,U,U,U,U,U,U,U,U,U,U,U,U,.d (.bool v2)]++us 5)) (λv2=>⟨[(cF v1)],[]⟩) (λ_=>rfl) ?_ ?_))))
 refine .bind λy2 h3=>.ite (λh4=>?_) (λh4=>?_)
 refine .bind λy3 h5=>.regionD [] (by kernel_rfl) λe h=>?_
 simp only[seval,EMH,SB,q2,zE,h4]
 refine Spec.by (gD h3) (by simp only[seval,FMH,h4]) ?_
 simp only[seval,EMH,SB,q2,zE,h4]
 refine Spec.by (r33_Radius_spec h5) (by simp only[seval,FMH,h4]) ?_
 simp only[seval,EMH,SB,h4]
 cases h
 simp only[seval,FMH,h4]
 refine .regionD [] (by kernel_rfl) λe h=>?_
 simp only[seval,EMH,SB,q2,zE,h4]
 refine Spec.by (gD h3) (by simp only[seval,FMH,h4]) ?_
 simp only[seval,EMH,SB,h4]
 cases h
 simp only[seval,FMH,h4]
 intro v2
 refine Mir.toK (.cond rfl (λh6=>?_) (λh6=>?_))
 refine .sH ?_
 refine .ret QH
 refine .skip (Mir.toK (.region λe h=>?_))
 simp only[seval,EMH,q2,zE]
 refine mU e (.region λe h=>?_) h
 simp only[seval,EMH]
 cases h
 simp only[seval,FMH,q2]
 intro v1 q3
 refine .seqK (.sR λe h=>?_)
 simp only[seval,EMH,q3]
 refine mU e (.condF rfl (.exit QH)) h
 intro v3
 refine Mir.toK (.sH ?_)
 refine .ret QH
def r33_End(a0:ae)(a1:(List ay)):Option ae:=if ((a1.length:Int)==0)=true then some a0 else bindO (gt a1 (zJ.wrap ((a1.length:Int)-1))) λ(e1:ay)=>some e1.To
theorem r33_End_spec{a0:ae}{a1:(List ay)}{y:ae}(h:r33_End a0 a1=some y):Spec gP 13 [.agg (cF a0),.d (.list (zB ci a1))] (.agg [.d (.int .i64 y.X),.d (.int .i64 y.Y),.d (.int .i64 y.Z)]):=by
 refine auH Tryz.func13 (λy:ae=>.agg [.d (.int .i64 y.X),.d (.int .i64 y.Y),.d (.int .i64 y.Z)]) ?_ h
 unfold r33_End
 refine .sH ?_
 refine .seqK (.sH ?_)
 refine .cond rfl (λhb2=>?_) (λhb2=>?_)
 refine .sH ?_
 refine .ret QH
 refine .skip (Mir.toK (.seqK (.bind λe1 q3=>?_)))
 replace q3:=gt_ok q3
 refine .region λe h=>?_
 simp only[seval,EMH,q3]
 refine mU e (.ret QH) h
def iZ(a0:bz):Option Bool:=if (decide ((a0.Stages.length:Int)>3))=true then some false else bindX (az (okIdx a0.Stages) ( aI (λ(i1:Nat) (e1:aW) (v1:(List ae)×ae)=>bindX (bindO (if (decide (e1.Tool<1))=true then some true else if (decide (e1.Tool>9))=true then some true else bindO (r33_Few v1.2 e1.Moves 20) λ(y1:Bool)=>some (!y1)) λ(v2:Bool)=>if v2=true then some (.ret (.ret (.ret false)))else bindO (az (okIdx e1.Moves) ( aI (λ(i2:Nat) (e2:ay) (v3:(List ae))=>az (okLen (v3.length+1)) ( some (.go (v3++[e2.To])))) (λ(v3:(List ae))=>some v3) e1.Moves 0 v1.1)) λ(v4:(List ae))=>bindO (r33_End v1.2 e1.Moves) λ(y2:ae)=>some (.go (v4,y2))) λ(v5:(List ae)×ae)=>some (.go (v5.1,v5.2))) (λ(v1:(List ae)×ae)=>some (.go (v1.1,v1.2))) a0.Stages 0 ([a0.Start,a0.Offset],a0.Start))) λ(v6:(List ae)×ae)=>bindX (az (okIdx v6.1) ( aI (λ(i3:Nat) (e3:ae) (v7:Unit)=>bindX (if ((decide (e3.X>100000))||(decide (e3.X<(-100000))))=true then some (.ret (.ret (.ret false)))else if ((decide (e3.Y>100000))||(decide (e3.Y<(-100000))))=true then some (.ret (.ret (.ret false)))else if ((decide (e3.Z>100000))||(decide (e3.Z<(-100000))))=true then some (.ret (.ret (.ret false)))else some (.go ())) λ(v8:Unit)=>some (.go ())) (λ(v7:Unit)=>some (.go ())) v6.1 0 ())) λ(v9:Unit)=>some true
theorem top_few53_spec{a0:bz}{y:Bool}(h:iZ a0=some y):Spec gP 5 [.agg (cD a0)] (.d (.bool y)):=by
 refine auH Tryz.func5 (λy:Bool=>.d (.bool y)) ?_ h
 unfold iZ
 refine .sR λe h=>?_
 simp only[seval,EMH,eInt]
 refine mU e (.seqK (.sR λe h=>?_)) h
 simp only[seval,EMH,eInt]
 refine mU e (.cond rfl (λhb2=>?_) (λhb2=>?_)) h
 refine .sH ?_
 refine .ret QH
 refine .skip (Mir.toK (.seqK (.regionW λe h=>regW.alt 4 rfl ?_)))
 simp only[seval,EMH,al,w_eq,eInt]
 refine dt (es:=zB bt [a0.Start,a0.Offset]) app_57 (by simp only[seval,EMH,(oL 6),eInt]) (by decide) (regW.of ?_)
 simp only[seval,EMH,al,w_eq,(oL 6),eInt]
 refine mU e (.sR λe h=>?_) h
 simp only[seval,EMH,eInt]
 refine mU e (.seqK (.sR λe h=>?_)) h
 simp only[seval,EMH,eInt]
 refine mU e (Mir.join (λv6:(List ae)×ae=>([U,U,U,.own 0 (zB bt v6.1)]++us 86)) (λv6=>⟨[(cD a0),(cF v6.2)],[(24,v6.1.length)]⟩) (λ_=>rfl) ?_ ?_) h
 refine .block (.guard λq1=>Mir.range (λ(i1:Nat) (v1:(List ae)×ae)=>([U,U,U,.own 0 (zB bt v1.1),.ptr 1 0,U,U,U,U,U,U,U,U,U,U,U,U,U,U,U,U,U,U,U,U,.d (.list (zB bi a0.Stages)),.d (.int .i64 (a0.Stages.length:Int)),.d (.int .i64 (i1:Int))]++us 62)) (λi1 v1=>⟨[(cD a0),(cF v1.2)],[(24,v1.1.length)]⟩) q1 (λ_ _=>rfl) (by simp only[seval,FMH,zNI]) (by simp only[seval,FMH,zNI]) ?_ ?_)
 intro i1 e1 v1 q2
 refine .sR λe h=>?_
 simp only[seval,EMH,q2]
 refine mU e (.seqK (.condT rfl (.skip (Mir.toK (.seqK (Mir.join (λv5:(List ae)×ae=>([U,U,U,.own 0 (zB bt v5.1),.ptr 1 0,U,U,U,U,U,U,U,U,U,U,U,U,U,U,U,U,U,U,U,U,.d (.list (zB bi a0.Stages)),.d (.int .i64 (a0.Stages.length:Int)),.d (.int .i64 (i1:Int))]++us 62)) (λv5=>⟨[(cD a0),(cF v5.2)],[(24,v5.1.length)]⟩) (λ_=>rfl) ?_ ?_)))))) h
 refine .block (.sR λe h=>?_)
 simp only[seval,EMH,q2,zE]
 refine mU e (.seqK (.seqK (Mir.joinO (λv2:Bool=>([U,U,U,.own 0 (zB bt v1.1),.ptr 1 0,U,.ptr 2 0,U,U,U,U,U,U,U,U,U,U,U,U,U,U,U,U,U,U,.d (.list (zB bi a0.Stages)),.d (.int .i64 (a0.Stages.length:Int)),.d (.int .i64 (i1:Int)),U,U,U,U,U,U,U,U,U,U,U,U,U,U,U,U,U,.d (.bool v2)]++us 44)) (λv2=>⟨[(cD a0),(cF v1.2),(cH e1)],[(24,v1.1.length)]⟩) (λ_=>rfl) ?_ ?_))) h
 refine .ite (λh1=>?_) (λh1=>?_)
 refine .region λe h=>?_
 simp only[seval,EMH,h1]
 cases h
 simp only[seval,FMH,h1]
 refine .ite (λh2=>?_) (λh2=>?_)
 refine .region λe h=>?_
 simp only[seval,EMH,h1,h2]
 cases h
 simp only[seval,FMH,h1,h2]
 refine .bind λy1 h3=>.region λe h=>?_
 simp only[seval,EMH,h1,h2]
 refine SpecS.by (r33_Few_spec h3) (by simp only[seval,FMH,h1,h2]) ?_
 simp only[seval,EMH,h1,h2]
 cases h
 simp only[seval,FMH,h1,h2]
 intro v2
 refine Mir.toK (.cond rfl (λh4=>?_) (λh4=>?_))
 refine .sH ?_
 refine .ret QH
 refine .skip (Mir.toK (.seqK (.sH ?_)))
 refine Mir.joinO (λv4:(List ae)=>([U,U,U,.own 0 (zB bt v4),.ptr 1 0,U,.ptr 2 0,U,U,U,U,U,U,U,U,U,U,U,U,U,U,U,U,U,U,.d (.list (zB bi a0.Stages)),.d (.int .i64 (a0.Stages.length:Int)),.d (.int .i64 (i1:Int))]++us 62)) (λv4=>⟨[(cD a0),(cF v1.2),(cH e1)],[(24,v4.length)]⟩) (λ_=>rfl) ?_ ?_
 refine .block (.guard λq3=>Mir.range (λ(i2:Nat) (v3:(List ae))=>([U,U,U,.own 0 (zB bt v3),.ptr 1 0,U,.ptr 2 0,U,U,U,U,U,U,U,U,U,U,U,U,U,U,U,U,U,U,.d (.list (zB bi a0.Stages)),.d (.int .i64 (a0.Stages.length:Int)),.d (.int .i64 (i1:Int)),U,U,U,U,U,U,U,U,U,U,U,U,U,U,U,U,U,U,U,.d (.list (zB ci e1.Moves)),.d (.int .i64 (e1.Moves.length:Int)),.d (.int .i64 (i2:Int))]++us 40)) (λi2 v3=>⟨[(cD a0),(cF v1.2),(cH e1)],[(24,v3.length)]⟩) q3 (λ_ _=>rfl) (by simp only[seval,FMH,zNI]) (by simp only[seval,FMH,zNI]) ?_ ?_)
 intro i2 e2 v3 q4
 refine .sR λe h=>?_
 simp only[seval,EMH,q4]
 refine mU e (.seqK (.condT rfl (.skip (Mir.toK (.seqK (.block (.sR λe h=>?_))))))) h
 simp only[seval,EMH,q4,zE]
 refine mU e (.guard λq5=>.region λe h=>?_) h
 simp only[seval,EMH,(oL 3),q5]
 refine mU e (.region λe h=>?_) h
 simp only[seval,EMH]
 cases h
 simp only[seval,FMH,q4]
 intro v3 q6
 refine .sR λe h=>?_
 simp only[seval,EMH,q6]
 refine mU e (.seqK (.condF rfl (.exit QH))) h
 intro v4
 refine Mir.toK (.bind λy2 h5=>.region λe h=>WH ?_)
 refine .byH (r33_End_spec h5) ?_
 simp only[seval,EMH]
 cases h
 simp only[seval,FMH]
 intro v5
 refine Mir.toK (.region λe h=>?_)
 simp only[seval,EMH]
 cases h
 simp only[seval,FMH,q2]
 intro v1 q7
 refine .sR λe h=>?_
 simp only[seval,EMH,q7]
 refine mU e (.seqK (.condF rfl (.exit QH))) h
 intro v6
 refine Mir.toK (.seqK (.sR λe h=>?_))
 simp only[seval,EMH,eInt]
 refine mU e (Mir.join (λv9:Unit=>(us 90)) (λv9=>⟨[(cD a0),(cF v6.2)],[(24,v6.1.length)]⟩) (λ_=>rfl) ?_ ?_) h
 refine .block (.guard λq8=>Mir.range (λ(i3:Nat) (v7:Unit)=>([U,U,U,U,U,U,U,U,U,U,U,U,U,U,U,U,U,U,U,U,U,U,U,U,U,U,U,U,U,U,U,U,U,U,U,U,U,U,U,U,U,U,U,U,U,U,U,U,U,U,U,U,U,U,U,U,U,U,U,U,U,U,U,U,.own 0 (zB bt v6.1),.d (.int .i64 (v6.1.length:Int)),.d (.int .i64 (i3:Int))]++us 23)) (λi3 v7=>⟨[(cD a0),(cF v6.2)],[(24,v6.1.length)]⟩) q8 (λ_ _=>rfl) (by simp only[seval,FMH,eInt,zNI]) (by simp only[seval,FMH,eInt,zNI]) ?_ ?_)
 intro i3 e3 v7 q9
 refine .sR λe h=>?_
 simp only[seval,EMH,q9,eInt]
 refine mU e (.seqK (.condT rfl (.skip (Mir.toK (.seqK (Mir.join (λv8:Unit=>([U,U,U,U,U,U,U,U,U,U,U,U,U,U,U,U,U,U,U,U,U,U,U,U,U,U,U,U,U,U,U,U,U,U,U,U,U,U,U,U,U,U,U,U,U,U,U,U,U,U,U,U,U,U,U,U,U,U,U,U,U,U,U,U,.own 0 (zB bt v6.1),.d (.int .i64 (v6.1.length:Int)),.d (.int .i64 (i3:Int))]++us 23)) (λv8=>⟨[(cD a0),(cF v6.2)],[(24,v6.1.length)]⟩) (λ_=>rfl) ?_ ?_)))))) h
 refine .block (.sR λe h=>?_)
 simp only[seval,EMH,q9,zE,eInt]
 refine mU e (.sR λe h=>?_) h
 simp only[seval,EMH,(oL 3),(nr rfl:((3:Nat):Int)=3),eInt]
 refine mU e (.block (.loopR 15 (.sR λe h=>?_))) h
 simp only[seval,EMH,eInt]
 refine mU e (.seqK (.condT rfl (.skip (Mir.toK (.seqK (.block (.sR λe h=>?_))))))) h
 simp only[seval,EMH,eInt]
 refine mU e (.seqK (.joinV [U,U,U,U,U,U,U,U,U,U,U,U,U,U,U,U,U,U,U,U,U,U,U,U,U,U,U,U,U,U,U,U,U,U,U,U,U,U,U,U,U,U,U,U,U,U,U,U,U,U,U,U,U,U,U,U,U,U,U,U,U,U,U,U,.own 0 (zB bt v6.1),.d (.int .i64 (v6.1.length:Int)),.d (.int .i64 (i3:Int)),U,U,U,U,U,U,U,U,U,.full (zB (eInt .i64) [e3.X,e3.Y,e3.Z]),.d (.int .i64 3),.d (.int .i64 0),U,U,U,U,U,U,U,U,.d (.bool ((decide (e3.X>100000))||(decide (e3.X<(-100000))))),U,U] ⟨[(cD a0),(cF v6.2),(cF e3)],[(24,v6.1.length)]⟩ rfl ?_ ?_)) h
 refine SWs.region ?_
 rcases zA (decide (e3.X>100000))with h6 | h6
 simp only[seval,EMH,SL,PB,h6,eInt]
 simp only[seval,EMH,SL,PB,h6,eInt]
 refine Mir.toK (.cond rfl (λh7=>?_) (λh7=>?_))
 refine .sR λe h=>?_
 simp only[seval,EMH,eInt]
 refine mU e (.ret λe h=>?_) h
 cases h
 simp only[seval,FMH,eInt]
 refine .skip (Mir.toB (Mir.toK (.region λe h=>?_)))
 simp only[seval,EMH,(nr rfl:zJ.wrap 1=1),eInt]
 refine Mir.useN (e:=e) ?_ h
 refine .sR λe h=>?_
 simp only[seval,EMH,eInt]
 refine mU e (.seqK (.condT rfl (.skip (Mir.toK (.seqK (.block (.sR λe h=>?_))))))) h
 simp only[seval,EMH,eInt]
 refine mU e (.seqK (.joinV [U,U,U,U,U,U,U,U,U,U,U,U,U,U,U,U,U,U,U,U,U,U,U,U,U,U,U,U,U,U,U,U,U,U,U,U,U,U,U,U,U,U,U,U,U,U,U,U,U,U,U,U,U,U,U,U,U,U,U,U,U,U,U,U,.own 0 (zB bt v6.1),.d (.int .i64 (v6.1.length:Int)),.d (.int .i64 (i3:Int)),U,U,U,U,U,U,U,U,U,.full (zB (eInt .i64) [e3.X,e3.Y,e3.Z]),.d (.int .i64 3),.d (.int .i64 1),U,U,U,U,U,U,U,U,.d (.bool ((decide (e3.Y>100000))||(decide (e3.Y<(-100000))))),U,U] ⟨[(cD a0),(cF v6.2),(cF e3)],[(24,v6.1.length)]⟩ rfl ?_ ?_)) h
 refine SWs.region ?_
 rcases zA (decide (e3.Y>100000))with h8 | h8
 simp only[seval,EMH,SL,PB,h8,eInt]
 simp only[seval,EMH,SL,PB,h8,eInt]
 refine Mir.toK (.cond rfl (λh9=>?_) (λh9=>?_))
 refine .sR λe h=>?_
 simp only[seval,EMH,eInt]
 refine mU e (.ret λe h=>?_) h
 cases h
 simp only[seval,FMH,eInt]
 refine .skip (Mir.toB (Mir.toK (.region λe h=>?_)))
 simp only[seval,EMH,(nr rfl:zJ.wrap 2=2),eInt]
 refine Mir.useN (e:=e) ?_ h
 refine .sR λe h=>?_
 simp only[seval,EMH,eInt]
 refine mU e (.seqK (.condT rfl (.skip (Mir.toK (.seqK (.block (.sR λe h=>?_))))))) h
 simp only[seval,EMH,eInt]
 refine mU e (.seqK (.joinV [U,U,U,U,U,U,U,U,U,U,U,U,U,U,U,U,U,U,U,U,U,U,U,U,U,U,U,U,U,U,U,U,U,U,U,U,U,U,U,U,U,U,U,U,U,U,U,U,U,U,U,U,U,U,U,U,U,U,U,U,U,U,U,U,.own 0 (zB bt v6.1),.d (.int .i64 (v6.1.length:Int)),.d (.int .i64 (i3:Int)),U,U,U,U,U,U,U,U,U,.full (zB (eInt .i64) [e3.X,e3.Y,e3.Z]),.d (.int .i64 3),.d (.int .i64 2),U,U,U,U,U,U,U,U,.d (.bool ((decide (e3.Z>100000))||(decide (e3.Z<(-100000))))),U,U] ⟨[(cD a0),(cF v6.2),(cF e3)],[(24,v6.1.length)]⟩ rfl ?_ ?_)) h
 refine SWs.region ?_
 rcases zA (decide (e3.Z>100000))with h10 | h10
 simp only[seval,EMH,SL,PB,h10,eInt]
 simp only[seval,EMH,SL,PB,h10,eInt]
 refine Mir.toK (.cond rfl (λh11=>?_) (λh11=>?_))
 refine .sR λe h=>?_
 simp only[seval,EMH,eInt]
 refine mU e (.ret λe h=>?_) h
 cases h
 simp only[seval,FMH,eInt]
 refine .skip (Mir.toB (Mir.toK (.region λe h=>?_)))
 simp only[seval,EMH,(nr rfl:zJ.wrap 3=3),eInt]
 refine Mir.useN (e:=e) ?_ h
 refine .sR λe h=>?_
 simp only[seval,EMH,eInt]
 refine mU e (.seqK (.condF rfl (.exit λe h=>?_))) h
 cases h
 simp only[seval,FMH,eInt]
 intro v8
 refine Mir.toK (.region λe h=>?_)
 simp only[seval,EMH,eInt]
 cases h
 simp only[seval,FMH,eInt,q9]
 intro v7 q10
 refine .sR λe h=>?_
 simp only[seval,EMH,q10,eInt]
 refine mU e (.seqK (.condF rfl (.exit λe h=>?_))) h
 cases h
 simp only[seval,FMH,eInt]
 intro v9
 refine Mir.toK (.sR λe h=>?_)
 simp only[seval,EMH,eInt]
 refine mU e (.ret λe h=>?_) h
 cases h
 simp only[seval,FMH,eInt]
def bB(a0:List am):Option (List am):=az (okLen a0.length) (some a0)
theorem dw{c0:Nat}{y:List am}(h:(some [])=some y):SpecY gP 21 [.d (.other (.slice none 0 c0))] 47 (zB aB y):=by
 refine gM Tryz.func21 rfl (by kernel_rfl) (by kernel_rfl) (λy:List am=>zB aB y) (sc_map (λ_=>rfl) _) ?_ h
 simp only[zF,zG,nS,nA,Tryz.ntmps21,SV]
 refine .sH ?_
 refine .seqK (.sH ?_)
 refine .condT rfl (.sH ?_)
 refine .ret λe h=>?_
 cases h
 simp only[seval,FMH,fy_r,fy_n,yr_o,yr_n]
theorem du{p0:Addr}{c0:Nat}{y:List am}(h:(some [])=some y):SpecY gP 21 [.d (.other (.slice (some p0) 0 c0))] 47 (zB aB y):=by
 refine gM Tryz.func21 rfl (by kernel_rfl) (by kernel_rfl) (λy:List am=>zB aB y) (sc_map (λ_=>rfl) _) ?_ h
 simp only[zF,zG,nS,nA,Tryz.ntmps21,SV]
 refine .sH ?_
 refine .seqK (.sH ?_)
 refine .condF rfl (.skip (Mir.toK (.seqK (.regionW λe h=>regW.alt 0 rfl ?_))))
 simp only[seval,EMH,al,w_eq]
 refine d8 app_40 (regW.of ?_)
 simp only[seval,EMH,al,w_eq,(oL 0)]
 refine mU e (.ret λe h=>?_) h
 cases h
 simp only[seval,FMH,fy_r,fy_n,yr_o,yr_n]
theorem dx{x0:am}{l0:List am}{y:List am}(h:(az (okLen (0+(x0::l0).length)) (   some ([]++(x0::l0))))=some y):SpecY gP 21 [.d (.list (zB aB (x0::l0)))] 47 (zB aB y):=by
 refine gM Tryz.func21 rfl (by kernel_rfl) (by kernel_rfl) (λy:List am=>zB aB y) (sc_map (λ_=>rfl) _) ?_ h
 simp only[zF,zG,nS,nA,Tryz.ntmps21,SV]
 refine .sH ?_
 refine .seqK (.sH ?_)
 refine .condF rfl (.skip (Mir.toK (.seqK (.guard λq1=>.regionW λe h=>regW.alt 0 rfl ?_))))
 simp only[seval,EMH,al,w_eq]
 refine d8 app_40 (regW.of ?_)
 simp only[seval,EMH,al,w_eq,(oL 0),q1]
 refine mU e (.ret λe h=>?_) h
 cases h
 simp only[seval,FMH,fy_r,fy_n,yr_o,yr_n]
theorem cQ{a0:List am}{y:List am}(h:bB a0=some y):SpecY gP 21 [.d (.list (zB aB a0))] 47 (zB aB y):=by
 obtain⟨hl,h⟩:=bS h
 cases h
 cases a0 with
 | nil =>
  refine SpecY.nilcase λA c=>?_
  cases A with
  | none=>exact dw rfl
  | some p=>exact du rfl
 | cons x l=>exact dx (by simp only[az,Nat.zero_add,List.nil_append,hl])
def eK(a0:(List am)):Option (List am):=bindO (bB a0) λ(y1:(List am))=>bindO (az (okIdx y1) ( aI (λ(i1:Nat) (e1:am) (v1:(List am))=>bindO (gt v1 (i1:Int)) λ(e2:am)=>some (.go (v1.set (Int.toNat (i1:Int)) (am.mk e2.From e2.To e2.Rate e2.Tool 0)))) (λ(v1:(List am))=>some v1) y1 0 y1)) λ(v2:(List am))=>some v2
theorem iI{a0:(List am)}{y:(List am)}(h:eK a0=some y):Spec gP 11 [.d (.list (zB aB a0))] (.d (.list (zB aB y))):=by
 refine auH Tryz.func11 (λy:(List am)=>.d (.list (zB aB y))) ?_ h
 unfold eK
 refine .sR λe h=>?_
 simp only[seval,EMH,ag,spD]
 refine mU e (.seqK (.bind λy1 hy1=>.region λe h=>?_)) h
 simp only[seval,EMH,ag,spD]
 refine SpecY.toS (cQ hy1) (by simp only[seval,FMH,ag,spD]) ?_
 simp only[seval,EMH,ag,spD]
 refine mU e (.seqK (.seqK (.regionW λe h=>regW.alt 1 rfl ?_))) h
 simp only[seval,EMH,al,w_eq,ag,spD]
 refine alt_lenR rfl rfl und_40 (regW.of ?_)
 simp only[seval,EMH,al,w_eq,ag,spD]
 refine mU e (Mir.joinO (λv2:(List am)=>([U,U,U,.gr 0 0]++us 14)) (λv2=>⟨[[.rowc 47 0 (zB aB v2)]],[]⟩) (λ_=>rfl) ?_ ?_) h
 refine .block (.guard λqg33=>Mir.range (λ(i1:Nat) (v1:(List am))=>([U,U,U,.gr 0 0,U,U,U,U,.d (.int .i64 (y1.length:Int)),.d (.int .i64 (i1:Int))]++us 8)) (λi1 v1=>⟨[[.rowc 47 0 (zB aB v1)]],[]⟩) qg33 (λ_ _=>rfl) (by simp only[seval,FMH,ag,spD,zNI]) (by simp only[seval,FMH,ag,spD,zNI]) ?_ ?_)
 intro i1 e1 v1 qr31
 refine .sR λe h=>?_
 simp only[seval,EMH,qr31,ag,spD]
 refine mU e (.seqK (.condT rfl (.skip (Mir.toK (.seqK (.block (.sR λe h=>?_))))))) h
 simp only[seval,EMH,ag,spD]
 refine mU e (.bind λe2 q35=>?_) h
 replace q35:=gt_ok q35
 refine .regionW λe h=>regW.alt 2 rfl ?_
 simp only[seval,EMH,al,w_eq,ag,spD]
 refine ic rfl rfl rfl und_40 sz_47 (row_lo q35.1) (row_hi q35.2 q35.1) (regW.alt 0 rfl ?_)
 simp only[seval,EMH,al,w_eq,ag,spD]
 refine alt_fieldR rfl rfl fld_47_4 sz_3 (by decide) (regW.alt 0 rfl ?_)
 simp only[seval,EMH,al,w_eq,ag,spD]
 refine alt_storeR rfl rfl (row_at q35.2) rfl rfl sz_3 rfl (Nat.le_of_ble_eq_true rfl) (regW.of ?_)
 simp only[seval,EMH,al,w_eq,ag,spD]
 refine mU e (.region λe h=>?_) h
 simp only[seval,EMH,ag,spD]
 cases h
 simp only[seval,FMH,ag,spD,qr31]
 intro v1 qd32
 refine .sR λe h=>?_
 simp only[seval,EMH,qd32,ag,spD]
 refine mU e (.seqK (.condF rfl (.exit λe h=>?_))) h
 cases h
 simp only[seval,FMH,ag,spD]
 intro v2
 refine Mir.toK (.sR λe h=>?_)
 simp only[seval,EMH,ag,spD]
 refine mU e (.frz 0 rfl ?_) h
 simp only[seval,us_0,us_s,xCA,xNA,and_self,and_true,true_and,and_false,false_and,SZ]
 refine .ret λe h=>?_
 cases h
 simp only[seval,FMH,ag,spD]
def da(a0:Int):Option bo:=bindO (gt [0,1,10] (zH (IntKind.u8.wrap (Int.tdiv a0 2)) 3)) λ(e1:Int)=>bindO (gt [0,2,3,5] (zH (IntKind.u8.wrap (Int.tdiv a0 6)) 4)) λ(e2:Int)=>some (bo.mk 55000 ((zH a0 2)==1) e1 e2)
theorem gy{a0:Int}{y:bo}(h:da a0=some y):Spec gP 7 [.d (.int .u8 a0)] (.agg [.d (.int .i64 y.Work),.d (.bool y.Compress),.d (.int .i64 y.Numbers),.d (.int .i64 y.Fold)]):=by
 refine auH Tryz.func7 (λy:bo=>.agg [.d (.int .i64 y.Work),.d (.bool y.Compress),.d (.int .i64 y.Numbers),.d (.int .i64 y.Fold)]) ?_ h
 unfold da
 refine .sR λe h=>?_
 simp only[seval,EMH,eInt]
 refine mU e (.seqK (.bind λe1 q1=>?_)) h
 replace q1:=gt_ok q1
 refine .bind λe2 q2=>?_
 replace q2:=gt_ok q2
 refine .regionD [] (by kernel_rfl) λe h=>?_
 simp only[seval,EMH,SB,und_60,sz_2,zero_2,(oL 3),q1,(gt_lit (λx:Int=>[D.int .i64 x]) [[D.int .i64 0],[D.int .i64 1],[D.int .i64 10]] [D.int .i64 e1] q1.2 rfl rfl),ag_2,und_65,sz_3,fP,(oL 4),q2,(gt_lit (λx:Int=>[D.int .i64 x]) [[D.int .i64 0],[D.int .i64 2],[D.int .i64 3],[D.int .i64 5]] [D.int .i64 e2] q2.2 rfl rfl),ag_3,zero_33,pl_33,sz_33,eInt]
 refine mU e (.ret λe h=>?_) h
 cases h
 simp only[seval,FMH,eInt]
def be(a0:(List am))(a1:(List am)):Option Bool:=if ((a0.length:Int) != (a1.length:Int))=true then some false else bindX (az (okIdx a0) ( aI (λ(i1:Nat) (e1:am) (v1:Unit)=>bindO (gt a1 (i1:Int)) λ(e2:am)=>if (!((e1.From.X==e2.From.X)&&((e1.From.Y==e2.From.Y)&&((e1.From.Z==e2.From.Z)&&((e1.To.X==e2.To.X)&&((e1.To.Y==e2.To.Y)&&((e1.To.Z==e2.To.Z)&&((e1.Rate==e2.Rate)&&((e1.Tool==e2.Tool)&&(e1.Block==e2.Block))))))))))=true then some (.ret (.ret false))else some (.go ())) (λ(v1:Unit)=>some (.go ())) a0 0 ())) λ(v2:Unit)=>some true
theorem cV{a0:(List am)}{a1:(List am)}{y:Bool}(h:be a0 a1=some y):Spec gP 10 [.d (.list (zB aB a0)),.d (.list (zB aB a1))] (.d (.bool y)):=by
 refine auH Tryz.func10 (λy:Bool=>.d (.bool y)) ?_ h
 unfold be
 refine .sH ?_
 refine .seqK (.sH ?_)
 refine .cond rfl (λhb2=>?_) (λhb2=>?_)
 refine .sH ?_
 refine .ret QH
 refine .skip (Mir.toK (.seqK (.sH ?_)))
 refine Mir.join (λv2:Unit=>(us 26)) (λv2=>⟨[],[]⟩) (λ_=>rfl) ?_ ?_
 refine .block (.guard λqg67=>Mir.range (λ(i1:Nat) (v1:Unit)=>([.d (.list (zB aB a0)),.d (.list (zB aB a1)),U,U,U,U,U,U,U,U,U,U,.d (.int .i64 (a0.length:Int)),.d (.int .i64 (i1:Int))]++us 12)) (λi1 v1=>⟨[],[]⟩) qg67 (λ_ _=>rfl) (by simp only[seval,FMH,zNI]) (by simp only[seval,FMH,zNI]) ?_ ?_)
 intro i1 e1 v1 qr65
 refine .sR λe h=>?_
 simp only[seval,EMH,qr65]
 refine mU e (.seqK (.condT rfl (.skip (Mir.toK (.seqK (.block (.sH ?_))))))) h
 refine .seqK (.bind λe2 q70=>?_)
 replace q70:=gt_ok q70
 simp only[zE]at q70
 refine .regionD [] (by kernel_rfl) λe h=>?_
 simp only[seval,EMH,SB,qr65,zE,q70,gE_47]
 refine mU e (.cond rfl (λhb72=>?_) (λhb72=>?_)) h
 refine .sH ?_
 refine .ret QH
 refine .skip (Mir.toB (Mir.toK (.region λe h=>?_)))
 simp only[seval,EMH]
 cases h
 simp only[seval,FMH,qr65]
 intro v1 qd66
 refine .sR λe h=>?_
 simp only[seval,EMH,qd66]
 refine mU e (.seqK (.condF rfl (.exit QH))) h
 intro v2
 refine Mir.toK (.sH ?_)
 refine .ret QH
end Go.Proofs.YtgojngpeaknbnaaGreatDoor
