import Derived.Test.YtgbafiejgciilaaGreatDoorG1
import Derived.Test.YtgbafiejgciilaaGreatDoorTy
import Derived.Test.YtgbafiejgciilaaGreatDoorGz
import Derived.Test.YtgbafiejgciilaaGreatDoorSzz
open List renaming map → zA,replicate → zI,length → zQ
open Nat renaming le_of_ble_eq_true → zB,le_refl → zN,sub_zero → zP
open And renaming intro → zD
open Int renaming toNat → zE,toNat_natCast → zF,tdiv → zG,tmod → zJ,reduceToNat → zK,reduceLT → zO
open Bool renaming eq_false_or_eq_true → zH
open Option renaming map_some → zL,map_none → zM
open Go.IntKind renaming i64 → zR,u32 → zT,u64 → zU
namespace Go.Proofs.YtgbafiejgciilaaGreatDoor
set_option linter.defProp false
open Go.RowKit
open Nat renaming reduceAdd → nA,reduceSub → nS,reduceMul → nM,reduceEqDiff → nE,reduceLeDiff → nL,reduceLT → nT,reduceBEq → nB
open Int renaming reduceLT → iT,reduceToNat → iN,reduceEq → iE
set_option linter.unusedVariables false
set_option linter.unusedSimpArgs false
set_option maxRecDepth 100000
set_option maxHeartbeats 8000000
structure aq where
 Neg:Bool
 Limbs:(List Int)
 deriving DecidableEq
def encApiInt(x:aq):List D:=[.bool x.Neg,.list (zA (eInt .u32) x.Limbs)]
abbrev cP(x:aq):List V:=[.d (.bool x.Neg),.d (.list (zA (eInt .u32) x.Limbs))]
def ENMI:=@encApiInt.eq_1
def TMI:=zD @Tryz.ntmps100<|zD @Tryz.ntmps101<|zD @Tryz.ntmps103<|zD @Tryz.ntmps105<|zD @Tryz.ntmps106<|zD @Tryz.ntmps107<|zD @Tryz.ntmps108<|zD @Tryz.ntmps125<|zD @Tryz.ntmps126<|zD @Tryz.ntmps19<|zD @Tryz.ntmps29<|zD @Tryz.ntmps32<|zD @Tryz.ntmps33<|zD @Tryz.ntmps34<|zD @Tryz.ntmps35<|zD @Tryz.ntmps59<|zD @Tryz.ntmps60<|zD @Tryz.ntmps64<|zD @Tryz.ntmps67<|zD @Tryz.ntmps68<|zD @Tryz.ntmps69<|zD @Tryz.ntmps70<|zD @Tryz.ntmps71<|zD @Tryz.ntmps98<|zD @Tryz.results100<|zD @Tryz.results101<|zD @Tryz.results103<|zD @Tryz.results105<|zD @Tryz.results106<|zD @Tryz.results107<|zD @Tryz.results108<|zD @Tryz.results125<|zD @Tryz.results126<|zD @Tryz.results127<|zD @Tryz.results128<|zD @Tryz.results19<|zD @Tryz.results29<|zD @Tryz.results32<|zD @Tryz.results33<|zD @Tryz.results34<|zD @Tryz.results35<|zD @Tryz.results59<|zD @Tryz.results60<|zD @Tryz.results64<|zD @Tryz.results67<|zD @Tryz.results68<|zD @Tryz.results69<|zD @Tryz.results70<|zD @Tryz.results71<|zD @Tryz.results98<|zD @ag_140<|zD @ag_39<|zD @ag_4<|zD @ag_41<|zD @al_eInt<|zD @app_39<|zD @eInt.eq_1<|zD @fld_41_0<|zD @fld_41_1<|zD @pl_41<|zD @aI<|zD @spD<|zD @bh<|zD @sz_39<|zD @sz_4<|zD @sz_41<|zD @und_131<|zD @und_140<|zD @und_2<|zD @ca<|zD @und_4<|zD @w_eq<|zD @w_none<|zD @jK<|@zero_41
def EMI:=zD @SE<|zD @ENMI<|@TMI
def FMI:=zD @SF<|zD @ENMI<|@TMI
theorem QI{α:Type}{x:α}{p:α→Prop}(e:p x:=by simp only[seval,FMI]):∀y,some x=some y→p y:=λ_ i=>Option.some.inj i▸e
theorem WI{p q:Prop}(h:q)(e:p=q:=by simp only[seval,EMI];rfl):p:=Eq.mpr e h
theorem mI{P:Program}{g:Pg P}{fr:Fr}{s:Sg}{ε:Type}{Φ:ε→SQ}{m:Option ε}{c:Code}{e:ε}{p:Prop}(h:Mir g c fr s m Φ)(i:m=some e)(w:p=SWs g c (Φ e) fr s:=by simp only[seval,EMI];rfl):p:=Eq.mpr w (h e i)
theorem Mir.sI{P:Program}{g g':Pg P}{fr fr':Fr}{s s':Sg}{ε:Type}{Φ:ε→SQ}{m:Option ε}{id:Nat}{ops:Array Oper}{k c:Code}(h:Mir g' c fr' s' m Φ)(e:∀e,regS g false ops ops.toList fr s (kQ g k Φ e .normal)=SWs g' c (Φ e) fr' s':=by intro e;simp only[seval,EMI];rfl):Mir g (.seq (.region id ops false) k) fr s m Φ:=Mir.sR λy i=>Eq.mpr (e y) (h y i)
theorem Mir.rI{P:Program}{g:Pg P}{fr:Fr}{s:Sg}{ε:Type}{Φ:ε→SQ}{x:ε}{id:Nat}{ops:Array Oper}(e:regS g false ops ops.toList fr s (Φ x .normal):=by simp only[seval,EMI];simp only[seval,FMI]):Mir g (.region id ops false) fr s (some x) Φ:=Mir.region λ_ i=>Option.some.inj i▸e
theorem SpecS.byI{P:Program}{g:Pg P}{f:FuncId}{args:List V}{s:Sg}{R:V→Sg→Prop}{r:V}{args':List V}(h:Spec g f args' r)(hR:R r s)(ha:args.map V.clean=args':=by simp only[seval,FMI]):SpecS g f args s R:=SpecS.by h ha hR
theorem auI{P:Program}{g:Pg P}{f:FuncId}{fn:Func}{c:Code}(hf:P.funcs[f]? = some fn){args:List V}{ρ:Type}(en:ρ→V){m:Option ρ}{fr:Fr}(h:Mir g c fr ⟨[],[]⟩ m (fnQ g fn.results.toList en)){y:ρ}(hy:m=some y)(hb:fn.body=some c:=by rfl)(he:bj P f=true:=by kernel_rfl)(hd:bP c=true:=by kernel_rfl)(e:args++List.replicate (fn.ntmps-args.length) .undef=fr:=by simp only[List.replicate,List.length,nS,nA,SV,TMI];rfl):Spec g f args (en y):=d4 hf hb he hd en (e▸h) hy
def it_plus(a0:(List Int))(a1:(List Int)):Option (List Int):=bindO (if (decide ((a0.length:Int)<(a1.length:Int)))=true then some (a1,a0)else some (a0,a1)) λ(v1:(List Int)×(List Int))=>aB (decide ((0:Int)≤(zR.wrap ((v1.1.length:Int)+1)))) ( aB (okLen (zE (zR.wrap ((v1.1.length:Int)+1)))) ( bindO (aB (okIdx v1.1) ( aS (λ(i1:Nat) (e1:Int) (v2:(List Int)×Int)=>bindO (if (decide ((i1:Int)<(v1.2.length:Int)))=true then bindO (gt v1.2 (i1:Int)) λ(e2:Int)=>some (zT.wrap ((zT.wrap (e1+v2.2))+e2))else some (zT.wrap (e1+v2.2))) λ(v3:Int)=>bindO (if (decide (v3≥1000000000))=true then some (1,zT.wrap (v3-1000000000))else some (0,v3)) λ(v4:Int×Int)=>aB (okLen (v2.1.length+1)) ( some (.go (v2.1++[v4.2],v4.1)))) (λ(v2:(List Int)×Int)=>some (v2.1,v2.2)) v1.1 0 ([],0))) λ(v5:(List Int)×Int)=>aB (okLen (v5.1.length+1)) ( some (v5.1++[v5.2]))))
theorem it_plus_spec{a0:(List Int)}{a1:(List Int)}{y:(List Int)}(h:it_plus a0 a1=some y):Spec gP 106 [.d (.list (zA (eInt .u32) a0)),.d (.list (zA (eInt .u32) a1))] (.d (.list (zA (eInt .u32) y))):=by
 refine auI Tryz.func106 (λy:(List Int)=>.d (.list (zA (eInt .u32) y))) ?_ h
 unfold it_plus
 refine .sI ?_
 refine .seqK (.sI ?_)
 refine Mir.joinO (λv1:(List Int)×(List Int)=>([.d (.list (zA (eInt .u32) v1.1)),.d (.list (zA (eInt .u32) v1.2))]++us 51)) (λv1=>⟨[],[]⟩) (λ_=>rfl) ?_ ?_
 refine .cond rfl (λ_=>.rI) (λ_=>.skip QI)
 intro v1
 refine Mir.toK (.seqK (.guard λq3=>.guard λq4=>.regionW λe h=>regW.alt 3 rfl ?_))
 simp only[seval,EMI]
 refine alt_makeOwn rfl rfl app_39 (of_decide_eq_true q3) q4 (regW.of ?_)
 simp only[seval,EMI]
 refine mU e (.sI ?_) h
 refine .seqK (.sI ?_)
 refine Mir.joinO (λv5:(List Int)×Int=>([U,U,U,U,U,.own 0 (zA (eInt .u32) v5.1),.d (.int .u32 v5.2)]++us 46)) (λv5=>⟨[],[(140,v5.1.length)]⟩) (λ_=>rfl) ?_ ?_
 refine .block (.guard λq1=>Mir.range (λ(i1:Nat) (v2:(List Int)×Int)=>([U,.d (.list (zA (eInt .u32) v1.2)),U,U,U,.own 0 (zA (eInt .u32) v2.1),.d (.int .u32 v2.2),U,U,U,U,U,U,U,U,U,U,U,U,U,.d (.list (zA (eInt .u32) v1.1)),.d (.int .i64 (v1.1.length:Int)),.d (.int .i64 (i1:Int))]++us 30)) (λi1 v2=>⟨[],[(140,v2.1.length)]⟩) q1 (λ_ _=>rfl) (by simp only[seval,FMI,zNI]) (by simp only[seval,FMI,zNI]) ?_ ?_)
 intro i1 e1 v2 q2
 refine .sR λe h=>?_
 simp only[seval,EMI,q2]
 refine mU e (.seqK (.condT rfl (.skip (Mir.toK (.seqK (.block (.sR λe h=>?_))))))) h
 simp only[seval,EMI,q2,zF]
 refine mU e (.sI ?_) h
 refine .seqK (.sI ?_)
 refine Mir.joinO (λv3:Int=>([U,.d (.list (zA (eInt .u32) v1.2)),U,U,U,.own 0 (zA (eInt .u32) v2.1),U,U,.d (.int .u32 v3),U,U,U,U,U,U,U,U,U,U,U,.d (.list (zA (eInt .u32) v1.1)),.d (.int .i64 (v1.1.length:Int)),.d (.int .i64 (i1:Int))]++us 30)) (λv3=>⟨[],[(140,v2.1.length)]⟩) (λ_=>rfl) ?_ ?_
 refine .cond rfl (λh1=>?_) (λh1=>?_)
 refine .bind λe2 q5=>?_
 replace q5:=gt_ok q5
 simp only[zF]at q5
 refine .region λe h=>?_
 simp only[seval,EMI,q5,zF]
 cases h
 simp only[seval,FMI]
 refine .skip QI
 intro v3
 refine Mir.toK (.sI ?_)
 refine .seqK (.sI ?_)
 refine Mir.joinO (λv4:Int×Int=>([U,.d (.list (zA (eInt .u32) v1.2)),U,U,U,.own 0 (zA (eInt .u32) v2.1),.d (.int .u32 v4.1),U,.d (.int .u32 v4.2),U,U,U,U,U,U,U,U,U,U,U,.d (.list (zA (eInt .u32) v1.1)),.d (.int .i64 (v1.1.length:Int)),.d (.int .i64 (i1:Int))]++us 30)) (λv4=>⟨[],[(140,v2.1.length)]⟩) (λ_=>rfl) ?_ ?_
 refine .cond rfl (λ_=>.rI) (λ_=>.skip QI)
 intro v4
 refine Mir.toK (.guard λq6=>.region λe h=>?_)
 simp only[seval,EMI,(oL 1),q6]
 refine mU e (.region λe h=>?_) h
 simp only[seval,EMI]
 cases h
 simp only[seval,FMI,q2]
 intro v2 q7
 refine .sR λe h=>?_
 simp only[seval,EMI,q7]
 refine mU e (.seqK (.condF rfl (.exit QI))) h
 intro v5
 refine Mir.toK (.seqK (.guard λq8=>.region λe h=>?_))
 simp only[seval,EMI,(oL 1),q8]
 refine mU e (.ret QI) h
def bG(a0:Bool)(a1:(List Int)):Option aq:=bindO (loopX (λ(v1:Int)=>bindO (if (decide (v1>0))=true then bindO (gt a1 (zR.wrap (v1-1))) λ(e1:Int)=>some (e1==0)else some false) λ(v2:Bool)=>if v2=true then some (.go (zR.wrap (v1-1)))else some (.ret v1)) fuel (a1.length:Int)) λ(v3:Int)=>bindO (if a0=true then bindO (cutT a1 v3) λ(s1:(List Int))=>some (aq.mk (decide (v3>0)) s1)else bindO (cutT a1 v3) λ(s2:(List Int))=>some (aq.mk false s2)) λ(v4:aq)=>some v4
theorem bp{a0:Bool}{a1:(List Int)}{y:aq}(h:bG a0 a1=some y):Spec gP 67 [.d (.bool a0),.d (.list (zA (eInt .u32) a1))] (.agg [.d (.bool y.Neg),.d (.list (zA (eInt .u32) y.Limbs))]):=by
 refine auI Tryz.func67 (λy:aq=>.agg [.d (.bool y.Neg),.d (.list (zA (eInt .u32) y.Limbs))]) ?_ h
 unfold bG
 refine .sI ?_
 refine .sI ?_
 refine .seqK (Mir.joinO (λv3:Int=>([.d (.bool a0),.d (.list (zA (eInt .u32) a1)),U,U,.ptr 0 0,.d (.int .i64 v3)]++us 24)) (λv3=>⟨[[.d (.bool false),.nil]],[]⟩) (λ_=>rfl) ?_ ?_)
 refine .block (Mir.loop (λv1:Int=>([.d (.bool a0),.d (.list (zA (eInt .u32) a1)),U,U,.ptr 0 0,.d (.int .i64 v1)]++us 24)) (λv1=>⟨[[.d (.bool false),.nil]],[]⟩) (λ_=>rfl) (by simp only[seval,FMI]) (by simp only[seval,FMI]) λv1=>.seqK (.seqK (Mir.joinO (λv2:Bool=>([.d (.bool a0),.d (.list (zA (eInt .u32) a1)),U,U,.ptr 0 0,.d (.int .i64 v1),U,U,U,U,U,U,U,U,U,U,U,.d (.bool v2)]++us 12)) (λv2=>⟨[[.d (.bool false),.nil]],[]⟩) (λ_=>rfl) ?_ ?_)))
 refine .ite (λhb29=>?_) (λhb29=>?_)
 refine .bind λe1 q30=>?_
 replace q30:=gt_ok q30
 refine .region λe h=>?_
 simp only[seval,EMI,q30,hb29]
 cases h
 simp only[seval,FMI,hb29]
 refine .region λe h=>?_
 simp only[seval,EMI,hb29]
 cases h
 simp only[seval,FMI,hb29]
 intro v2
 refine Mir.toK (.cond rfl (λhb32=>?_) (λhb32=>?_))
 refine .skip (Mir.toK (.block (.rI)))
 refine .exit QI
 intro v3
 refine Mir.toK (.seqK (Mir.joinO (λv4:aq=>([U,U,U,U,.ptr 0 0]++us 25)) (λv4=>⟨[(cP v4)],[]⟩) (λ_=>rfl) ?_ ?_))
 refine .ite (λhb33=>?_) (λhb33=>?_)
 refine .bind λs1 q34=>?_
 replace q34:=cutT_ok q34
 refine .region λe h=>?_
 simp only[seval,EMI,q34,zN,and_true,true_and,dm,tm,hb33]
 cases h
 simp only[seval,FMI,hb33]
 refine .bind λs2 q35=>?_
 replace q35:=cutT_ok q35
 refine .region λe h=>?_
 simp only[seval,EMI,q35,zN,and_true,true_and,dm,tm,hb33]
 cases h
 simp only[seval,FMI,hb33]
 intro v4
 refine Mir.toK (.ret QI)
def fX(a0:(List Int)):Option (List Int):=bindO (loopX (λ(v1:(List Int))=>bindO (if (decide ((v1.length:Int)>0))=true then bindO (gt v1 (zR.wrap ((v1.length:Int)-1))) λ(e1:Int)=>some (e1==0)else some false) λ(v2:Bool)=>if v2=true then bindO (cutT v1 (zR.wrap ((v1.length:Int)-1))) λ(s1:(List Int))=>some (.go s1)else some (.ret v1)) fuel a0) λ(v3:(List Int))=>some v3
theorem eh{a0:(List Int)}{y:(List Int)}(h:fX a0=some y):Spec gP 108 [.d (.list (zA (eInt .u32) a0))] (.d (.list (zA (eInt .u32) y))):=by
 refine auI Tryz.func108 (λy:(List Int)=>.d (.list (zA (eInt .u32) y))) ?_ h
 unfold fX
 refine .sI ?_
 refine .seqK (Mir.joinO (λv3:(List Int)=>([.d (.list (zA (eInt .u32) v3))]++us 20)) (λv3=>⟨[],[]⟩) (λ_=>rfl) ?_ ?_)
 refine .block (Mir.loop (λv1:(List Int)=>([.d (.list (zA (eInt .u32) v1))]++us 20)) (λv1=>⟨[],[]⟩) (λ_=>rfl) (by simp only[seval,FMI]) (by simp only[seval,FMI]) λv1=>.seqK (.seqK (Mir.joinO (λv2:Bool=>([.d (.list (zA (eInt .u32) v1)),U,U,U,U,U,U,U,U,U,U,U,U,U,.d (.bool v2)]++us 6)) (λv2=>⟨[],[]⟩) (λ_=>rfl) ?_ ?_)))
 refine .ite (λhb34=>?_) (λhb34=>?_)
 refine .bind λe1 q35=>?_
 replace q35:=gt_ok q35
 refine .region λe h=>?_
 simp only[seval,EMI,q35,hb34]
 cases h
 simp only[seval,FMI,hb34]
 refine .region λe h=>?_
 simp only[seval,EMI,hb34]
 cases h
 simp only[seval,FMI,hb34]
 intro v2
 refine Mir.toK (.cond rfl (λhb37=>?_) (λhb37=>?_))
 refine .skip (Mir.toK (.block (.bind λs1 q38=>?_)))
 replace q38:=cutT_ok q38
 refine .region λe h=>?_
 simp only[seval,EMI,q38,zN,and_true,true_and,dm,tm]
 cases h
 simp only[seval,FMI]
 refine .exit QI
 intro v3
 refine Mir.toK (.sI ?_)
 refine .ret QI
def er(a0:(List Int))(a1:(List Int)):Option Int:=bindO (fX a0) λ(y1:(List Int))=>bindO (fX a1) λ(y2:(List Int))=>if ((y1.length:Int) != (y2.length:Int))=true then if (decide ((y1.length:Int)<(y2.length:Int)))=true then some (-1)else some 1 else bindX (loopX (λ(v1:Int)=>if (decide (v1≥0))=true then bindO (gt y1 v1) λ(e1:Int)=>bindO (gt y2 v1) λ(e2:Int)=>if (decide (e1<e2))=true then some (.ret (.ret (-1)))else if (decide (e1>e2))=true then some (.ret (.ret 1))else some (.go (zR.wrap (v1-1)))else some (.ret (.go ()))) fuel (zR.wrap ((y1.length:Int)-1))) λ(v2:Unit)=>some 0
theorem eG{a0:(List Int)}{a1:(List Int)}{y:Int}(h:er a0 a1=some y):Spec gP 71 [.d (.list (zA (eInt .u32) a0)),.d (.list (zA (eInt .u32) a1))] (.d (.int .i64 y)):=by
 refine auI Tryz.func71 (λy:Int=>.d (.int .i64 y)) ?_ h
 unfold er
 refine .sI ?_
 refine .seqK (.bind λy1 hy1=>.bind λy2 hy2=>.region λe h=>WI ?_)
 refine .byI (eh hy1) (WI ?_)
 refine .byI (eh hy2) (mI ?_ h)
 refine .seqK (.sI ?_)
 refine .cond rfl (λhb6=>?_) (λhb6=>?_)
 refine .seqK (.sI ?_)
 refine .cond rfl (λhb8=>?_) (λhb8=>?_)
 refine .sI ?_
 refine .ret QI
 refine .skip (Mir.toK (.sI ?_))
 refine .ret QI
 refine .skip (Mir.toK (.seqK (.sI ?_)))
 refine Mir.join (λv2:Unit=>(us 45)) (λv2=>⟨[],[]⟩) (λ_=>rfl) ?_ ?_
 refine .block (Mir.loop (λv1:Int=>([.d (.list (zA (eInt .u32) y1)),.d (.list (zA (eInt .u32) y2)),U,U,U,.d (.int .i64 v1)]++us 39)) (λv1=>⟨[],[]⟩) (λ_=>rfl) (by simp only[seval,FMI]) (by simp only[seval,FMI]) λv1=>.seqK (.sI ?_))
 refine .cond rfl (λhb75=>?_) (λhb75=>?_)
 refine .skip (Mir.toK (.seqK (.block (.seqK (.seqK (.bind λe1 q81=>?_))))))
 replace q81:=gt_ok q81
 refine .bind λe2 q82=>?_
 replace q82:=gt_ok q82
 refine .regionD [] (by kernel_rfl) λe h=>?_
 simp only[seval,EMI,SB,q81,q82]
 refine mU e (.cond rfl (λhb84=>?_) (λhb84=>?_)) h
 refine .sI ?_
 refine .ret QI
 refine .skip (Mir.toK (.seqK (.regionD [] (by kernel_rfl) λe h=>?_)))
 simp only[seval,EMI,SB,q81,q82]
 refine mU e (.cond rfl (λhb86=>?_) (λhb86=>?_)) h
 refine .sI ?_
 refine .ret QI
 refine .skip (Mir.toB (Mir.toK (.rI)))
 refine .exit QI
 intro v2
 refine Mir.toK (.sI ?_)
 refine .ret QI
def it_minus(a0:(List Int))(a1:(List Int)):Option (List Int):=aB (decide ((0:Int)≤(a0.length:Int))) ( aB (okLen (zE (a0.length:Int))) ( bindO (aB (okIdx a0) ( aS (λ(i1:Nat) (e1:Int) (v1:Int×(List Int))=>bindO (if (decide ((i1:Int)<(a1.length:Int)))=true then bindO (gt a1 (i1:Int)) λ(e2:Int)=>some (zT.wrap (v1.1+e2))else some v1.1) λ(v2:Int)=>bindO (if (decide (e1<v2))=true then some (1,zT.wrap (e1+1000000000))else some (0,e1)) λ(v3:Int×Int)=>bindO (gt v1.2 (i1:Int)) λ(e3:Int)=>some (.go (v3.1,v1.2.set (zE (i1:Int)) (zT.wrap (v3.2-v2))))) (λ(v1:Int×(List Int))=>some v1.2) a0 0 (0,zI (zE (a0.length:Int)) (0:Int)))) λ(v4:(List Int))=>some v4))
theorem it_minus_spec{a0:(List Int)}{a1:(List Int)}{y:(List Int)}(h:it_minus a0 a1=some y):Spec gP 107 [.d (.list (zA (eInt .u32) a0)),.d (.list (zA (eInt .u32) a1))] (.d (.list (zA (eInt .u32) y))):=by
 refine auI Tryz.func107 (λy:(List Int)=>.d (.list (zA (eInt .u32) y))) ?_ h
 unfold it_minus
 refine .sI ?_
 refine .seqK (.guard λq1=>.guard λq2=>.regionW λe h=>regW.alt 2 rfl ?_)
 simp only[seval,EMI]
 refine jF (en:=(eInt .u32)) (z:=0) rfl rfl app_39 jK rfl rfl (of_decide_eq_true q1) q2 (regW.of ?_)
 simp only[seval,EMI]
 refine mU e (.sI ?_) h
 refine .seqK (.sI ?_)
 refine Mir.joinO (λv4:(List Int)=>([U,U,U,U,U,.gr 0 0]++us 38)) (λv4=>⟨[[.rowc 140 0 (zA (eInt .u32) v4)]],[]⟩) (λ_=>rfl) ?_ ?_
 refine .block (.guard λq3=>Mir.range (λ(i1:Nat) (v1:Int×(List Int))=>([U,.d (.list (zA (eInt .u32) a1)),U,U,U,.gr 0 0,.d (.int .u32 v1.1),U,U,U,U,U,U,.d (.list (zA (eInt .u32) a0)),.d (.int .i64 (a0.length:Int)),.d (.int .i64 (i1:Int))]++us 28)) (λi1 v1=>⟨[[.rowc 140 0 (zA (eInt .u32) v1.2)]],[]⟩) q3 (λ_ _=>rfl) (by simp only[seval,FMI,zNI]) (by simp only[seval,FMI,zNI]) ?_ ?_)
 intro i1 e1 v1 q4
 refine .sR λe h=>?_
 simp only[seval,EMI,q4]
 refine mU e (.seqK (.condT rfl (.skip (Mir.toK (.seqK (.block (.sR λe h=>?_))))))) h
 simp only[seval,EMI,q4,zF]
 refine mU e (.sI ?_) h
 refine .seqK (.sI ?_)
 refine Mir.joinO (λv2:Int=>([U,.d (.list (zA (eInt .u32) a1)),U,U,U,.gr 0 0,U,.d (.int .i64 (i1:Int)),.d (.int .u32 e1),.d (.int .u32 v2),U,U,U,.d (.list (zA (eInt .u32) a0)),.d (.int .i64 (a0.length:Int)),.d (.int .i64 (i1:Int))]++us 28)) (λv2=>⟨[[.rowc 140 0 (zA (eInt .u32) v1.2)]],[]⟩) (λ_=>rfl) ?_ ?_
 refine .cond rfl (λh1=>?_) (λh1=>?_)
 refine .bind λe2 q5=>?_
 replace q5:=gt_ok q5
 simp only[zF]at q5
 refine .region λe h=>?_
 simp only[seval,EMI,q5,zF]
 cases h
 simp only[seval,FMI]
 refine .skip QI
 intro v2
 refine Mir.toK (.sI ?_)
 refine .seqK (.sI ?_)
 refine Mir.joinO (λv3:Int×Int=>([U,.d (.list (zA (eInt .u32) a1)),U,U,U,.gr 0 0,.d (.int .u32 v3.1),.d (.int .i64 (i1:Int)),.d (.int .u32 v3.2),.d (.int .u32 v2),U,U,U,.d (.list (zA (eInt .u32) a0)),.d (.int .i64 (a0.length:Int)),.d (.int .i64 (i1:Int))]++us 28)) (λv3=>⟨[[.rowc 140 0 (zA (eInt .u32) v1.2)]],[]⟩) (λ_=>rfl) ?_ ?_
 refine .cond rfl (λ_=>.rI) (λ_=>.skip QI)
 intro v3
 refine Mir.toK (.bind λe3 q6=>?_)
 replace q6:=gt_ok q6
 refine .regionW λe h=>regW.alt 5 rfl ?_
 simp only[seval,EMI]
 refine bD rfl rfl rfl ca bh (dP q6.1) (ee q6.2 q6.1) (regW.alt 0 rfl ?_)
 simp only[seval,EMI]
 refine bv rfl rfl (cl q6.2) rfl rfl bh rfl (zB rfl) (regW.of ?_)
 simp only[seval,EMI]
 refine mU e (.region λe h=>?_) h
 simp only[seval,EMI]
 cases h
 simp only[seval,FMI,q4]
 intro v1 q7
 refine .sR λe h=>?_
 simp only[seval,EMI,q7]
 refine mU e (.seqK (.condF rfl (.exit QI))) h
 intro v4
 refine Mir.toK (.sI ?_)
 refine .frz 0 rfl ?_
 simp only[seval,us_0,us_s,xCA,xNA,and_self,and_true,true_and,and_false,false_and,SZ]
 refine .ret QI
def kF(a0:aq)(a1:aq):Option aq:=if (a0.Neg==a1.Neg)=true then bindO (it_plus a0.Limbs a1.Limbs) λ(y1:(List Int))=>bindO (bG a0.Neg y1) λ(y2:aq)=>some y2 else bindO (er a0.Limbs a1.Limbs) λ(y3:Int)=>bindO (if (decide (y3<0))=true then some (a1,a0)else some (a0,a1)) λ(v1:aq×aq)=>bindO (it_minus v1.1.Limbs v1.2.Limbs) λ(y4:(List Int))=>bindO (bG v1.1.Neg y4) λ(y5:aq)=>some y5
theorem iS{a0:aq}{a1:aq}{y:aq}(h:kF a0 a1=some y):Spec gP 69 [.agg (cP a0),.agg (cP a1)] (.agg [.d (.bool y.Neg),.d (.list (zA (eInt .u32) y.Limbs))]):=by
 refine auI Tryz.func69 (λy:aq=>.agg [.d (.bool y.Neg),.d (.list (zA (eInt .u32) y.Limbs))]) ?_ h
 unfold kF
 refine .sI ?_
 refine .seqK (.sI ?_)
 refine .cond rfl (λhb4=>?_) (λhb4=>?_)
 refine .seqK (.bind λy1 hy5=>.bind λy2 hy6=>.regionD [] (by kernel_rfl) λe h=>?_)
 simp only[seval,EMI,SB]
 refine Spec.by (it_plus_spec hy5) (by simp only[seval,FMI]) ?_
 simp only[seval,EMI,SB]
 refine Spec.by (bp hy6) (by simp only[seval,FMI]) ?_
 simp only[seval,EMI,SB]
 refine mU e (.ret QI) h
 refine .skip (Mir.toK (.seqK (.seqK (.bind λy3 hy7=>.region λe h=>WI ?_))))
 refine .byI (eG hy7) (mI ?_ h)
 refine Mir.joinO (λv1:aq×aq=>([U,U,.ptr 0 0,.ptr 1 0,.ptr 2 0]++us 29)) (λv1=>⟨[(cP v1.1),(cP v1.2),[.d (.bool false),.nil]],[]⟩) (λ_=>rfl) ?_ ?_
 refine .cond rfl (λ_=>.rI) (λ_=>.skip QI)
 intro v1
 refine Mir.toK (.seqK (.bind λy4 hy10=>.bind λy5 hy11=>.regionD [] (by kernel_rfl) λe h=>?_))
 simp only[seval,EMI,SB]
 refine Spec.by (it_minus_spec hy10) (by simp only[seval,FMI]) ?_
 simp only[seval,EMI,SB]
 refine Spec.by (bp hy11) (by simp only[seval,FMI]) ?_
 simp only[seval,EMI,SB]
 refine mU e (.ret QI) h
def jd(a0:aq):Option aq:=aB (okLen (a0.Limbs.length)) ( bindO (bG (!a0.Neg) a0.Limbs) λ(y1:aq)=>some y1)
theorem eP{a0:aq}{y:aq}(h:jd a0=some y):Spec gP 29 [.agg (cP a0)] (.agg [.d (.bool y.Neg),.d (.list (zA (eInt .u32) y.Limbs))]):=by
 refine auI Tryz.func29 (λy:aq=>.agg [.d (.bool y.Neg),.d (.list (zA (eInt .u32) y.Limbs))]) ?_ h
 unfold jd
 refine .sI ?_
 refine .seqK (.guard λq1=>.bind λy1 hy2=>.regionD [] (by kernel_rfl) λe h=>?_)
 simp only[seval,EMI,SB,q1]
 refine Spec.by (bp hy2) (by simp only[seval,FMI]) ?_
 simp only[seval,EMI,SB]
 refine mU e (.ret QI) h
def fD(a0:(List Int))(a1:(List Int)):Option (List Int):=aB (decide ((0:Int)≤(zR.wrap ((a0.length:Int)+(a1.length:Int))))) ( aB (okLen (zE (zR.wrap ((a0.length:Int)+(a1.length:Int))))) ( bindO (aB (okIdx a0) ( aS (λ(i1:Nat) (e1:Int) (v1:(List Int))=>bindO (bindO (aB (okIdx a1) ( aS (λ(i2:Nat) (e2:Int) (v2:Int×(List Int))=>bindO (gt v2.2 (zR.wrap ((i1:Int)+(i2:Int)))) λ(e3:Int)=>bindO (gt v2.2 (zR.wrap ((i1:Int)+(i2:Int)))) λ(e4:Int)=>some (.go (zU.wrap (zG (zU.wrap ((zU.wrap ((zU.wrap e3)+(zU.wrap ((zU.wrap e1)*(zU.wrap e2)))))+v2.1)) 1000000000),v2.2.set (zE (zR.wrap ((i1:Int)+(i2:Int)))) (zT.wrap (zJ (zU.wrap ((zU.wrap ((zU.wrap e3)+(zU.wrap ((zU.wrap e1)*(zU.wrap e2)))))+v2.1)) 1000000000))))) (λ(v2:Int×(List Int))=>some (v2.1,v2.2)) a1 0 (0,v1))) λ(v3:Int×(List Int))=>bindO (gt v3.2 (zR.wrap ((i1:Int)+(a1.length:Int)))) λ(e5:Int)=>some (v3.2.set (zE (zR.wrap ((i1:Int)+(a1.length:Int)))) (zT.wrap v3.1))) λ(v4:(List Int))=>some (.go v4)) (λ(v1:(List Int))=>some v1) a0 0 (zI (zE (zR.wrap ((a0.length:Int)+(a1.length:Int)))) (0:Int)))) λ(v5:(List Int))=>some v5))
theorem it_times_spec{a0:(List Int)}{a1:(List Int)}{y:(List Int)}(h:fD a0 a1=some y):Spec gP 103 [.d (.list (zA (eInt .u32) a0)),.d (.list (zA (eInt .u32) a1))] (.d (.list (zA (eInt .u32) y))):=by
 refine auI Tryz.func103 (λy:(List Int)=>.d (.list (zA (eInt .u32) y))) ?_ h
 unfold fD
 refine .sI ?_
 refine .seqK (.guard λq1=>.guard λq2=>.regionW λe h=>regW.alt 5 rfl ?_)
 simp only[seval,EMI]
 refine jF (en:=(eInt .u32)) (z:=0) rfl rfl app_39 jK rfl rfl (of_decide_eq_true q1) q2 (regW.of ?_)
 simp only[seval,EMI]
 refine mU e (.seqK (.sI ?_)) h
 refine Mir.joinO (λv5:(List Int)=>([U,U,U,U,U,.gr 0 0]++us 62)) (λv5=>⟨[[.rowc 140 0 (zA (eInt .u32) v5)]],[]⟩) (λ_=>rfl) ?_ ?_
 refine .block (.guard λq3=>Mir.range (λ(i1:Nat) (v1:(List Int))=>([U,.d (.list (zA (eInt .u32) a1)),U,U,U,.gr 0 0,U,U,U,U,U,U,U,U,U,U,U,U,.d (.list (zA (eInt .u32) a0)),.d (.int .i64 (a0.length:Int)),.d (.int .i64 (i1:Int))]++us 47)) (λi1 v1=>⟨[[.rowc 140 0 (zA (eInt .u32) v1)]],[]⟩) q3 (λ_ _=>rfl) (by simp only[seval,FMI,zNI]) (by simp only[seval,FMI,zNI]) ?_ ?_)
 intro i1 e1 v1 q4
 refine .sR λe h=>?_
 simp only[seval,EMI,q4]
 refine mU e (.seqK (.condT rfl (.skip (Mir.toK (.seqK (Mir.joinO (λv4:(List Int)=>([U,.d (.list (zA (eInt .u32) a1)),U,U,U,.gr 0 0,U,U,U,U,U,U,U,U,U,U,U,U,.d (.list (zA (eInt .u32) a0)),.d (.int .i64 (a0.length:Int)),.d (.int .i64 (i1:Int))]++us 47)) (λv4=>⟨[[.rowc 140 0 (zA (eInt .u32) v4)]],[]⟩) (λ_=>rfl) ?_ ?_)))))) h
 refine .block (.sR λe h=>?_)
 simp only[seval,EMI,q4,zF]
 refine mU e (.sI ?_) h
 refine .seqK (.sI ?_)
 refine Mir.joinO (λv3:Int×(List Int)=>([U,.d (.list (zA (eInt .u32) a1)),U,U,U,.gr 0 0,.d (.int .i64 (i1:Int)),U,.d (.int .u64 v3.1),U,U,U,U,U,U,U,U,U,.d (.list (zA (eInt .u32) a0)),.d (.int .i64 (a0.length:Int)),.d (.int .i64 (i1:Int))]++us 47)) (λv3=>⟨[[.rowc 140 0 (zA (eInt .u32) v3.2)]],[]⟩) (λ_=>rfl) ?_ ?_
 refine .block (.guard λq5=>Mir.range (λ(i2:Nat) (v2:Int×(List Int))=>([U,.d (.list (zA (eInt .u32) a1)),U,U,U,.gr 0 0,.d (.int .i64 (i1:Int)),.d (.int .u32 e1),.d (.int .u64 v2.1),U,U,U,U,U,U,U,U,U,.d (.list (zA (eInt .u32) a0)),.d (.int .i64 (a0.length:Int)),.d (.int .i64 (i1:Int)),U,U,U,U,.d (.list (zA (eInt .u32) a1)),.d (.int .i64 (a1.length:Int)),.d (.int .i64 (i2:Int))]++us 40)) (λi2 v2=>⟨[[.rowc 140 0 (zA (eInt .u32) v2.2)]],[]⟩) q5 (λ_ _=>rfl) (by simp only[seval,FMI,zNI]) (by simp only[seval,FMI,zNI]) ?_ ?_)
 intro i2 e2 v2 q6
 refine .sR λe h=>?_
 simp only[seval,EMI,q6]
 refine mU e (.seqK (.condT rfl (.skip (Mir.toK (.seqK (.block (.sR λe h=>?_))))))) h
 simp only[seval,EMI,q6,zF]
 refine mU e (.seqK (.bind λe3 q7=>?_)) h
 replace q7:=gt_ok q7
 refine .regionW λe h=>regW.alt 4 rfl ?_
 simp only[seval,EMI]
 refine bD rfl rfl rfl ca bh (dP q7.1) (ee q7.2 q7.1) (regW.alt 0 rfl ?_)
 simp only[seval,EMI]
 refine jG rfl rfl (cl q7.2) (by simp only[↓reduceIte,nA,nL,pt_eq,ag_140,bh,fp,jg,SV,eInt]<;>rfl) (regW.of ?_)
 simp only[seval,EMI]
 refine mU e (.bind λe4 q8=>?_) h
 replace q8:=gt_ok q8
 refine .regionW λe h=>regW.alt 9 rfl ?_
 simp only[seval,EMI]
 refine bD rfl rfl rfl ca bh (dP q8.1) (ee q8.2 q8.1) (regW.alt 0 rfl ?_)
 simp only[seval,EMI]
 refine bv rfl rfl (cl q8.2) rfl rfl bh rfl (zB rfl) (regW.of ?_)
 simp only[seval,EMI]
 refine mU e (.region λe h=>?_) h
 simp only[seval,EMI]
 cases h
 simp only[seval,FMI,q6]
 intro v2 q9
 refine .sR λe h=>?_
 simp only[seval,EMI,q9]
 refine mU e (.seqK (.condF rfl (.exit QI))) h
 intro v3
 refine Mir.toK (.bind λe5 q10=>?_)
 replace q10:=gt_ok q10
 refine .regionW λe h=>regW.alt 7 rfl ?_
 simp only[seval,EMI]
 refine bD rfl rfl rfl ca bh (dP q10.1) (ee q10.2 q10.1) (regW.alt 0 rfl ?_)
 simp only[seval,EMI]
 refine bv rfl rfl (cl q10.2) rfl rfl bh rfl (zB rfl) (regW.of ?_)
 simp only[seval,EMI]
 cases h
 simp only[seval,FMI]
 intro v4
 refine Mir.toK (.region λe h=>?_)
 simp only[seval,EMI]
 cases h
 simp only[seval,FMI,q4]
 intro v1 q11
 refine .sR λe h=>?_
 simp only[seval,EMI,q11]
 refine mU e (.seqK (.condF rfl (.exit QI))) h
 intro v5
 refine Mir.toK (.sI ?_)
 refine .frz 0 rfl ?_
 simp only[seval,us_0,us_s,xCA,xNA,and_self,and_true,true_and,and_false,false_and,SZ]
 refine .ret QI
def ft(a0:aq)(a1:aq):Option aq:=bindO (fD a0.Limbs a1.Limbs) λ(y1:(List Int))=>bindO (bG (!(a0.Neg==a1.Neg)) y1) λ(y2:aq)=>some y2
theorem ec{a0:aq}{a1:aq}{y:aq}(h:ft a0 a1=some y):Spec gP 64 [.agg (cP a0),.agg (cP a1)] (.agg [.d (.bool y.Neg),.d (.list (zA (eInt .u32) y.Limbs))]):=by
 refine auI Tryz.func64 (λy:aq=>.agg [.d (.bool y.Neg),.d (.list (zA (eInt .u32) y.Limbs))]) ?_ h
 unfold ft
 refine .sI ?_
 refine .seqK (.bind λy1 hy1=>.bind λy2 hy2=>.regionD [] (by kernel_rfl) λe h=>?_)
 simp only[seval,EMI,SB]
 refine Spec.by (it_times_spec hy1) (by simp only[seval,FMI]) ?_
 simp only[seval,EMI,SB]
 refine Spec.by (bp hy2) (by simp only[seval,FMI]) ?_
 simp only[seval,EMI,SB]
 refine mU e (.ret QI) h
def ie(a0:(List Int))(a1:Int):Option ((List Int)×(List Int)):=aB (decide ((0:Int)≤(a0.length:Int))) ( aB (okLen (zE (a0.length:Int))) ( bindO (loopX (λ(v1:Int×Int×(List Int))=>if (decide (v1.2.1≥0))=true then bindO (gt a0 v1.2.1) λ(e1:Int)=>aB (!((zU.wrap a1)==0)) ( aB (!((zU.wrap a1)==0)) ( bindO (gt v1.2.2 v1.2.1) λ(e2:Int)=>some (.go (zJ (zU.wrap ((zU.wrap (v1.1*1000000000))+(zU.wrap e1))) (zU.wrap a1),zR.wrap (v1.2.1-1),v1.2.2.set (zE v1.2.1) (zT.wrap (zU.wrap (zG (zU.wrap ((zU.wrap (v1.1*1000000000))+(zU.wrap e1))) (zU.wrap a1))))))))else some (.ret (v1.1,v1.2.2))) fuel (0,zR.wrap ((a0.length:Int)-1),zI (zE (a0.length:Int)) (0:Int))) λ(v2:Int×(List Int))=>some (v2.2,[zT.wrap v2.1])))
theorem kC{a0:(List Int)}{a1:Int}{y:(List Int)×(List Int)}(h:ie a0 a1=some y):Spec gP 126 [.d (.list (zA (eInt .u32) a0)),.d (.int .u32 a1)] (.tuple [.d (.list (zA (eInt .u32) y.1)),.d (.list (zA (eInt .u32) y.2))]):=by
 refine auI Tryz.func126 (λy:(List Int)×(List Int)=>.tuple [.d (.list (zA (eInt .u32) y.1)),.d (.list (zA (eInt .u32) y.2))]) ?_ h
 unfold ie
 refine .sI ?_
 refine .seqK (.guard λq1=>.guard λq2=>.regionW λe h=>regW.alt 2 rfl ?_)
 simp only[seval,EMI]
 refine jF (en:=(eInt .u32)) (z:=0) rfl rfl app_39 jK rfl rfl (of_decide_eq_true q1) q2 (regW.of ?_)
 simp only[seval,EMI]
 refine mU e (.sI ?_) h
 refine .seqK (.sI ?_)
 refine Mir.joinO (λv2:Int×(List Int)=>([U,U,U,U,U,U,.gr 0 0,.d (.int .u64 v2.1)]++us 36)) (λv2=>⟨[[.rowc 140 0 (zA (eInt .u32) v2.2)]],[]⟩) (λ_=>rfl) ?_ ?_
 refine .block (Mir.loop (λv1:Int×Int×(List Int)=>([.d (.list (zA (eInt .u32) a0)),.d (.int .u32 a1),U,U,U,U,.gr 0 0,.d (.int .u64 v1.1),.d (.int .i64 v1.2.1)]++us 35)) (λv1=>⟨[[.rowc 140 0 (zA (eInt .u32) v1.2.2)]],[]⟩) (λ_=>rfl) (by simp only[seval,FMI]) (by simp only[seval,FMI]) λv1=>.seqK (.sI ?_))
 refine .cond rfl (λhb54=>?_) (λhb54=>?_)
 refine .skip (Mir.toK (.seqK (.block (.seqK (.bind λe1 q59=>?_)))))
 replace q59:=gt_ok q59
 refine .region λe h=>?_
 simp only[seval,EMI,q59]
 refine mU e (.guard λq60=>?_) h
 replace q60:=ne_of q60
 refine .guard λq61=>?_
 replace q61:=ne_of q61
 refine .bind λe2 q62=>?_
 replace q62:=gt_ok q62
 refine Mir.regionA 0 [] ([.d (.list (zA (eInt .u32) a0)),.d (.int .u32 a1),U,U,U,U,.gr 0 0,.d (.int .u64 (zJ (zU.wrap ((zU.wrap (v1.1*1000000000))+(zU.wrap e1))) (zU.wrap a1))),.d (.int .i64 v1.2.1),.d (.int .u64 (zU.wrap ((zU.wrap (v1.1*1000000000))+(zU.wrap e1)))),U,U,U,U,U,U,.d (.int .i64 v1.2.1),.d (.bool (decide (v1.2.1≥0))),U,U,.d (.int .u64 v1.1),.d (.int .u64 (zU.wrap (v1.1*1000000000))),.d (.list (zA (eInt .u32) a0)),.d (.int .i64 v1.2.1),.iptr [.int .u32 e1] 0,.d (.int .u32 e1),.d (.int .u64 (zU.wrap e1)),.d (.int .u64 (zU.wrap ((zU.wrap (v1.1*1000000000))+(zU.wrap e1)))),.gr 0 0,.d (.int .i64 v1.2.1),.d (.int .u64 (zU.wrap ((zU.wrap (v1.1*1000000000))+(zU.wrap e1)))),.d (.int .u32 a1),.d (.int .u64 (zU.wrap a1)),.d (.int .u64 (zU.wrap (zG (zU.wrap ((zU.wrap (v1.1*1000000000))+(zU.wrap e1))) (zU.wrap a1)))),.d (.int .u32 (zT.wrap (zU.wrap (zG (zU.wrap ((zU.wrap (v1.1*1000000000))+(zU.wrap e1))) (zU.wrap a1))))),.d (.int .u64 (zU.wrap ((zU.wrap (v1.1*1000000000))+(zU.wrap e1)))),.d (.int .u32 a1),.d (.int .u64 (zU.wrap a1)),.d (.int .u64 (zJ (zU.wrap ((zU.wrap (v1.1*1000000000))+(zU.wrap e1))) (zU.wrap a1))),.gp 0 0 (zE v1.2.1) 0]++us 4) ⟨[[.rowc 140 0 (zA (eInt .u32) (v1.2.2.set (zE v1.2.1) (zT.wrap (zU.wrap (zG (zU.wrap ((zU.wrap (v1.1*1000000000))+(zU.wrap e1))) (zU.wrap a1))))))]],[]⟩ (by kernel_rfl) (λe h=>?_) (λe h=>?_)
 simp only[seval,EMI,SB]
 refine regA.pureB (j:=1) (d:=29) (by kernel_rfl) rfl rfl (by kernel_rfl) rfl rfl (zB rfl) ?_
 simp only[seval,EMI]
 refine⟨rfl,?_⟩
 refine regA.pureB (j:=2) (d:=30) (by kernel_rfl) rfl rfl (by kernel_rfl) rfl rfl (zB rfl) ?_
 simp only[seval,EMI]
 refine⟨rfl,?_⟩
 refine regA.pureB (j:=3) (d:=31) (by kernel_rfl) rfl rfl (by kernel_rfl) rfl rfl (zB rfl) ?_
 simp only[seval,EMI]
 refine⟨rfl,?_⟩
 refine regA.pureB (j:=4) (d:=32) (by kernel_rfl) rfl rfl (by kernel_rfl) rfl rfl (zB rfl) ?_
 simp only[seval,EMI]
 refine⟨rfl,?_⟩
 refine regA.pureB (j:=7) (d:=35) (by kernel_rfl) rfl rfl (by kernel_rfl) rfl rfl (zB rfl) ?_
 simp only[seval,EMI]
 refine⟨rfl,?_⟩
 refine regA.pureB (j:=8) (d:=36) (by kernel_rfl) rfl rfl (by kernel_rfl) rfl rfl (zB rfl) ?_
 simp only[seval,EMI]
 refine⟨rfl,?_⟩
 refine regA.pureB (j:=9) (d:=37) (by kernel_rfl) rfl rfl (by kernel_rfl) rfl rfl (zB rfl) ?_
 simp only[seval,EMI]
 refine⟨rfl,?_⟩
 refine regA.three (j:=0) (k:=5) (l:=10) (by kernel_rfl) rfl rfl rfl ?_ ?_ ?_
 refine regW.of ?_
 simp only[seval,EMI]
 refine regA.two (j:=5) (k:=10) (by kernel_rfl) rfl rfl ?_ ?_
 refine regW.of ?_
 simp only[seval,EMI,q60]
 refine regA.pureB (j:=6) (d:=34) (by kernel_rfl) rfl rfl (by kernel_rfl) rfl rfl (zB rfl) ?_
 simp only[seval,EMI]
 refine⟨rfl,?_⟩
 refine regA.two (j:=10) (k:=11) (by kernel_rfl) rfl rfl ?_ ?_
 refine regW.of ?_
 simp only[seval,EMI,q61]
 refine regA.one (j:=11) (by kernel_rfl) rfl (regW.alt 0 rfl ?_)
 simp only[seval,EMI]
 refine bD rfl rfl rfl ca bh (dP q62.1) (ee q62.2 q62.1) (regW.of ?_)
 simp only[seval,EMI]
 refine regA.one (j:=12) (by kernel_rfl) rfl (regW.alt 0 rfl ?_)
 simp only[seval,EMI]
 refine bv rfl rfl (cl q62.2) rfl rfl bh rfl (zB rfl) (regW.of ?_)
 simp only[seval,EMI]
 refine regA.pureB (j:=13) (d:=7) (by kernel_rfl) rfl rfl (by kernel_rfl) rfl rfl (zB rfl) ?_
 simp only[seval,EMI]
 refine⟨rfl,?_⟩
 exact regA.nil (by kernel_rfl) ⟨by first | rfl | simp only[seval,FMI,eInt,aI,spD,xMA,xLA],by first | rfl | simp only[seval,FMI,eInt,aI,spD,xMA,xLA]⟩
 refine regW.alt 0 rfl ?_
 simp only[seval,EMI]
 refine bD rfl rfl rfl ca bh (dP q62.1) (ee q62.2 q62.1) (regW.of ?_)
 simp only[seval,EMI]
 refine regA.two (j:=10) (k:=12) (by kernel_rfl) rfl rfl ?_ ?_
 refine regW.of ?_
 simp only[seval,EMI,q61]
 refine regA.one (j:=12) (by kernel_rfl) rfl (regW.alt 0 rfl ?_)
 simp only[seval,EMI]
 refine bv rfl rfl (cl q62.2) rfl rfl bh rfl (zB rfl) (regW.of ?_)
 simp only[seval,EMI]
 refine regA.pureB (j:=13) (d:=7) (by kernel_rfl) rfl rfl (by kernel_rfl) rfl rfl (zB rfl) ?_
 simp only[seval,EMI]
 refine⟨rfl,?_⟩
 exact regA.nil (by kernel_rfl) ⟨by first | rfl | simp only[seval,FMI,eInt,aI,spD,xMA,xLA],by first | rfl | simp only[seval,FMI,eInt,aI,spD,xMA,xLA]⟩
 refine regW.alt 0 rfl ?_
 simp only[seval,EMI]
 refine bv rfl rfl (cl q62.2) rfl rfl bh rfl (zB rfl) (regW.of ?_)
 simp only[seval,EMI]
 refine regA.one (j:=10) (by kernel_rfl) rfl (regW.of ?_)
 simp only[seval,EMI,q61]
 refine regA.pureB (j:=13) (d:=7) (by kernel_rfl) rfl rfl (by kernel_rfl) rfl rfl (zB rfl) ?_
 simp only[seval,EMI]
 refine⟨rfl,?_⟩
 exact regA.nil (by kernel_rfl) ⟨by first | rfl | simp only[seval,FMI,eInt,aI,spD,xMA,xLA],by first | rfl | simp only[seval,FMI,eInt,aI,spD,xMA,xLA]⟩
 refine regW.of ?_
 simp only[seval,EMI,q61]
 refine regA.one (j:=5) (by kernel_rfl) rfl (regW.of ?_)
 simp only[seval,EMI,q60]
 refine regA.pureB (j:=6) (d:=34) (by kernel_rfl) rfl rfl (by kernel_rfl) rfl rfl (zB rfl) ?_
 simp only[seval,EMI]
 refine⟨rfl,?_⟩
 refine regA.one (j:=11) (by kernel_rfl) rfl (regW.alt 0 rfl ?_)
 simp only[seval,EMI]
 refine bD rfl rfl rfl ca bh (dP q62.1) (ee q62.2 q62.1) (regW.of ?_)
 simp only[seval,EMI]
 refine regA.one (j:=12) (by kernel_rfl) rfl (regW.alt 0 rfl ?_)
 simp only[seval,EMI]
 refine bv rfl rfl (cl q62.2) rfl rfl bh rfl (zB rfl) (regW.of ?_)
 simp only[seval,EMI]
 refine regA.pureB (j:=13) (d:=7) (by kernel_rfl) rfl rfl (by kernel_rfl) rfl rfl (zB rfl) ?_
 simp only[seval,EMI]
 refine⟨rfl,?_⟩
 exact regA.nil (by kernel_rfl) ⟨by first | rfl | simp only[seval,FMI,eInt,aI,spD,xMA,xLA],by first | rfl | simp only[seval,FMI,eInt,aI,spD,xMA,xLA]⟩
 refine regW.of ?_
 simp only[seval,EMI,q60]
 refine regA.pureB (j:=6) (d:=34) (by kernel_rfl) rfl rfl (by kernel_rfl) rfl rfl (zB rfl) ?_
 simp only[seval,EMI]
 refine⟨rfl,?_⟩
 refine regA.two (j:=0) (k:=10) (by kernel_rfl) rfl rfl ?_ ?_
 refine regW.of ?_
 simp only[seval,EMI]
 refine regA.two (j:=10) (k:=11) (by kernel_rfl) rfl rfl ?_ ?_
 refine regW.of ?_
 simp only[seval,EMI,q61]
 refine regA.one (j:=11) (by kernel_rfl) rfl (regW.alt 0 rfl ?_)
 simp only[seval,EMI]
 refine bD rfl rfl rfl ca bh (dP q62.1) (ee q62.2 q62.1) (regW.of ?_)
 simp only[seval,EMI]
 refine regA.one (j:=12) (by kernel_rfl) rfl (regW.alt 0 rfl ?_)
 simp only[seval,EMI]
 refine bv rfl rfl (cl q62.2) rfl rfl bh rfl (zB rfl) (regW.of ?_)
 simp only[seval,EMI]
 refine regA.pureB (j:=13) (d:=7) (by kernel_rfl) rfl rfl (by kernel_rfl) rfl rfl (zB rfl) ?_
 simp only[seval,EMI]
 refine⟨rfl,?_⟩
 exact regA.nil (by kernel_rfl) ⟨by first | rfl | simp only[seval,FMI,eInt,aI,spD,xMA,xLA],by first | rfl | simp only[seval,FMI,eInt,aI,spD,xMA,xLA]⟩
 refine regW.alt 0 rfl ?_
 simp only[seval,EMI]
 refine bD rfl rfl rfl ca bh (dP q62.1) (ee q62.2 q62.1) (regW.of ?_)
 simp only[seval,EMI]
 refine regA.two (j:=10) (k:=12) (by kernel_rfl) rfl rfl ?_ ?_
 refine regW.of ?_
 simp only[seval,EMI,q61]
 refine regA.one (j:=12) (by kernel_rfl) rfl (regW.alt 0 rfl ?_)
 simp only[seval,EMI]
 refine bv rfl rfl (cl q62.2) rfl rfl bh rfl (zB rfl) (regW.of ?_)
 simp only[seval,EMI]
 refine regA.pureB (j:=13) (d:=7) (by kernel_rfl) rfl rfl (by kernel_rfl) rfl rfl (zB rfl) ?_
 simp only[seval,EMI]
 refine⟨rfl,?_⟩
 exact regA.nil (by kernel_rfl) ⟨by first | rfl | simp only[seval,FMI,eInt,aI,spD,xMA,xLA],by first | rfl | simp only[seval,FMI,eInt,aI,spD,xMA,xLA]⟩
 refine regW.alt 0 rfl ?_
 simp only[seval,EMI]
 refine bv rfl rfl (cl q62.2) rfl rfl bh rfl (zB rfl) (regW.of ?_)
 simp only[seval,EMI]
 refine regA.one (j:=10) (by kernel_rfl) rfl (regW.of ?_)
 simp only[seval,EMI,q61]
 refine regA.pureB (j:=13) (d:=7) (by kernel_rfl) rfl rfl (by kernel_rfl) rfl rfl (zB rfl) ?_
 simp only[seval,EMI]
 refine⟨rfl,?_⟩
 exact regA.nil (by kernel_rfl) ⟨by first | rfl | simp only[seval,FMI,eInt,aI,spD,xMA,xLA],by first | rfl | simp only[seval,FMI,eInt,aI,spD,xMA,xLA]⟩
 refine regW.of ?_
 simp only[seval,EMI,q61]
 refine regA.one (j:=0) (by kernel_rfl) rfl (regW.of ?_)
 simp only[seval,EMI]
 refine regA.one (j:=11) (by kernel_rfl) rfl (regW.alt 0 rfl ?_)
 simp only[seval,EMI]
 refine bD rfl rfl rfl ca bh (dP q62.1) (ee q62.2 q62.1) (regW.of ?_)
 simp only[seval,EMI]
 refine regA.one (j:=12) (by kernel_rfl) rfl (regW.alt 0 rfl ?_)
 simp only[seval,EMI]
 refine bv rfl rfl (cl q62.2) rfl rfl bh rfl (zB rfl) (regW.of ?_)
 simp only[seval,EMI]
 refine regA.pureB (j:=13) (d:=7) (by kernel_rfl) rfl rfl (by kernel_rfl) rfl rfl (zB rfl) ?_
 simp only[seval,EMI]
 refine⟨rfl,?_⟩
 exact regA.nil (by kernel_rfl) ⟨by first | rfl | simp only[seval,FMI,eInt,aI,spD,xMA,xLA],by first | rfl | simp only[seval,FMI,eInt,aI,spD,xMA,xLA]⟩
 refine regW.of ?_
 simp only[seval,EMI,q61]
 refine regA.two (j:=0) (k:=5) (by kernel_rfl) rfl rfl ?_ ?_
 refine regW.of ?_
 simp only[seval,EMI]
 refine regA.one (j:=5) (by kernel_rfl) rfl (regW.of ?_)
 simp only[seval,EMI,q60]
 refine regA.pureB (j:=6) (d:=34) (by kernel_rfl) rfl rfl (by kernel_rfl) rfl rfl (zB rfl) ?_
 simp only[seval,EMI]
 refine⟨rfl,?_⟩
 refine regA.one (j:=11) (by kernel_rfl) rfl (regW.alt 0 rfl ?_)
 simp only[seval,EMI]
 refine bD rfl rfl rfl ca bh (dP q62.1) (ee q62.2 q62.1) (regW.of ?_)
 simp only[seval,EMI]
 refine regA.one (j:=12) (by kernel_rfl) rfl (regW.alt 0 rfl ?_)
 simp only[seval,EMI]
 refine bv rfl rfl (cl q62.2) rfl rfl bh rfl (zB rfl) (regW.of ?_)
 simp only[seval,EMI]
 refine regA.pureB (j:=13) (d:=7) (by kernel_rfl) rfl rfl (by kernel_rfl) rfl rfl (zB rfl) ?_
 simp only[seval,EMI]
 refine⟨rfl,?_⟩
 exact regA.nil (by kernel_rfl) ⟨by first | rfl | simp only[seval,FMI,eInt,aI,spD,xMA,xLA],by first | rfl | simp only[seval,FMI,eInt,aI,spD,xMA,xLA]⟩
 refine regW.of ?_
 simp only[seval,EMI,q60]
 refine regA.pureB (j:=6) (d:=34) (by kernel_rfl) rfl rfl (by kernel_rfl) rfl rfl (zB rfl) ?_
 simp only[seval,EMI]
 refine⟨rfl,?_⟩
 refine regA.one (j:=0) (by kernel_rfl) rfl (regW.of ?_)
 simp only[seval,EMI]
 refine regA.one (j:=11) (by kernel_rfl) rfl (regW.alt 0 rfl ?_)
 simp only[seval,EMI]
 refine bD rfl rfl rfl ca bh (dP q62.1) (ee q62.2 q62.1) (regW.of ?_)
 simp only[seval,EMI]
 refine regA.one (j:=12) (by kernel_rfl) rfl (regW.alt 0 rfl ?_)
 simp only[seval,EMI]
 refine bv rfl rfl (cl q62.2) rfl rfl bh rfl (zB rfl) (regW.of ?_)
 simp only[seval,EMI]
 refine regA.pureB (j:=13) (d:=7) (by kernel_rfl) rfl rfl (by kernel_rfl) rfl rfl (zB rfl) ?_
 simp only[seval,EMI]
 refine⟨rfl,?_⟩
 exact regA.nil (by kernel_rfl) ⟨by first | rfl | simp only[seval,FMI,eInt,aI,spD,xMA,xLA],by first | rfl | simp only[seval,FMI,eInt,aI,spD,xMA,xLA]⟩
 refine mU e (.rI) h
 refine .exit QI
 intro v2
 refine Mir.toK (.sR λe h=>?_)
 simp only[seval,EMI,(oL 1)]
 refine mU e (.frz 0 rfl ?_) h
 simp only[seval,us_0,us_s,xCA,xNA,and_self,and_true,true_and,and_false,false_and,SZ]
 refine .ret QI
theorem it_times_specZ{a0:(List Int)}{a1:(List Int)}{y:(List Int)}(h:fD a0 a1=some y):SpecZ gP 103 [.d (.list (zA (eInt .u32) a0)),.d (.list (zA (eInt .u32) a1))] 140 (zA (eInt .u32) y) (λx=>x):=by
 refine specZ_mir Tryz.func103 rfl (by kernel_rfl) (by kernel_rfl) (λy:(List Int)=>zA (eInt .u32) y) (λy:(List Int)=>λx=>x) (ctx_id) (sc_map (λ_=>rfl) _) ?_ h
 unfold fD
 simp only[zI,zQ,nS,nA,Tryz.ntmps103,SV]
 refine .sI ?_
 refine .seqK (.guard λq1=>.guard λq2=>.regionW λe h=>regW.alt 5 rfl ?_)
 simp only[seval,EMI]
 refine jF (en:=(eInt .u32)) (z:=0) rfl rfl app_39 jK rfl rfl (of_decide_eq_true q1) q2 (regW.of ?_)
 simp only[seval,EMI]
 refine mU e (.seqK (.sI ?_)) h
 refine Mir.joinO (λv1:(List Int)=>([U,U,U,U,U,.gr 0 0]++us 62)) (λv1=>⟨[[.rowc 140 0 (zA (eInt .u32) v1)]],[]⟩) (λ_=>rfl) ?_ ?_
 refine .block (.guard λq3=>Mir.range (λ(i1:Nat) (v2:(List Int))=>([U,.d (.list (zA (eInt .u32) a1)),U,U,U,.gr 0 0,U,U,U,U,U,U,U,U,U,U,U,U,.d (.list (zA (eInt .u32) a0)),.d (.int .i64 (a0.length:Int)),.d (.int .i64 (i1:Int))]++us 47)) (λi1 v2=>⟨[[.rowc 140 0 (zA (eInt .u32) v2)]],[]⟩) q3 (λ_ _=>rfl) (by simp only[seval,FMI,zNI]) (by simp only[seval,FMI,zNI]) ?_ ?_)
 intro i1 e1 v2 q4
 refine .sR λe h=>?_
 simp only[seval,EMI,q4]
 refine mU e (.seqK (.condT rfl (.skip (Mir.toK (.seqK (Mir.joinO (λv3:(List Int)=>([U,.d (.list (zA (eInt .u32) a1)),U,U,U,.gr 0 0,U,U,U,U,U,U,U,U,U,U,U,U,.d (.list (zA (eInt .u32) a0)),.d (.int .i64 (a0.length:Int)),.d (.int .i64 (i1:Int))]++us 47)) (λv3=>⟨[[.rowc 140 0 (zA (eInt .u32) v3)]],[]⟩) (λ_=>rfl) ?_ ?_)))))) h
 refine .block (.sR λe h=>?_)
 simp only[seval,EMI,q4,zF]
 refine mU e (.sI ?_) h
 refine .seqK (.sI ?_)
 refine Mir.joinO (λv4:Int×(List Int)=>([U,.d (.list (zA (eInt .u32) a1)),U,U,U,.gr 0 0,.d (.int .i64 (i1:Int)),U,.d (.int .u64 v4.1),U,U,U,U,U,U,U,U,U,.d (.list (zA (eInt .u32) a0)),.d (.int .i64 (a0.length:Int)),.d (.int .i64 (i1:Int))]++us 47)) (λv4=>⟨[[.rowc 140 0 (zA (eInt .u32) v4.2)]],[]⟩) (λ_=>rfl) ?_ ?_
 refine .block (.guard λq5=>Mir.range (λ(i2:Nat) (v5:Int×(List Int))=>([U,.d (.list (zA (eInt .u32) a1)),U,U,U,.gr 0 0,.d (.int .i64 (i1:Int)),.d (.int .u32 e1),.d (.int .u64 v5.1),U,U,U,U,U,U,U,U,U,.d (.list (zA (eInt .u32) a0)),.d (.int .i64 (a0.length:Int)),.d (.int .i64 (i1:Int)),U,U,U,U,.d (.list (zA (eInt .u32) a1)),.d (.int .i64 (a1.length:Int)),.d (.int .i64 (i2:Int))]++us 40)) (λi2 v5=>⟨[[.rowc 140 0 (zA (eInt .u32) v5.2)]],[]⟩) q5 (λ_ _=>rfl) (by simp only[seval,FMI,zNI]) (by simp only[seval,FMI,zNI]) ?_ ?_)
 intro i2 e2 v5 q6
 refine .sR λe h=>?_
 simp only[seval,EMI,q6]
 refine mU e (.seqK (.condT rfl (.skip (Mir.toK (.seqK (.block (.sR λe h=>?_))))))) h
 simp only[seval,EMI,q6,zF]
 refine mU e (.seqK (.bind λe3 q7=>?_)) h
 replace q7:=gt_ok q7
 refine .regionW λe h=>regW.alt 4 rfl ?_
 simp only[seval,EMI]
 refine bD rfl rfl rfl ca bh (dP q7.1) (ee q7.2 q7.1) (regW.alt 0 rfl ?_)
 simp only[seval,EMI]
 refine jG rfl rfl (cl q7.2) (by simp only[↓reduceIte,nA,nL,pt_eq,ag_140,bh,fp,jg,SV,eInt]<;>rfl) (regW.of ?_)
 simp only[seval,EMI]
 refine mU e (.bind λe4 q8=>?_) h
 replace q8:=gt_ok q8
 refine .regionW λe h=>regW.alt 9 rfl ?_
 simp only[seval,EMI]
 refine bD rfl rfl rfl ca bh (dP q8.1) (ee q8.2 q8.1) (regW.alt 0 rfl ?_)
 simp only[seval,EMI]
 refine bv rfl rfl (cl q8.2) rfl rfl bh rfl (zB rfl) (regW.of ?_)
 simp only[seval,EMI]
 refine mU e (.region λe h=>?_) h
 simp only[seval,EMI]
 cases h
 simp only[seval,FMI,q6]
 intro v5 q9
 refine .sR λe h=>?_
 simp only[seval,EMI,q9]
 refine mU e (.seqK (.condF rfl (.exit QI))) h
 intro v4
 refine Mir.toK (.bind λe5 q10=>?_)
 replace q10:=gt_ok q10
 refine .regionW λe h=>regW.alt 7 rfl ?_
 simp only[seval,EMI]
 refine bD rfl rfl rfl ca bh (dP q10.1) (ee q10.2 q10.1) (regW.alt 0 rfl ?_)
 simp only[seval,EMI]
 refine bv rfl rfl (cl q10.2) rfl rfl bh rfl (zB rfl) (regW.of ?_)
 simp only[seval,EMI]
 cases h
 simp only[seval,FMI]
 intro v3
 refine Mir.toK (.region λe h=>?_)
 simp only[seval,EMI]
 cases h
 simp only[seval,FMI,q4]
 intro v2 q11
 refine .sR λe h=>?_
 simp only[seval,EMI,q11]
 refine mU e (.seqK (.condF rfl (.exit QI))) h
 intro v1
 refine Mir.toK (.sI ?_)
 refine .ret λe h=>?_
 cases h
 simp only[seval,FMI,fz_r,fz_n]
 exact zr_gr 0 0 rfl rfl
def ic(a0:(List Int))(a1:(List Int)):Option ((List Int)×(List Int)):=bindO (fX a0) λ(y1:(List Int))=>bindO (fX a1) λ(y2:(List Int))=>if ((y2.length:Int)==1)=true then bindO (gt y2 0) λ(e1:Int)=>bindO (ie y1 e1) λ(y3:(List Int)×(List Int))=>some (y3.1,y3.2)else bindO (er y1 y2) λ(y4:Int)=>if (decide (y4<0))=true then aB (okLen (y1.length)) ( some ([],y1))else bindO (gt y2 (zR.wrap ((y2.length:Int)-1))) λ(e2:Int)=>aB (!((zU.wrap ((zU.wrap e2)+1))==0)) ( bindO (fD y1 [zT.wrap (zU.wrap (zG 1000000000 (zU.wrap ((zU.wrap e2)+1))))]) λ(y5:(List Int))=>aB (okLen (y5.length+1)) ( bindO (fD y2 [zT.wrap (zU.wrap (zG 1000000000 (zU.wrap ((zU.wrap e2)+1))))]) λ(y6:(List Int))=>bindO (fX y6) λ(y7:(List Int))=>aB (decide ((0:Int)≤(zR.wrap (((y5.length+1:Nat):Int)-(y2.length:Int))))) ( aB (okLen (zE (zR.wrap (((y5.length+1:Nat):Int)-(y2.length:Int))))) ( bindO (loopX (λ(v1:Int×(List Int)×(List Int))=>if (decide (v1.1≥0))=true then bindO (bindO (gt v1.2.1 (zR.wrap (v1.1+(y2.length:Int)))) λ(e3:Int)=>bindO (gt v1.2.1 (zR.wrap ((zR.wrap (v1.1+(y2.length:Int)))-1))) λ(e4:Int)=>bindO (gt y7 (zR.wrap ((y2.length:Int)-1))) λ(e5:Int)=>aB (!((zU.wrap e5)==0)) ( aB (!((zU.wrap e5)==0)) ( bindO (loopX (λ(v2:Int×Int)=>bindO (if (decide (v2.1≥1000000000))=true then some true else bindO (gt y7 (zR.wrap ((y2.length:Int)-2))) λ(e6:Int)=>bindO (gt v1.2.1 (zR.wrap ((zR.wrap (v1.1+(y2.length:Int)))-2))) λ(e7:Int)=>some (decide ((zU.wrap (v2.1*(zU.wrap e6)))>(zU.wrap ((zU.wrap (v2.2*1000000000))+(zU.wrap e7)))))) λ(v3:Bool)=>if v3=true then if (decide ((zU.wrap (v2.2+(zU.wrap e5)))≥1000000000))=true then some (.ret (zU.wrap (v2.1-1)))else some (.go (zU.wrap (v2.1-1),zU.wrap (v2.2+(zU.wrap e5))))else some (.ret v2.1)) fuel (zU.wrap (zG (zU.wrap ((zU.wrap ((zU.wrap e3)*1000000000))+(zU.wrap e4))) (zU.wrap e5)),zJ (zU.wrap ((zU.wrap ((zU.wrap e3)*1000000000))+(zU.wrap e4))) (zU.wrap e5))) λ(v4:Int)=>aB (decide ((0:Int)≤v1.1∧v1.1≤(zR.wrap ((zR.wrap (v1.1+(y2.length:Int)))+1))∧(zR.wrap ((zR.wrap (v1.1+(y2.length:Int)))+1))≤((v1.2.1.length:Nat):Int))) ( bindO (bindO (loopX (λ(v5:Int×Int×Int×(List Int))=>if (decide (v5.2.2.1<(((zE (zR.wrap ((zR.wrap (v1.1+(y2.length:Int)))+1)))-(zE v1.1):Nat):Int)))=true then bindO (if (decide (v5.2.2.1<(y7.length:Int)))=true then bindO (gt y7 v5.2.2.1) λ(e8:Int)=>some (zU.wrap (v5.1+(zU.wrap ((zU.wrap e8)*v4))))else some v5.1) λ(v6:Int)=>aB (decide (0≤v5.2.2.1∧v5.2.2.1<(((zE (zR.wrap ((zR.wrap (v1.1+(y2.length:Int)))+1)))-(zE v1.1):Nat):Int))) ( bindO (gt v5.2.2.2 (((zE v1.1)+zE v5.2.2.1:Nat):Int)) λ(e9:Int)=>bindO (if (decide ((zU.wrap e9)<(zU.wrap ((zJ v6 1000000000)+v5.2.1))))=true then some (1,zU.wrap ((zU.wrap e9)+1000000000))else some (0,zU.wrap e9)) λ(v7:Int×Int)=>aB (decide (0≤v5.2.2.1∧v5.2.2.1<(((zE (zR.wrap ((zR.wrap (v1.1+(y2.length:Int)))+1)))-(zE v1.1):Nat):Int))) ( bindO (gt v5.2.2.2 (((zE v1.1)+zE v5.2.2.1:Nat):Int)) λ(e10:Int)=>some (.go (zU.wrap (zG v6 1000000000),v7.1,zR.wrap (v5.2.2.1+1),v5.2.2.2.set (((zE v1.1)+zE v5.2.2.1)) (zT.wrap (zU.wrap (v7.2-(zU.wrap ((zJ v6 1000000000)+v5.2.1)))))))))else some (.ret (v5.1,v5.2.1,v5.2.2.2))) fuel (0,0,0,v1.2.1)) λ(v8:Int×Int×(List Int))=>some ((decide (v8.2.1>0))||(decide (v8.1>0)),v8.2.2)) λ(v9:Bool×(List Int))=>bindO (if v9.1=true then aB (decide ((0:Int)≤v1.1∧v1.1≤(zR.wrap ((zR.wrap (v1.1+(y2.length:Int)))+1))∧(zR.wrap ((zR.wrap (v1.1+(y2.length:Int)))+1))≤((v9.2.length:Nat):Int))) ( bindO (loopX (λ(v10:Int×Int×(List Int))=>if (decide (v10.2.1<(((zE (zR.wrap ((zR.wrap (v1.1+(y2.length:Int)))+1)))-(zE v1.1):Nat):Int)))=true then aB (decide (0≤v10.2.1∧v10.2.1<(((zE (zR.wrap ((zR.wrap (v1.1+(y2.length:Int)))+1)))-(zE v1.1):Nat):Int))) ( bindO (gt v10.2.2 (((zE v1.1)+zE v10.2.1:Nat):Int)) λ(e11:Int)=>bindO (if (decide (v10.2.1<(y7.length:Int)))=true then bindO (gt y7 v10.2.1) λ(e12:Int)=>some (zT.wrap ((zT.wrap (e11+v10.1))+e12))else some (zT.wrap (e11+v10.1))) λ(v11:Int)=>bindO (if (decide (v11≥1000000000))=true then some (1,zT.wrap (v11-1000000000))else some (0,v11)) λ(v12:Int×Int)=>aB (decide (0≤v10.2.1∧v10.2.1<(((zE (zR.wrap ((zR.wrap (v1.1+(y2.length:Int)))+1)))-(zE v1.1):Nat):Int))) ( bindO (gt v10.2.2 (((zE v1.1)+zE v10.2.1:Nat):Int)) λ(e13:Int)=>some (.go (v12.1,zR.wrap (v10.2.1+1),v10.2.2.set (((zE v1.1)+zE v10.2.1)) v12.2))))else some (.ret v10.2.2)) fuel (0,0,v9.2)) λ(v13:(List Int))=>some (zU.wrap (v4-1),v13))else some (v4,v9.2)) λ(v14:Int×(List Int))=>bindO (gt v1.2.2 v1.1) λ(e14:Int)=>some (v14.2,v1.2.2.set (zE v1.1) (zT.wrap v14.1)))))) λ(v15:(List Int)×(List Int))=>some (.go (zR.wrap (v1.1-1),v15.1,v15.2))else some (.ret (v1.2.1,v1.2.2))) fuel (zR.wrap ((zR.wrap (((y5.length+1:Nat):Int)-(y2.length:Int)))-1),y5++[0],zI (zE (zR.wrap (((y5.length+1:Nat):Int)-(y2.length:Int)))) (0:Int))) λ(v16:(List Int)×(List Int))=>bindO (cutT v16.1 (y2.length:Int)) λ(s1:(List Int))=>bindO (fX s1) λ(y8:(List Int))=>bindO (ie y8 (zT.wrap (zU.wrap (zG 1000000000 (zU.wrap ((zU.wrap e2)+1)))))) λ(y9:(List Int)×(List Int))=>some (v16.2,y9.1)))))
theorem kB{a0:(List Int)}{a1:(List Int)}{y:(List Int)×(List Int)}(h:ic a0 a1=some y):Spec gP 105 [.d (.list (zA (eInt .u32) a0)),.d (.list (zA (eInt .u32) a1))] (.tuple [.d (.list (zA (eInt .u32) y.1)),.d (.list (zA (eInt .u32) y.2))]):=by
 refine auI Tryz.func105 (λy:(List Int)×(List Int)=>.tuple [.d (.list (zA (eInt .u32) y.1)),.d (.list (zA (eInt .u32) y.2))]) ?_ h
 unfold ic
 refine .sI ?_
 refine .seqK (.bind λy1 hy1=>.bind λy2 hy2=>.region λe h=>WI ?_)
 refine .byI (eh hy1) (WI ?_)
 refine .byI (eh hy2) (mI ?_ h)
 refine .seqK (.sI ?_)
 refine .cond rfl (λhb6=>?_) (λhb6=>?_)
 refine .seqK (.bind λe1 q7=>?_)
 replace q7:=gt_ok q7
 simp only[zK,zO,zP,dp0]at q7
 refine .bind λy3 hy8=>.region λe h=>?_
 simp only[seval,EMI,q7]
 refine .byI (kC hy8) (mI ?_ h)
 refine .ret QI
 refine .skip (Mir.toK (.seqK (.seqK (.bind λy4 hy9=>.region λe h=>WI ?_))))
 refine .byI (eG hy9) (mI ?_ h)
 refine .cond rfl (λhb12=>?_) (λhb12=>?_)
 refine .seqK (.guard λq13=>.region λe h=>?_)
 simp only[seval,EMI,q13]
 refine mU e (.ret QI) h
 refine .skip (Mir.toK (.sI ?_))
 refine .seqK (.bind λe2 q14=>?_)
 replace q14:=gt_ok q14
 refine .guard λq15=>?_
 replace q15:=ne_of q15
 refine .region λe h=>?_
 simp only[seval,EMI,q14,q15]
 refine mU e (.seqK (.bind λy5 hy16=>.guard λq17=>.regionW λe h=>regW.alt 5 rfl ?_)) h
 simp only[seval,EMI,(oL 1)]
 refine SpecZ.toS (it_times_specZ hy16) (by simp only[seval,FMI]) ?_
 simp only[seval,EMI,(oL 1)]
 refine alt_appR (e':=0) (ys:=zA (eInt .u32) [0]) rfl (by simp only[seval,EMI]) rfl app_39 al_eInt (Nat.zero_lt_succ _) (ok2 q17 (by simp only[lm]) rfl) (regW.of ?_)
 simp only[seval,EMI]
 refine mU e (.seqK (.bind λy6 hy18=>.bind λy7 hy19=>.region λe h=>?_)) h
 simp only[seval,EMI,(oL 1)]
 refine .byI (it_times_spec hy18) (WI ?_)
 refine .byI (eh hy19) (mI ?_ h)
 refine .seqK (.guard λq20=>.guard λq21=>.regionW λe h=>regW.alt 1 rfl ?_)
 simp only[seval,EMI]
 refine alt_lenR rfl rfl ca (regW.alt 2 rfl ?_)
 simp only[seval,EMI,xLA]
 refine jF (en:=(eInt .u32)) (z:=0) rfl rfl app_39 jK rfl rfl (of_decide_eq_true q20) q21 (regW.of ?_)
 simp only[seval,EMI]
 refine mU e (.seqK (.seqK (.regionW λe h=>regW.alt 1 rfl ?_))) h
 simp only[seval,EMI]
 refine alt_lenR rfl rfl ca (regW.of ?_)
 simp only[seval,EMI,xLA]
 refine mU e (Mir.joinO (λv16:(List Int)×(List Int)=>([U,U,U,U,U,U,.d (.int .i64 (y2.length:Int)),.d (.int .u32 (zT.wrap (zU.wrap (zG 1000000000 (zU.wrap ((zU.wrap e2)+1)))))),.gr 0 1,U,.gr 1 0]++us 168)) (λv16=>⟨[[.rowc 140 1 (zA (eInt .u32) v16.1)],[.rowc 140 0 (zA (eInt .u32) v16.2)]],[]⟩) (λ_=>rfl) ?_ ?_) h
 refine .block (Mir.loop (λv1:Int×(List Int)×(List Int)=>([U,U,U,U,U,U,.d (.int .i64 (y2.length:Int)),.d (.int .u32 (zT.wrap (zU.wrap (zG 1000000000 (zU.wrap ((zU.wrap e2)+1)))))),.gr 0 1,.d (.list (zA (eInt .u32) y7)),.gr 1 0,.d (.int .i64 v1.1)]++us 167)) (λv1=>⟨[[.rowc 140 1 (zA (eInt .u32) v1.2.1)],[.rowc 140 0 (zA (eInt .u32) v1.2.2)]],[]⟩) (λ_=>rfl) (by simp only[seval,FMI]) (by simp only[seval,FMI]) λv1=>.seqK (.sI ?_))
 refine .cond rfl (λh1=>?_) (λh1=>?_)
 refine .skip (Mir.toK (.seqK (Mir.joinO (λv15:(List Int)×(List Int)=>([U,U,U,U,U,U,.d (.int .i64 (y2.length:Int)),.d (.int .u32 (zT.wrap (zU.wrap (zG 1000000000 (zU.wrap ((zU.wrap e2)+1)))))),.gr 0 1,.d (.list (zA (eInt .u32) y7)),.gr 1 0,.d (.int .i64 v1.1)]++us 167)) (λv15=>⟨[[.rowc 140 1 (zA (eInt .u32) v15.1)],[.rowc 140 0 (zA (eInt .u32) v15.2)]],[]⟩) (λ_=>rfl) ?_ ?_)))
 refine .block (.seqK (.bind λe3 q1=>?_))
 replace q1:=gt_ok q1
 refine .bind λe4 q2=>?_
 replace q2:=gt_ok q2
 refine Mir.regionS (by kernel_rfl) λe h=>stW.alt 4 rfl (by kernel_rfl) ?_
 simp only[seval,EMI]
 refine st_indexR rfl rfl rfl ca bh (dP q1.1) (ee q1.2 q1.1) (stW.alt 0 rfl (by kernel_rfl) ?_)
 simp only[seval,EMI]
 refine st_loadR rfl rfl (cl q1.2) (by simp only[↓reduceIte,nA,nL,pt_eq,ag_140,bh,fp,jg,SV,eInt]<;>rfl) (stW.alt 7 rfl (by kernel_rfl) ?_)
 simp only[seval,EMI]
 refine st_indexR rfl rfl rfl ca bh (dP q2.1) (ee q2.2 q2.1) (stW.alt 0 rfl (by kernel_rfl) ?_)
 simp only[seval,EMI]
 refine st_loadR rfl rfl (cl q2.2) (by simp only[↓reduceIte,nA,nL,pt_eq,ag_140,bh,fp,jg,SV,eInt]<;>rfl) (stW.of (by kernel_rfl) ?_)
 simp only[seval,EMI]
 refine mU e (.seqK (.bind λe5 q3=>?_)) h
 replace q3:=gt_ok q3
 refine .guard λq4=>?_
 replace q4:=ne_of q4
 refine .guard λq5=>?_
 replace q5:=ne_of q5
 refine .regionD [] (by kernel_rfl) λe h=>?_
 simp only[seval,EMI,SB,q3,q4,q5]
 refine mU e (.seqK (Mir.joinO (λv4:Int=>([U,U,U,U,U,U,.d (.int .i64 (y2.length:Int)),.d (.int .u32 (zT.wrap (zU.wrap (zG 1000000000 (zU.wrap ((zU.wrap e2)+1)))))),.gr 0 1,.d (.list (zA (eInt .u32) y7)),.gr 1 0,.d (.int .i64 v1.1),U,.d (.int .u64 v4)]++us 165)) (λv4=>⟨[[.rowc 140 1 (zA (eInt .u32) v1.2.1)],[.rowc 140 0 (zA (eInt .u32) v1.2.2)]],[]⟩) (λ_=>rfl) ?_ ?_)) h
 refine .block (Mir.loop (λv2:Int×Int=>([U,U,U,U,U,U,.d (.int .i64 (y2.length:Int)),.d (.int .u32 (zT.wrap (zU.wrap (zG 1000000000 (zU.wrap ((zU.wrap e2)+1)))))),.gr 0 1,.d (.list (zA (eInt .u32) y7)),.gr 1 0,.d (.int .i64 v1.1),U,.d (.int .u64 v2.1),.d (.int .u64 v2.2)]++us 164)) (λv2=>⟨[[.rowc 140 1 (zA (eInt .u32) v1.2.1)],[.rowc 140 0 (zA (eInt .u32) v1.2.2)]],[]⟩) (λ_=>rfl) (by simp only[seval,FMI]) (by simp only[seval,FMI]) λv2=>.seqK (.seqK (Mir.joinO (λv3:Bool=>([U,U,U,U,U,U,.d (.int .i64 (y2.length:Int)),.d (.int .u32 (zT.wrap (zU.wrap (zG 1000000000 (zU.wrap ((zU.wrap e2)+1)))))),.gr 0 1,.d (.list (zA (eInt .u32) y7)),.gr 1 0,.d (.int .i64 v1.1),U,.d (.int .u64 v2.1),.d (.int .u64 v2.2),U,U,U,U,U,U,U,U,U,U,U,U,U,U,U,U,U,U,U,U,U,U,U,U,U,U,U,U,U,U,U,U,U,U,U,U,U,U,U,U,U,U,U,U,U,U,U,U,U,U,U,U,U,U,U,U,U,U,U,U,U,U,U,U,U,U,U,U,U,U,U,U,U,U,U,U,U,U,U,U,U,U,U,U,U,U,U,U,U,U,U,U,U,U,U,U,U,U,U,U,U,U,U,U,U,U,U,U,U,U,U,U,U,U,.d (.bool v3)]++us 49)) (λv3=>⟨[[.rowc 140 1 (zA (eInt .u32) v1.2.1)],[.rowc 140 0 (zA (eInt .u32) v1.2.2)]],[]⟩) (λ_=>rfl) ?_ ?_)))
 refine .ite (λh2=>?_) (λh2=>?_)
 refine Mir.regionS (by kernel_rfl) λe h=>stW.of (by kernel_rfl) ?_
 simp only[seval,EMI,h2]
 cases h
 simp only[seval,FMI,h2]
 refine .bind λe6 q6=>?_
 replace q6:=gt_ok q6
 refine .bind λe7 q8=>?_
 replace q8:=gt_ok q8
 refine Mir.regionS (by kernel_rfl) λe h=>stW.alt 18 rfl (by kernel_rfl) ?_
 simp only[seval,EMI,q6,h2]
 refine st_indexR rfl rfl rfl ca bh (dP q8.1) (ee q8.2 q8.1) (stW.alt 0 rfl (by kernel_rfl) ?_)
 simp only[seval,EMI,h2]
 refine st_loadR rfl rfl (cl q8.2) (by simp only[↓reduceIte,nA,nL,pt_eq,ag_140,bh,fp,jg,SV,eInt]<;>rfl) (stW.of (by kernel_rfl) ?_)
 simp only[seval,EMI,h2]
 cases h
 simp only[seval,FMI,h2]
 intro v3
 refine Mir.toK (.cond rfl (λh3=>?_) (λh3=>?_))
 refine .skip (Mir.toK (.block (.sI ?_)))
 refine .sR λe h=>?_
 simp only[seval,EMI,q3]
 refine mU e (.sI ?_) h
 refine .cond rfl (λ_=>.exit QI) (λ_=>.skip QI)
 refine .exit QI
 intro v4
 refine Mir.toK (.seqK (.seqK (.guard λq9=>?_)))
 replace q9:=gsl_of q9
 refine .bind λv9 h5=>.regionW λe h=>regW.alt 6 rfl ?_
 simp only[seval,EMI]
 refine alt_sliceR (l:=zE v1.1) (h:=zE (zR.wrap ((zR.wrap (v1.1+(y2.length:Int)))+1))) rfl rfl ca bh (by simp only[seval,EMI,bd_some,bd_none,zL,zM,lm,q9.1,q9.2.1]) (by simp only[seval,EMI,bd_some,bd_none,zL,zM,lm,q9.1,q9.2.1]) q9.2.2.1 (by rw[lm];exact q9.2.2.2) (regW.of ?_)
 simp only[seval,EMI]
 refine SpecS.inl Tryz.func127 rfl (by kernel_rfl) (by kernel_rfl) (λv9:Bool×(List Int)=>.d (.bool v9.1)) (λv9=>⟨[[.rowc 140 1 (zA (eInt .u32) v9.2)],[.rowc 140 0 (zA (eInt .u32) v1.2.2)]],[]⟩) h5 rfl ?_ ?_
 simp only[zI,zQ,nS,nA,Tryz.ntmps127,SV]
 refine .sI ?_
 refine .sI ?_
 refine .seqK (.seqK (.regionW λe h=>regW.alt 1 rfl ?_))
 simp only[seval,EMI]
 refine alt_lenG rfl rfl ca (regW.of ?_)
 simp only[seval,EMI]
 refine mU e (Mir.joinO (λv8:Int×Int×(List Int)=>([U,U,U,U,U,U,U,.d (.int .u64 v8.1),.d (.int .u64 v8.2.1)]++us 53)) (λv8=>⟨[[.rowc 140 1 (zA (eInt .u32) v8.2.2)],[.rowc 140 0 (zA (eInt .u32) v1.2.2)]],[]⟩) (λ_=>rfl) ?_ ?_) h
 refine .block (Mir.loop (λv5:Int×Int×Int×(List Int)=>([.gs 0 1 (zE v1.1) ((zE (zR.wrap ((zR.wrap (v1.1+(y2.length:Int)))+1)))-(zE v1.1)),.d (.list (zA (eInt .u32) y7)),.d (.int .u64 v4),U,U,U,U,.d (.int .u64 v5.1),.d (.int .u64 v5.2.1),U,U,U,U,U,.d (.int .i64 (((zE (zR.wrap ((zR.wrap (v1.1+(y2.length:Int)))+1)))-(zE v1.1):Nat):Int)),.d (.int .i64 v5.2.2.1)]++us 46)) (λv5=>⟨[[.rowc 140 1 (zA (eInt .u32) v5.2.2.2)],[.rowc 140 0 (zA (eInt .u32) v1.2.2)]],[]⟩) (λ_=>rfl) (by simp only[seval,FMI]) (by simp only[seval,FMI]) λv5=>.sI ?_)
 refine .seqK (.cond rfl (λh6=>?_) (λh6=>?_))
 refine .skip (Mir.toK (.seqK (.block (.sI ?_))))
 refine .sI ?_
 refine .seqK (.sI ?_)
 refine Mir.joinO (λv6:Int=>([.gs 0 1 (zE v1.1) ((zE (zR.wrap ((zR.wrap (v1.1+(y2.length:Int)))+1)))-(zE v1.1)),.d (.list (zA (eInt .u32) y7)),.d (.int .u64 v4),U,U,U,U,U,.d (.int .u64 v5.2.1),.d (.int .i64 v5.2.2.1),.d (.int .u64 v6),U,U,U,.d (.int .i64 (((zE (zR.wrap ((zR.wrap (v1.1+(y2.length:Int)))+1)))-(zE v1.1):Nat):Int)),.d (.int .i64 v5.2.2.1)]++us 46)) (λv6=>⟨[[.rowc 140 1 (zA (eInt .u32) v5.2.2.2)],[.rowc 140 0 (zA (eInt .u32) v1.2.2)]],[]⟩) (λ_=>rfl) ?_ ?_
 refine .cond rfl (λh7=>?_) (λh7=>?_)
 refine .bind λe8 q10=>?_
 replace q10:=gt_ok q10
 refine .region λe h=>?_
 simp only[seval,EMI,q10]
 cases h
 simp only[seval,FMI]
 refine .skip QI
 intro v6
 refine Mir.toK (.sI ?_)
 refine .sI ?_
 refine .sI ?_
 refine .seqK (.guard λq11=>?_)
 replace q11:=and_of q11
 refine .bind λe9 q12=>?_
 replace q12:=gt_ok q12
 simp only[zF]at q12
 refine .regionW λe h=>regW.alt 2 rfl ?_
 simp only[seval,EMI]
 refine kg rfl rfl rfl ca bh q11.1 q11.2 (regW.alt 0 rfl ?_)
 simp only[seval,EMI]
 refine jG rfl rfl (cl q12.2) (by simp only[↓reduceIte,nA,nL,pt_eq,ag_140,bh,fp,jg,SV,eInt]<;>rfl) (regW.of ?_)
 simp only[seval,EMI]
 refine mU e (.seqK (.sI ?_)) h
 refine Mir.joinO (λv7:Int×Int=>([.gs 0 1 (zE v1.1) ((zE (zR.wrap ((zR.wrap (v1.1+(y2.length:Int)))+1)))-(zE v1.1)),.d (.list (zA (eInt .u32) y7)),.d (.int .u64 v4),U,U,U,U,.d (.int .u64 (zU.wrap (zG v6 1000000000))),.d (.int .u64 v7.1),.d (.int .i64 v5.2.2.1),U,.d (.int .u64 (zU.wrap ((zJ v6 1000000000)+v5.2.1))),.d (.int .u64 v7.2),U,.d (.int .i64 (((zE (zR.wrap ((zR.wrap (v1.1+(y2.length:Int)))+1)))-(zE v1.1):Nat):Int)),.d (.int .i64 v5.2.2.1)]++us 46)) (λv7=>⟨[[.rowc 140 1 (zA (eInt .u32) v5.2.2.2)],[.rowc 140 0 (zA (eInt .u32) v1.2.2)]],[]⟩) (λ_=>rfl) ?_ ?_
 refine .cond rfl (λ_=>.rI) (λ_=>.skip QI)
 intro v7
 refine Mir.toK (.guard λq16=>?_)
 replace q16:=and_of q16
 refine .bind λe10 q18=>?_
 replace q18:=gt_ok q18
 simp only[zF]at q18
 refine .regionW λe h=>regW.alt 6 rfl ?_
 simp only[seval,EMI]
 refine kg rfl rfl rfl ca bh q16.1 q16.2 (regW.alt 0 rfl ?_)
 simp only[seval,EMI]
 refine bv rfl rfl (cl q18.2) rfl rfl bh rfl (zB rfl) (regW.of ?_)
 simp only[seval,EMI]
 refine mU e (.rI) h
 refine .exit QI
 intro v8
 refine Mir.toK (.seqK (.joinV ([U,U,U,U,U,U,.d (.bool ((decide (v8.2.1>0))||(decide (v8.1>0))))]++us 55) ⟨[[.rowc 140 1 (zA (eInt .u32) v8.2.2)],[.rowc 140 0 (zA (eInt .u32) v1.2.2)]],[]⟩ rfl ?_ ?_))
 refine SWs.region ?_
 rcases zH (decide (v8.2.1>0))with h9 | h9
 simp only[seval,EMI,SL,PB,h9]
 simp only[seval,EMI,SL,PB,h9]
 refine Mir.toK (.ret QI)
 simp only[seval,EMI]
 refine mU e (Mir.joinO (λv14:Int×(List Int)=>([U,U,U,U,U,U,.d (.int .i64 (y2.length:Int)),.d (.int .u32 (zT.wrap (zU.wrap (zG 1000000000 (zU.wrap ((zU.wrap e2)+1)))))),.gr 0 1,.d (.list (zA (eInt .u32) y7)),.gr 1 0,.d (.int .i64 v1.1),U,.d (.int .u64 v14.1)]++us 165)) (λv14=>⟨[[.rowc 140 1 (zA (eInt .u32) v14.2)],[.rowc 140 0 (zA (eInt .u32) v1.2.2)]],[]⟩) (λ_=>rfl) ?_ ?_) h
 refine .cond rfl (λh10=>?_) (λh10=>?_)
 refine .sI ?_
 refine .guard λq19=>?_
 replace q19:=gsl_of q19
 refine .bind λv13 h11=>.regionW λe h=>regW.alt 6 rfl ?_
 simp only[seval,EMI]
 refine alt_sliceR (l:=zE v1.1) (h:=zE (zR.wrap ((zR.wrap (v1.1+(y2.length:Int)))+1))) rfl rfl ca bh (by simp only[seval,EMI,bd_some,bd_none,zL,zM,lm,q19.1,q19.2.1]) (by simp only[seval,EMI,bd_some,bd_none,zL,zM,lm,q19.1,q19.2.1]) q19.2.2.1 (by rw[lm];exact q19.2.2.2) (regW.of ?_)
 simp only[seval,EMI]
 refine SpecS.inl Tryz.func128 rfl (by kernel_rfl) (by kernel_rfl) (λv13:(List Int)=>.tuple []) (λv13=>⟨[[.rowc 140 1 (zA (eInt .u32) v13)],[.rowc 140 0 (zA (eInt .u32) v1.2.2)]],[]⟩) h11 rfl ?_ ?_
 simp only[zI,zQ,nS,nA,Tryz.ntmps128,SV]
 refine .sI ?_
 refine .seqK (.regionW λe h=>regW.alt 1 rfl ?_)
 simp only[seval,EMI]
 refine alt_lenG rfl rfl ca (regW.of ?_)
 simp only[seval,EMI]
 refine mU e (.block (Mir.loop (λv10:Int×Int×(List Int)=>([.gs 0 1 (zE v1.1) ((zE (zR.wrap ((zR.wrap (v1.1+(y2.length:Int)))+1)))-(zE v1.1)),.d (.list (zA (eInt .u32) y7)),U,U,.d (.int .u32 v10.1),U,U,U,.d (.int .i64 (((zE (zR.wrap ((zR.wrap (v1.1+(y2.length:Int)))+1)))-(zE v1.1):Nat):Int)),.d (.int .i64 v10.2.1)]++us 27)) (λv10=>⟨[[.rowc 140 1 (zA (eInt .u32) v10.2.2)],[.rowc 140 0 (zA (eInt .u32) v1.2.2)]],[]⟩) (λ_=>rfl) (by simp only[seval,FMI]) (by simp only[seval,FMI]) λv10=>.sI ?_)) h
 refine .seqK (.cond rfl (λh12=>?_) (λh12=>?_))
 refine .skip (Mir.toK (.seqK (.block (.sI ?_))))
 refine .seqK (.guard λq22=>?_)
 replace q22:=and_of q22
 refine .bind λe11 q23=>?_
 replace q23:=gt_ok q23
 simp only[zF]at q23
 refine .regionW λe h=>regW.alt 2 rfl ?_
 simp only[seval,EMI]
 refine kg rfl rfl rfl ca bh q22.1 q22.2 (regW.alt 0 rfl ?_)
 simp only[seval,EMI]
 refine jG rfl rfl (cl q23.2) (by simp only[↓reduceIte,nA,nL,pt_eq,ag_140,bh,fp,jg,SV,eInt]<;>rfl) (regW.of ?_)
 simp only[seval,EMI]
 refine mU e (.seqK (.sI ?_)) h
 refine Mir.joinO (λv11:Int=>([.gs 0 1 (zE v1.1) ((zE (zR.wrap ((zR.wrap (v1.1+(y2.length:Int)))+1)))-(zE v1.1)),.d (.list (zA (eInt .u32) y7)),U,U,U,.d (.int .i64 v10.2.1),.d (.int .u32 v11),U,.d (.int .i64 (((zE (zR.wrap ((zR.wrap (v1.1+(y2.length:Int)))+1)))-(zE v1.1):Nat):Int)),.d (.int .i64 v10.2.1)]++us 27)) (λv11=>⟨[[.rowc 140 1 (zA (eInt .u32) v10.2.2)],[.rowc 140 0 (zA (eInt .u32) v1.2.2)]],[]⟩) (λ_=>rfl) ?_ ?_
 refine .cond rfl (λh13=>?_) (λh13=>?_)
 refine .bind λe12 q24=>?_
 replace q24:=gt_ok q24
 refine .region λe h=>?_
 simp only[seval,EMI,q24]
 cases h
 simp only[seval,FMI]
 refine .skip QI
 intro v11
 refine Mir.toK (.sI ?_)
 refine .seqK (.sI ?_)
 refine Mir.joinO (λv12:Int×Int=>([.gs 0 1 (zE v1.1) ((zE (zR.wrap ((zR.wrap (v1.1+(y2.length:Int)))+1)))-(zE v1.1)),.d (.list (zA (eInt .u32) y7)),U,U,.d (.int .u32 v12.1),.d (.int .i64 v10.2.1),.d (.int .u32 v12.2),U,.d (.int .i64 (((zE (zR.wrap ((zR.wrap (v1.1+(y2.length:Int)))+1)))-(zE v1.1):Nat):Int)),.d (.int .i64 v10.2.1)]++us 27)) (λv12=>⟨[[.rowc 140 1 (zA (eInt .u32) v10.2.2)],[.rowc 140 0 (zA (eInt .u32) v1.2.2)]],[]⟩) (λ_=>rfl) ?_ ?_
 refine .cond rfl (λ_=>.rI) (λ_=>.skip QI)
 intro v12
 refine Mir.toK (.guard λq25=>?_)
 replace q25:=and_of q25
 refine .bind λe13 q26=>?_
 replace q26:=gt_ok q26
 simp only[zF]at q26
 refine .regionW λe h=>regW.alt 3 rfl ?_
 simp only[seval,EMI]
 refine kg rfl rfl rfl ca bh q25.1 q25.2 (regW.alt 0 rfl ?_)
 simp only[seval,EMI]
 refine bv rfl rfl (cl q26.2) rfl rfl bh rfl (zB rfl) (regW.of ?_)
 simp only[seval,EMI]
 refine mU e (.rI) h
 refine .exit QI
 simp only[seval,EMI]
 cases h
 simp only[seval,FMI]
 refine .skip QI
 intro v14
 refine Mir.toK (.bind λe14 q27=>?_)
 replace q27:=gt_ok q27
 refine .regionW λe h=>regW.alt 4 rfl ?_
 simp only[seval,EMI]
 refine bD rfl rfl rfl ca bh (dP q27.1) (ee q27.2 q27.1) (regW.alt 0 rfl ?_)
 simp only[seval,EMI]
 refine bv rfl rfl (cl q27.2) rfl rfl bh rfl (zB rfl) (regW.of ?_)
 simp only[seval,EMI]
 cases h
 simp only[seval,FMI]
 intro v15
 refine Mir.toK (.rI)
 refine .exit QI
 intro v16
 refine Mir.toK (.seqK (.frz 0 rfl ?_))
 simp only[seval,us_0,us_s,xCA,xNA,and_self,and_true,true_and,and_false,false_and,SZ]
 refine .bind λs1 q28=>?_
 replace q28:=cutT_ok q28
 refine .bind λy8 h15=>.bind λy9 h16=>.region λe h=>?_
 simp only[seval,EMI,q28,zN,and_true,true_and,dm,tm]
 refine .byI (eh h15) (WI ?_)
 refine .byI (kC h16) (mI ?_ h)
 refine .sI ?_
 refine .frz 1 rfl ?_
 simp only[seval,us_0,us_s,xCA,xNA,and_self,and_true,true_and,and_false,false_and,SZ]
 refine .ret QI
def jX(a0:Int):Option (List Int):=some [zT.wrap (zJ a0 1000000000),zT.wrap (zJ (zU.wrap (zG a0 1000000000)) 1000000000),zT.wrap (zU.wrap (zG (zU.wrap (zG a0 1000000000)) 1000000000))]
theorem it_split_spec{a0:Int}{y:(List Int)}(h:jX a0=some y):Spec gP 70 [.d (.int .u64 a0)] (.d (.list (zA (eInt .u32) y))):=by
 refine auI Tryz.func70 (λy:(List Int)=>.d (.list (zA (eInt .u32) y))) ?_ h
 unfold jX
 refine .sI ?_
 refine .sR λe h=>?_
 simp only[seval,EMI,(oL 3)]
 refine mU e (.ret QI) h
def bf(a0:Int):Option aq:=bindO (if (decide (a0<0))=true then some (zU.wrap (0-(zU.wrap a0)))else some (zU.wrap a0)) λ(v1:Int)=>bindO (jX v1) λ(y1:(List Int))=>bindO (bG (decide (a0<0)) y1) λ(y2:aq)=>some y2
theorem aX{a0:Int}{y:aq}(h:bf a0=some y):Spec gP 33 [.d (.int .i64 a0)] (.agg [.d (.bool y.Neg),.d (.list (zA (eInt .u32) y.Limbs))]):=by
 refine auI Tryz.func33 (λy:aq=>.agg [.d (.bool y.Neg),.d (.list (zA (eInt .u32) y.Limbs))]) ?_ h
 unfold bf
 refine .sI ?_
 refine .sI ?_
 refine .seqK (.sI ?_)
 refine Mir.joinO (λv1:Int=>([.d (.int .i64 a0),U,.ptr 0 0,.d (.int .u64 v1)]++us 11)) (λv1=>⟨[[.d (.bool false),.nil]],[]⟩) (λ_=>rfl) ?_ ?_
 refine .cond rfl (λ_=>.rI) (λ_=>.skip QI)
 intro v1
 refine Mir.toK (.seqK (.bind λy1 hy3=>.bind λy2 hy4=>.region λe h=>WI ?_))
 refine .byI (it_split_spec hy3) (WI ?_)
 refine .byI (bp hy4) (mI ?_ h)
 refine .ret QI
def it_Sub(a0:aq)(a1:aq):Option aq:=bindO (kF a0 (aq.mk (!a1.Neg&&(decide ((a1.Limbs.length:Int)>0))) a1.Limbs)) λ(y1:aq)=>some y1
theorem iP{a0:aq}{a1:aq}{y:aq}(h:it_Sub a0 a1=some y):Spec gP 32 [.agg (cP a0),.agg (cP a1)] (.agg [.d (.bool y.Neg),.d (.list (zA (eInt .u32) y.Limbs))]):=by
 refine auI Tryz.func32 (λy:aq=>.agg [.d (.bool y.Neg),.d (.list (zA (eInt .u32) y.Limbs))]) ?_ h
 unfold it_Sub
 refine .sI ?_
 refine .seqK (.joinV ([U,U,.ptr 0 0,.ptr 1 0,.ptr 2 0]++us 13) ⟨[(cP a0),[.d (.bool (!a1.Neg&&(decide ((a1.Limbs.length:Int)>0)))),.d (.list (zA (eInt .u32) a1.Limbs))],[.d (.bool false),.nil]],[]⟩ rfl ?_ ?_)
 refine SWs.region ?_
 rcases zH (a1.Neg)with hb1 | hb1
 simp only[seval,EMI,SL,PB,hb1]
 simp only[seval,EMI,SL,PB,hb1]
 refine Mir.toK (.seqK (.bind λy1 hy2=>.region λe h=>WI ?_))
 refine .byI (iS hy2) (mI ?_ h)
 refine .ret QI
def fZ(a0:aq)(a1:aq):Option (aq×aq×Int):=if ((a1.Limbs.length:Int)==0)=true then some (aq.mk false [],aq.mk false [],6)else bindO (ic a0.Limbs a1.Limbs) λ(y1:(List Int)×(List Int))=>bindO (bG (!(a0.Neg==a1.Neg)) y1.1) λ(y2:aq)=>bindO (bG a0.Neg y1.2) λ(y3:aq)=>bindO (if ((decide ((y3.Limbs.length:Int)>0))&&(!(y3.Neg==a1.Neg)))=true then bindO (bf 1) λ(y4:aq)=>bindO (it_Sub y2 y4) λ(y5:aq)=>bindO (kF y3 a1) λ(y6:aq)=>some (y5,y6)else some (y2,y3)) λ(v1:aq×aq)=>some (v1.1,v1.2,0)
theorem kE{a0:aq}{a1:aq}{y:aq×aq×Int}(h:fZ a0 a1=some y):Spec gP 68 [.agg (cP a0),.agg (cP a1)] (.tuple [.agg [.d (.bool y.1.Neg),.d (.list (zA (eInt .u32) y.1.Limbs))],.agg [.d (.bool y.2.1.Neg),.d (.list (zA (eInt .u32) y.2.1.Limbs))],.d (.int .i64 y.2.2)]):=by
 refine auI Tryz.func68 (λy:aq×aq×Int=>.tuple [.agg [.d (.bool y.1.Neg),.d (.list (zA (eInt .u32) y.1.Limbs))],.agg [.d (.bool y.2.1.Neg),.d (.list (zA (eInt .u32) y.2.1.Limbs))],.d (.int .i64 y.2.2)]) ?_ h
 unfold fZ
 refine .sI ?_
 refine .seqK (.sI ?_)
 refine .cond rfl (λhb2=>?_) (λhb2=>?_)
 refine .sI ?_
 refine .ret QI
 refine .skip (Mir.toK (.seqK (.bind λy1 hy3=>.region λe h=>WI ?_)))
 refine .byI (kB hy3) (mI ?_ h)
 refine .seqK (.bind λy2 hy4=>.bind λy3 hy5=>.regionD [] (by kernel_rfl) λe h=>?_)
 simp only[seval,EMI,SB]
 refine Spec.by (bp hy4) (by simp only[seval,FMI]) ?_
 simp only[seval,EMI,SB]
 refine Spec.by (bp hy5) (by simp only[seval,FMI]) ?_
 simp only[seval,EMI,SB]
 refine mU e (.seqK (.seqK (.joinV ([U,U,U,.ptr 1 0,.ptr 2 0,.ptr 3 0,U,U,U,.ptr 4 0,.ptr 5 0,U,U,U,U,U,U,U,U,U,U,U,U,U,U,U,U,U,U,U,U,U,U,U,U,U,U,U,U,U,U,U,U,U,U,U,.d (.bool ((decide ((y3.Limbs.length:Int)>0))&&(!(y3.Neg==a1.Neg))))]++us 8) ⟨[(cP a0),(cP a1),[.d (.bool false),.nil],[.d (.bool false),.nil],(cP y2),(cP y3)],[]⟩ rfl ?_ ?_))) h
 refine SWs.region ?_
 rcases zH (decide ((y3.Limbs.length:Int)>0))with hb6 | hb6
 simp only[seval,EMI,SL,PB,hb6]
 simp only[seval,EMI,SL,PB,hb6]
 refine Mir.toK (Mir.joinO (λv1:aq×aq=>([U,U,U,U,.ptr 2 0,.ptr 3 0,U,U,U,.ptr 4 0,.ptr 5 0]++us 44)) (λv1=>⟨[(cP a0),(cP a1),[.d (.bool false),.nil],[.d (.bool false),.nil],(cP v1.1),(cP v1.2)],[]⟩) (λ_=>rfl) ?_ ?_)
 refine .cond rfl (λhb11=>?_) (λhb11=>?_)
 refine .bind λy4 hy12=>.bind λy5 hy13=>.bind λy6 hy14=>.regionD [] (by kernel_rfl) λe h=>?_
 simp only[seval,EMI,SB]
 refine Spec.by (aX hy12) (by simp only[seval,FMI]) ?_
 simp only[seval,EMI,SB]
 refine Spec.by (iP hy13) (by simp only[seval,FMI]) ?_
 simp only[seval,EMI,SB]
 refine Spec.by (iS hy14) (by simp only[seval,FMI]) ?_
 simp only[seval,EMI,SB]
 cases h
 simp only[seval,FMI]
 refine .skip QI
 intro v1
 refine Mir.toK (.seqK (.regionD [(10,4)] (by kernel_rfl) λe h=>?_))
 simp only[seval,EMI,SB]
 refine mU e (.ret QI) h
def it_word(a0:aq):Option (Int×Bool):=if ((a0.Limbs.length:Int)==0)=true then some (0,true)else if ((a0.Limbs.length:Int)==1)=true then bindO (gt a0.Limbs 0) λ(e1:Int)=>some (zU.wrap e1,true)else if ((a0.Limbs.length:Int)==2)=true then bindO (gt a0.Limbs 1) λ(e2:Int)=>bindO (gt a0.Limbs 0) λ(e3:Int)=>some (zU.wrap ((zU.wrap ((zU.wrap e2)*1000000000))+(zU.wrap e3)),true)else some (0,false)
theorem it_word_spec{a0:aq}{y:Int×Bool}(h:it_word a0=some y):Spec gP 125 [.agg (cP a0)] (.tuple [.d (.int .u64 y.1),.d (.bool y.2)]):=by
 refine auI Tryz.func125 (λy:Int×Bool=>.tuple [.d (.int .u64 y.1),.d (.bool y.2)]) ?_ h
 unfold it_word
 refine .sI ?_
 refine .seqK (.sI ?_)
 refine .block (.sI ?_)
 refine .cond rfl (λhb13=>?_) (λhb13=>?_)
 refine .sI ?_
 refine .ret QI
 refine .sI ?_
 refine .cond rfl (λhb19=>?_) (λhb19=>?_)
 refine .seqK (.bind λe1 q20=>?_)
 replace q20:=gt_ok q20
 simp only[zK,zO,zP,dp0]at q20
 refine .region λe h=>?_
 simp only[seval,EMI,q20]
 refine mU e (.ret QI) h
 refine .sI ?_
 refine .cond rfl (λhb24=>?_) (λhb24=>?_)
 refine .seqK (.bind λe2 q25=>?_)
 replace q25:=gt_ok q25
 simp only[zK,zO,zP,dp0]at q25
 refine .bind λe3 q26=>?_
 replace q26:=gt_ok q26
 simp only[zK,zO,zP,dp0]at q26
 refine .regionD [] (by kernel_rfl) λe h=>?_
 simp only[seval,EMI,SB,q25,q26]
 refine mU e (.ret QI) h
 refine .skip (Mir.toB (Mir.toK (.sI ?_)))
 refine .ret QI
def it_GCD(a0:aq)(a1:aq):Option aq:=bindO (bG false a0.Limbs) λ(y1:aq)=>bindO (bG false a1.Limbs) λ(y2:aq)=>bindX (loopX (λ(v1:aq×aq)=>if (decide ((v1.2.Limbs.length:Int)>0))=true then bindO (it_word v1.1) λ(y3:Int×Bool)=>bindO (it_word v1.2) λ(y4:Int×Bool)=>bindX (if (y3.2&&y4.2)=true then bindO (loopX (λ(v2:Int×Int)=>if (decide (v2.2>0))=true then aB (!(v2.2==0)) ( some (.go (v2.2,zJ v2.1 v2.2)))else some (.ret v2.1)) fuel (y3.1,y4.1)) λ(v3:Int)=>bindO (jX v3) λ(y5:(List Int))=>bindO (bG false y5) λ(y6:aq)=>some (.ret (.ret (.ret y6)))else some (.go ())) λ(v4:Unit)=>bindO (ic v1.1.Limbs v1.2.Limbs) λ(y7:(List Int)×(List Int))=>bindO (bG false y7.2) λ(y8:aq)=>some (.go (v1.2,y8))else some (.ret (.go (v1.1,v1.2)))) fuel (y1,y2)) λ(v5:aq×aq)=>aB (okLen (v5.1.Limbs.length)) ( bindO (bG false v5.1.Limbs) λ(y9:aq)=>some y9)
theorem it_GCD_spec{a0:aq}{a1:aq}{y:aq}(h:it_GCD a0 a1=some y):Spec gP 101 [.agg (cP a0),.agg (cP a1)] (.agg [.d (.bool y.Neg),.d (.list (zA (eInt .u32) y.Limbs))]):=by
 refine auI Tryz.func101 (λy:aq=>.agg [.d (.bool y.Neg),.d (.list (zA (eInt .u32) y.Limbs))]) ?_ h
 unfold it_GCD
 refine .sI ?_
 refine .seqK (.bind λy1 hy1=>.bind λy2 hy2=>.regionD [] (by kernel_rfl) λe h=>?_)
 simp only[seval,EMI,SB]
 refine Spec.by (bp hy1) (by simp only[seval,FMI]) ?_
 simp only[seval,EMI,SB]
 refine Spec.by (bp hy2) (by simp only[seval,FMI]) ?_
 simp only[seval,EMI,SB]
 refine mU e (.seqK (Mir.join (λv5:aq×aq=>([U,U,U,U,.ptr 2 0,.ptr 3 0]++us 55)) (λv5=>⟨[(cP a0),(cP a1),[.d (.bool false),.nil],(cP v5.1),(cP v5.2)],[]⟩) (λ_=>rfl) ?_ ?_)) h
 refine .block (Mir.loop (λv1:aq×aq=>([U,U,U,U,.ptr 2 0,.ptr 3 0,.ptr 4 0]++us 54)) (λv1=>⟨[(cP a0),(cP a1),[.d (.bool false),.nil],(cP v1.1),(cP v1.2)],[]⟩) (λ_=>rfl) (by simp only[seval,FMI]) (by simp only[seval,FMI]) λv1=>.seqK (.sI ?_))
 refine .cond rfl (λh1=>?_) (λh1=>?_)
 refine .skip (Mir.toK (.block (.seqK (.bind λy3 h2=>.region λe h=>WI ?_))))
 refine .byI (it_word_spec h2) (mI ?_ h)
 refine .seqK (.bind λy4 h3=>.region λe h=>WI ?_)
 refine .byI (it_word_spec h3) (mI ?_ h)
 refine .seqK (.seqK (.joinV ([U,U,U,U,.ptr 2 0,.ptr 3 0,.ptr 4 0,.d (.int .u64 y3.1),U,.d (.int .u64 y4.1),U,U,U,U,U,U,U,U,U,U,U,U,U,U,U,U,U,U,U,U,U,U,U,U,U,U,.d (.bool (y3.2&&y4.2))]++us 24) ⟨[(cP a0),(cP a1),[.d (.bool false),.nil],(cP v1.1),(cP v1.2)],[]⟩ rfl ?_ ?_))
 refine SWs.region ?_
 rcases zH (y3.2)with h4 | h4
 simp only[seval,EMI,SL,PB,h4]
 simp only[seval,EMI,SL,PB,h4]
 refine Mir.toK (Mir.join (λv4:Unit=>([U,U,U,U,.ptr 2 0,.ptr 3 0,.ptr 4 0]++us 54)) (λv4=>⟨[(cP a0),(cP a1),[.d (.bool false),.nil],(cP v1.1),(cP v1.2)],[]⟩) (λ_=>rfl) ?_ ?_)
 refine .cond rfl (λh5=>?_) (λh5=>?_)
 refine .seqK (Mir.joinO (λv3:Int=>([U,U,U,U,.ptr 2 0,U,U,.d (.int .u64 v3)]++us 53)) (λv3=>⟨[(cP a0),(cP a1),[.d (.bool false),.nil],(cP v1.1),(cP v1.2)],[]⟩) (λ_=>rfl) ?_ ?_)
 refine .block (Mir.loop (λv2:Int×Int=>([U,U,U,U,.ptr 2 0,U,U,.d (.int .u64 v2.1),U,.d (.int .u64 v2.2)]++us 51)) (λv2=>⟨[(cP a0),(cP a1),[.d (.bool false),.nil],(cP v1.1),(cP v1.2)],[]⟩) (λ_=>rfl) (by simp only[seval,FMI]) (by simp only[seval,FMI]) λv2=>.seqK (.sI ?_))
 refine .cond rfl (λh6=>?_) (λh6=>?_)
 refine .skip (Mir.toK (.block (.guard λq1=>?_)))
 replace q1:=ne_of q1
 refine .regionD [] (by kernel_rfl) λe h=>?_
 simp only[seval,EMI,SB,q1]
 cases h
 simp only[seval,FMI]
 refine .exit QI
 intro v3
 refine Mir.toK (.seqK (.bind λy5 h7=>.bind λy6 h8=>.region λe h=>WI ?_))
 refine .byI (it_split_spec h7) (WI ?_)
 refine .byI (bp h8) (mI ?_ h)
 refine .ret QI
 refine .skip QI
 intro v4
 refine Mir.toK (.seqK (.bind λy7 h9=>.region λe h=>WI ?_))
 refine .byI (kB h9) (mI ?_ h)
 refine .bind λy8 h10=>.regionD [] (by kernel_rfl) λe h=>?_
 simp only[seval,EMI,SB]
 refine Spec.by (bp h10) (by simp only[seval,FMI]) ?_
 simp only[seval,EMI,SB]
 cases h
 simp only[seval,FMI]
 refine .exit QI
 intro v5
 refine Mir.toK (.seqK (.guard λq2=>.bind λy9 h11=>.region λe h=>?_))
 simp only[seval,EMI,q2]
 refine .byI (bp h11) (mI ?_ h)
 refine .ret QI
def gC(a0:aq)(a1:aq):Option Int:=if (!(a0.Neg==a1.Neg))=true then if a0.Neg=true then some (-1)else some 1 else if a0.Neg=true then bindO (er a1.Limbs a0.Limbs) λ(y1:Int)=>some y1 else bindO (er a0.Limbs a1.Limbs) λ(y2:Int)=>some y2
theorem cV{a0:aq}{a1:aq}{y:Int}(h:gC a0 a1=some y):Spec gP 34 [.agg (cP a0),.agg (cP a1)] (.d (.int .i64 y)):=by
 refine auI Tryz.func34 (λy:Int=>.d (.int .i64 y)) ?_ h
 unfold gC
 refine .sI ?_
 refine .seqK (.sI ?_)
 refine .cond rfl (λhb4=>?_) (λhb4=>?_)
 refine .seqK (.sI ?_)
 refine .cond rfl (λhb6=>?_) (λhb6=>?_)
 refine .sI ?_
 refine .ret QI
 refine .skip (Mir.toK (.sI ?_))
 refine .ret QI
 refine .skip (Mir.toK (.seqK (.sI ?_)))
 refine .cond rfl (λhb9=>?_) (λhb9=>?_)
 refine .seqK (.bind λy1 hy10=>.region λe h=>WI ?_)
 refine .byI (eG hy10) (mI ?_ h)
 refine .ret QI
 refine .skip (Mir.toK (.seqK (.bind λy2 hy11=>.region λe h=>WI ?_)))
 refine .byI (eG hy11) (mI ?_ h)
 refine .ret QI
def kY(a0:aq):Option Int:=if a0.Neg=true then some (-1)else if (decide ((a0.Limbs.length:Int)>0))=true then some 1 else some 0
theorem it_Sign_spec{a0:aq}{y:Int}(h:kY a0=some y):Spec gP 100 [.agg (cP a0)] (.d (.int .i64 y)):=by
 refine auI Tryz.func100 (λy:Int=>.d (.int .i64 y)) ?_ h
 unfold kY
 refine .sI ?_
 refine .seqK (.block (.sI ?_))
 refine .cond rfl (λhb5=>?_) (λhb5=>?_)
 refine .sI ?_
 refine .ret QI
 refine .sI ?_
 refine .cond rfl (λhb7=>?_) (λhb7=>?_)
 refine .sI ?_
 refine .ret QI
 refine .skip (Mir.toB (Mir.toK (.sI ?_)))
 refine .ret QI
def iR(a0:aq):Option (Int×Bool):=bindO (bindO (bf (-9223372036854775808)) λ(y1:aq)=>bindO (gC a0 y1) λ(y2:Int)=>if (decide (y2<0))=true then some true else bindO (bf 9223372036854775807) λ(y3:aq)=>bindO (gC a0 y3) λ(y4:Int)=>some (decide (y4>0))) λ(v1:Bool)=>if v1=true then some (0,false)else bindO (loopX (λ(v2:Int×Int)=>if (decide (v2.2≥0))=true then bindO (gt a0.Limbs v2.2) λ(e1:Int)=>some (.go (zU.wrap ((zU.wrap (v2.1*1000000000))+(zU.wrap e1)),zR.wrap (v2.2-1)))else some (.ret v2.1)) fuel (0,zR.wrap ((a0.Limbs.length:Int)-1))) λ(v3:Int)=>bindO (if a0.Neg=true then some (zU.wrap (0-v3))else some v3) λ(v4:Int)=>some (zR.wrap v4,true)
theorem iQ{a0:aq}{y:Int×Bool}(h:iR a0=some y):Spec gP 35 [.agg (cP a0)] (.tuple [.d (.int .i64 y.1),.d (.bool y.2)]):=by
 refine auI Tryz.func35 (λy:Int×Bool=>.tuple [.d (.int .i64 y.1),.d (.bool y.2)]) ?_ h
 unfold iR
 refine .sI ?_
 refine .seqK (.seqK (Mir.joinO (λv1:Bool=>([U,.ptr 0 0,U,U,U,U,U,U,U,U,U,U,U,U,U,.d (.bool v1)]++us 23)) (λv1=>⟨[(cP a0)],[]⟩) (λ_=>rfl) ?_ ?_))
 refine .bind λy1 hy1=>.bind λy2 hy2=>.ite (λhb3=>?_) (λhb3=>?_)
 refine .regionD [] (by kernel_rfl) λe h=>?_
 simp only[seval,EMI,SB,hb3]
 refine Spec.by (aX hy1) (by simp only[seval,FMI,hb3]) ?_
 simp only[seval,EMI,SB,hb3]
 refine Spec.by (cV hy2) (by simp only[seval,FMI,hb3]) ?_
 simp only[seval,EMI,SB,hb3]
 cases h
 simp only[seval,FMI,hb3]
 refine .bind λy3 hy4=>.bind λy4 hy5=>.regionD [] (by kernel_rfl) λe h=>?_
 simp only[seval,EMI,SB,hb3]
 refine Spec.by (aX hy1) (by simp only[seval,FMI,hb3]) ?_
 simp only[seval,EMI,SB,hb3]
 refine Spec.by (cV hy2) (by simp only[seval,FMI,hb3]) ?_
 simp only[seval,EMI,SB,hb3]
 refine Spec.by (aX hy4) (by simp only[seval,FMI,hb3]) ?_
 simp only[seval,EMI,SB,hb3]
 refine Spec.by (cV hy5) (by simp only[seval,FMI,hb3]) ?_
 simp only[seval,EMI,SB,hb3]
 cases h
 simp only[seval,FMI,hb3]
 intro v1
 refine Mir.toK (.cond rfl (λhb7=>?_) (λhb7=>?_))
 refine .sI ?_
 refine .ret QI
 refine .skip (Mir.toK (.sI ?_))
 refine .seqK (.sI ?_)
 refine Mir.joinO (λv3:Int=>([U,.ptr 0 0,U,U,.d (.int .u64 v3)]++us 34)) (λv3=>⟨[(cP a0)],[]⟩) (λ_=>rfl) ?_ ?_
 refine .block (Mir.loop (λv2:Int×Int=>([U,.ptr 0 0,U,U,.d (.int .u64 v2.1),.d (.int .i64 v2.2)]++us 33)) (λv2=>⟨[(cP a0)],[]⟩) (λ_=>rfl) (by simp only[seval,FMI]) (by simp only[seval,FMI]) λv2=>.seqK (.sI ?_))
 refine .cond rfl (λhb29=>?_) (λhb29=>?_)
 refine .skip (Mir.toK (.seqK (.block (.bind λe1 q31=>?_))))
 replace q31:=gt_ok q31
 refine .region λe h=>?_
 simp only[seval,EMI,q31]
 refine mU e (.rI) h
 refine .exit QI
 intro v3
 refine Mir.toK (.seqK (.sI ?_))
 refine Mir.joinO (λv4:Int=>([U,U,U,U,.d (.int .u64 v4)]++us 34)) (λv4=>⟨[(cP a0)],[]⟩) (λ_=>rfl) ?_ ?_
 refine .cond rfl (λ_=>.rI) (λ_=>.skip QI)
 intro v4
 refine Mir.toK (.sI ?_)
 refine .ret QI
def gY(a0:Int):Option (List Int):=bindO (loopX (λ(v1:Int×(List Int))=>if (decide (v1.1>0))=true then aB (okLen (v1.2.length+1)) ( some (.go (zU.wrap (zG v1.1 1000000000),v1.2++[zT.wrap (zJ v1.1 1000000000)])))else some (.ret v1.2)) fuel (a0,[])) λ(v2:(List Int))=>some v2
theorem kw{a0:Int}{y:(List Int)}(h:gY a0=some y):Spec gP 60 [.d (.int .u64 a0)] (.d (.list (zA (eInt .u32) y))):=by
 refine auI Tryz.func60 (λy:(List Int)=>.d (.list (zA (eInt .u32) y))) ?_ h
 unfold gY
 refine .sI ?_
 refine .sI ?_
 refine .seqK (.gh [.slot 3 140] rfl (Mir.joinO (λv2:(List Int)=>([U,U,U,.own 0 (zA (eInt .u32) v2)]++us 11)) (λv2=>⟨[],[(140,v2.length)]⟩) (λ_=>rfl) ?_ ?_))
 refine .block (Mir.loop (λv1:Int×(List Int)=>([.d (.int .u64 v1.1),U,U,.own 0 (zA (eInt .u32) v1.2)]++us 11)) (λv1=>⟨[],[(140,v1.2.length)]⟩) (λ_=>rfl) (by simp only[seval,FMI]) (by simp only[seval,FMI]) λv1=>.seqK (.sI ?_))
 refine .cond rfl (λhb25=>?_) (λhb25=>?_)
 refine .skip (Mir.toK (.block (.seqK (.guard λq26=>.region λe h=>?_))))
 simp only[seval,EMI,(oL 1),q26]
 refine mU e (.rI) h
 refine .exit QI
 intro v2
 refine Mir.toK (.sI ?_)
 refine .ret QI
def jR(a0:(List Int)):Option (List Int):=bindO (loopX (λ(v1:(List Int))=>bindO (if (decide ((v1.length:Int)>0))=true then bindO (gt v1 (zR.wrap ((v1.length:Int)-1))) λ(e1:Int)=>some (e1==0)else some false) λ(v2:Bool)=>if v2=true then bindO (cutT v1 (zR.wrap ((v1.length:Int)-1))) λ(s1:(List Int))=>some (.go s1)else some (.ret v1)) fuel a0) λ(v3:(List Int))=>some v3
theorem r01_trim_spec{a0:(List Int)}{y:(List Int)}(h:jR a0=some y):Spec gP 98 [.d (.list (zA (eInt .u32) a0))] (.d (.list (zA (eInt .u32) y))):=by
 refine auI Tryz.func98 (λy:(List Int)=>.d (.list (zA (eInt .u32) y))) ?_ h
 unfold jR
 refine .sI ?_
 refine .seqK (Mir.joinO (λv3:(List Int)=>([.d (.list (zA (eInt .u32) v3))]++us 20)) (λv3=>⟨[],[]⟩) (λ_=>rfl) ?_ ?_)
 refine .block (Mir.loop (λv1:(List Int)=>([.d (.list (zA (eInt .u32) v1))]++us 20)) (λv1=>⟨[],[]⟩) (λ_=>rfl) (by simp only[seval,FMI]) (by simp only[seval,FMI]) λv1=>.seqK (.seqK (Mir.joinO (λv2:Bool=>([.d (.list (zA (eInt .u32) v1)),U,U,U,U,U,U,U,U,U,U,U,U,U,.d (.bool v2)]++us 6)) (λv2=>⟨[],[]⟩) (λ_=>rfl) ?_ ?_)))
 refine .ite (λhb34=>?_) (λhb34=>?_)
 refine .bind λe1 q35=>?_
 replace q35:=gt_ok q35
 refine .region λe h=>?_
 simp only[seval,EMI,q35,hb34]
 cases h
 simp only[seval,FMI,hb34]
 refine .region λe h=>?_
 simp only[seval,EMI,hb34]
 cases h
 simp only[seval,FMI,hb34]
 intro v2
 refine Mir.toK (.cond rfl (λhb37=>?_) (λhb37=>?_))
 refine .skip (Mir.toK (.block (.bind λs1 q38=>?_)))
 replace q38:=cutT_ok q38
 refine .region λe h=>?_
 simp only[seval,EMI,q38,zN,and_true,true_and,dm,tm]
 cases h
 simp only[seval,FMI]
 refine .exit QI
 intro v3
 refine Mir.toK (.sI ?_)
 refine .ret QI
def eO(a0:Bool)(a1:(List Int)):Option aq:=bindO (jR a1) λ(y1:(List Int))=>some (aq.mk (a0&&(decide ((y1.length:Int)>0))) y1)
theorem jr{a0:Bool}{a1:(List Int)}{y:aq}(h:eO a0 a1=some y):Spec gP 59 [.d (.bool a0),.d (.list (zA (eInt .u32) a1))] (.agg [.d (.bool y.Neg),.d (.list (zA (eInt .u32) y.Limbs))]):=by
 refine auI Tryz.func59 (λy:aq=>.agg [.d (.bool y.Neg),.d (.list (zA (eInt .u32) y.Limbs))]) ?_ h
 unfold eO
 refine .sI ?_
 refine .seqK (.bind λy1 hy1=>.region λe h=>WI ?_)
 refine .byI (r01_trim_spec hy1) (mI ?_ h)
 refine .seqK (.joinV ([U,U,U,U,.ptr 0 0]++us 10) ⟨[[.d (.bool (a0&&(decide ((y1.length:Int)>0)))),.d (.list (zA (eInt .u32) y1))]],[]⟩ rfl ?_ ?_)
 refine SWs.region ?_
 rcases zH (a0)with hb2 | hb2
 simp only[seval,EMI,SL,PB,hb2]
 simp only[seval,EMI,SL,PB,hb2]
 refine Mir.toK (.ret QI)
def dz(a0:Int):Option aq:=if (decide (a0<0))=true then bindO (gY (zU.wrap (0-(zU.wrap a0)))) λ(y1:(List Int))=>bindO (eO true y1) λ(y2:aq)=>some y2 else bindO (gY (zU.wrap a0)) λ(y3:(List Int))=>bindO (eO false y3) λ(y4:aq)=>some y4
theorem gw{a0:Int}{y:aq}(h:dz a0=some y):Spec gP 19 [.d (.int .i64 a0)] (.agg [.d (.bool y.Neg),.d (.list (zA (eInt .u32) y.Limbs))]):=by
 refine auI Tryz.func19 (λy:aq=>.agg [.d (.bool y.Neg),.d (.list (zA (eInt .u32) y.Limbs))]) ?_ h
 unfold dz
 refine .sI ?_
 refine .seqK (.sI ?_)
 refine .cond rfl (λhb4=>?_) (λhb4=>?_)
 refine .seqK (.bind λy1 hy5=>.bind λy2 hy6=>.region λe h=>WI ?_)
 refine .byI (kw hy5) (WI ?_)
 refine .byI (jr hy6) (mI ?_ h)
 refine .ret QI
 refine .skip (Mir.toK (.seqK (.bind λy3 hy7=>.bind λy4 hy8=>.region λe h=>WI ?_)))
 refine .byI (kw hy7) (WI ?_)
 refine .byI (jr hy8) (mI ?_ h)
 refine .ret QI
end Go.Proofs.YtgbafiejgciilaaGreatDoor
