import Derived.Test.YtgbafiejgciilaaGreatDoorG1
import Derived.Test.YtgbafiejgciilaaGreatDoorTy
import Derived.Test.YtgbafiejgciilaaGreatDoorMI
open And renaming intro → zA
open List renaming map → zB
namespace Go.Proofs.YtgbafiejgciilaaGreatDoor
set_option linter.defProp false
open Go.RowKit
open Nat renaming reduceAdd → nA,reduceSub → nS,reduceMul → nM,reduceEqDiff → nE,reduceLeDiff → nL,reduceLT → nT,reduceBEq → nB
open Int renaming reduceLT → iT,reduceToNat → iN,reduceEq → iE
set_option linter.unusedVariables false
set_option linter.unusedSimpArgs false
set_option maxRecDepth 100000
set_option maxHeartbeats 8000000
structure aH where
 Num:aq
 Den:aq
 deriving DecidableEq
def encApiRat(x:aH):List D:=[.bool x.Num.Neg,.list (zB (eInt .u32) x.Num.Limbs),.bool x.Den.Neg,.list (zB (eInt .u32) x.Den.Limbs)]
abbrev cF(x:aH):List V:=[.d (.bool x.Num.Neg),.d (.list (zB (eInt .u32) x.Num.Limbs)),.d (.bool x.Den.Neg),.d (.list (zB (eInt .u32) x.Den.Limbs))]
def ENMQ:=@encApiRat.eq_1
def TMQ:=zA @Tryz.ntmps102<|zA @Tryz.ntmps104<|zA @Tryz.ntmps20<|zA @Tryz.ntmps23<|zA @Tryz.ntmps25<|zA @Tryz.ntmps26<|zA @Tryz.ntmps28<|zA @Tryz.ntmps30<|zA @Tryz.ntmps31<|zA @Tryz.ntmps6<|zA @Tryz.ntmps61<|zA @Tryz.ntmps62<|zA @Tryz.ntmps63<|zA @Tryz.ntmps65<|zA @Tryz.ntmps66<|zA @Tryz.ntmps99<|zA @Tryz.results102<|zA @Tryz.results104<|zA @Tryz.results20<|zA @Tryz.results23<|zA @Tryz.results25<|zA @Tryz.results26<|zA @Tryz.results28<|zA @Tryz.results30<|zA @Tryz.results31<|zA @Tryz.results6<|zA @Tryz.results61<|zA @Tryz.results62<|zA @Tryz.results63<|zA @Tryz.results65<|zA @Tryz.results66<|zA @Tryz.results99<|zA @ag_43<|zA @fld_43_0<|zA @fld_43_1<|zA @pl_43<|zA @sz_43<|@zero_43
def EMQ:=zA @EMI<|zA @ENMQ<|@TMQ
def FMQ:=zA @FMI<|zA @ENMQ<|@TMQ
theorem QQ{α:Type}{x:α}{p:α→Prop}(e:p x:=by simp only[seval,FMQ]):∀y,some x=some y→p y:=λ_ i=>Option.some.inj i▸e
theorem WQ{p q:Prop}(h:q)(e:p=q:=by simp only[seval,EMQ];rfl):p:=Eq.mpr e h
theorem mQ{P:Program}{g:Pg P}{fr:Fr}{s:Sg}{ε:Type}{Φ:ε→SQ}{m:Option ε}{c:Code}{e:ε}{p:Prop}(h:Mir g c fr s m Φ)(i:m=some e)(w:p=SWs g c (Φ e) fr s:=by simp only[seval,EMQ];rfl):p:=Eq.mpr w (h e i)
theorem Mir.sQ{P:Program}{g g':Pg P}{fr fr':Fr}{s s':Sg}{ε:Type}{Φ:ε→SQ}{m:Option ε}{id:Nat}{ops:Array Oper}{k c:Code}(h:Mir g' c fr' s' m Φ)(e:∀e,regS g false ops ops.toList fr s (kQ g k Φ e .normal)=SWs g' c (Φ e) fr' s':=by intro e;simp only[seval,EMQ];rfl):Mir g (.seq (.region id ops false) k) fr s m Φ:=Mir.sR λy i=>Eq.mpr (e y) (h y i)
theorem SpecS.byQ{P:Program}{g:Pg P}{f:FuncId}{args:List V}{s:Sg}{R:V→Sg→Prop}{r:V}{args':List V}(h:Spec g f args' r)(hR:R r s)(ha:args.map V.clean=args':=by simp only[seval,FMQ]):SpecS g f args s R:=SpecS.by h ha hR
theorem auQ{P:Program}{g:Pg P}{f:FuncId}{fn:Func}{c:Code}(hf:P.funcs[f]? = some fn){args:List V}{ρ:Type}(en:ρ→V){m:Option ρ}{fr:Fr}(h:Mir g c fr ⟨[],[]⟩ m (fnQ g fn.results.toList en)){y:ρ}(hy:m=some y)(hb:fn.body=some c:=by rfl)(he:bj P f=true:=by kernel_rfl)(hd:bP c=true:=by kernel_rfl)(e:args++List.replicate (fn.ntmps-args.length) .undef=fr:=by simp only[List.replicate,List.length,nS,nA,SV,TMQ];rfl):Spec g f args (en y):=d4 hf hb he hd en (e▸h) hy
def ra_unit :Option aq:=bindO (bf 1) λ(y1:aq)=>some y1
theorem ra_unit_spec {y:aq}(h:ra_unit=some y):Spec gP 99 [] (.agg [.d (.bool y.Neg),.d (.list (zB (eInt .u32) y.Limbs))]):=by
 refine auQ Tryz.func99 (λy:aq=>.agg [.d (.bool y.Neg),.d (.list (zB (eInt .u32) y.Limbs))]) ?_ h
 unfold ra_unit
 refine .sQ ?_
 refine .seqK (.bind λy1 hy1=>.region λe h=>WQ ?_)
 refine .byQ (aX hy1) (mQ ?_ h)
 refine .ret QQ
def ra_exact(a0:aq)(a1:aq):Option aq:=bindO (fZ a0 a1) λ(y1:aq×aq×Int)=>some y1.1
theorem ra_exact_spec{a0:aq}{a1:aq}{y:aq}(h:ra_exact a0 a1=some y):Spec gP 102 [.agg (cP a0),.agg (cP a1)] (.agg [.d (.bool y.Neg),.d (.list (zB (eInt .u32) y.Limbs))]):=by
 refine auQ Tryz.func102 (λy:aq=>.agg [.d (.bool y.Neg),.d (.list (zB (eInt .u32) y.Limbs))]) ?_ h
 unfold ra_exact
 refine .sQ ?_
 refine .seqK (.bind λy1 hy1=>.region λe h=>WQ ?_)
 refine .byQ (kE hy1) (mQ ?_ h)
 refine .sQ ?_
 refine .ret QQ
def dQ(a0:aq)(a1:aq):Option aH:=bindO (kY a1) λ(y1:Int)=>bindO (if (decide (y1<0))=true then bindO (jd a0) λ(y2:aq)=>bindO (jd a1) λ(y3:aq)=>some (y2,y3)else some (a0,a1)) λ(v1:aq×aq)=>bindO (it_GCD v1.1 v1.2) λ(y4:aq)=>bindO (ra_unit ) λ(y5:aq)=>bindO (gC y4 y5) λ(y6:Int)=>bindO (if (y6 != 0)=true then bindO (ra_exact v1.1 y4) λ(y7:aq)=>bindO (ra_exact v1.2 y4) λ(y8:aq)=>some (y7,y8)else some (v1.1,v1.2)) λ(v2:aq×aq)=>some (aH.mk v2.1 v2.2)
theorem gK{a0:aq}{a1:aq}{y:aH}(h:dQ a0 a1=some y):Spec gP 63 [.agg (cP a0),.agg (cP a1)] (.agg [.d (.bool y.Num.Neg),.d (.list (zB (eInt .u32) y.Num.Limbs)),.d (.bool y.Den.Neg),.d (.list (zB (eInt .u32) y.Den.Limbs))]):=by
 refine auQ Tryz.func63 (λy:aH=>.agg [.d (.bool y.Num.Neg),.d (.list (zB (eInt .u32) y.Num.Limbs)),.d (.bool y.Den.Neg),.d (.list (zB (eInt .u32) y.Den.Limbs))]) ?_ h
 unfold dQ
 refine .sQ ?_
 refine .seqK (.seqK (.bind λy1 hy1=>.region λe h=>WQ ?_))
 refine .byQ (it_Sign_spec hy1) (mQ ?_ h)
 refine Mir.joinO (λv1:aq×aq=>([U,U,.ptr 0 0,.ptr 1 0,.ptr 2 0]++us 24)) (λv1=>⟨[(cP v1.1),(cP v1.2),[.d (.bool false),.nil,.d (.bool false),.nil]],[]⟩) (λ_=>rfl) ?_ ?_
 refine .cond rfl (λhb5=>?_) (λhb5=>?_)
 refine .bind λy2 hy6=>.bind λy3 hy7=>.regionD [] (by kernel_rfl) λe h=>?_
 simp only[seval,EMQ,SB]
 refine Spec.by (eP hy6) (by simp only[seval,FMQ]) ?_
 simp only[seval,EMQ,SB]
 refine Spec.by (eP hy7) (by simp only[seval,FMQ]) ?_
 simp only[seval,EMQ,SB]
 cases h
 simp only[seval,FMQ]
 refine .skip QQ
 intro v1
 refine Mir.toK (.seqK (.seqK (.bind λy4 hy8=>.region λe h=>WQ ?_)))
 refine .byQ (it_GCD_spec hy8) (mQ ?_ h)
 refine .seqK (.bind λy5 hy9=>.bind λy6 hy10=>.regionD [] (by kernel_rfl) λe h=>?_)
 simp only[seval,EMQ,SB]
 refine Spec.by (ra_unit_spec hy9) (rfl) ?_
 simp only[seval,EMQ,SB]
 refine Spec.by (cV hy10) (by simp only[seval,FMQ]) ?_
 simp only[seval,EMQ,SB]
 refine mU e (Mir.joinO (λv2:aq×aq=>([U,U,.ptr 0 0,.ptr 1 0,.ptr 2 0]++us 24)) (λv2=>⟨[(cP v2.1),(cP v2.2),[.d (.bool false),.nil,.d (.bool false),.nil],(cP y4)],[]⟩) (λ_=>rfl) ?_ ?_) h
 refine .cond rfl (λhb14=>?_) (λhb14=>?_)
 refine .bind λy7 hy15=>.bind λy8 hy16=>.regionD [] (by kernel_rfl) λe h=>?_
 simp only[seval,EMQ,SB]
 refine Spec.by (ra_exact_spec hy15) (by simp only[seval,FMQ]) ?_
 simp only[seval,EMQ,SB]
 refine Spec.by (ra_exact_spec hy16) (by simp only[seval,FMQ]) ?_
 simp only[seval,EMQ,SB]
 cases h
 simp only[seval,FMQ]
 refine .skip QQ
 intro v2
 refine Mir.toK (.sQ ?_)
 refine .ret QQ
def ra_Mul(a0:aH)(a1:aH):Option aH:=bindO (ft a0.Num a1.Num) λ(y1:aq)=>bindO (ft a0.Den a1.Den) λ(y2:aq)=>bindO (dQ y1 y2) λ(y3:aH)=>some y3
theorem kP{a0:aH}{a1:aH}{y:aH}(h:ra_Mul a0 a1=some y):Spec gP 26 [.agg (cF a0),.agg (cF a1)] (.agg [.d (.bool y.Num.Neg),.d (.list (zB (eInt .u32) y.Num.Limbs)),.d (.bool y.Den.Neg),.d (.list (zB (eInt .u32) y.Den.Limbs))]):=by
 refine auQ Tryz.func26 (λy:aH=>.agg [.d (.bool y.Num.Neg),.d (.list (zB (eInt .u32) y.Num.Limbs)),.d (.bool y.Den.Neg),.d (.list (zB (eInt .u32) y.Den.Limbs))]) ?_ h
 unfold ra_Mul
 refine .sQ ?_
 refine .seqK (.bind λy1 hy1=>.bind λy2 hy2=>.bind λy3 hy3=>.regionD [] (by kernel_rfl) λe h=>?_)
 simp only[seval,EMQ,SB]
 refine Spec.by (ec hy1) (by simp only[seval,FMQ]) ?_
 simp only[seval,EMQ,SB]
 refine Spec.by (ec hy2) (by simp only[seval,FMQ]) ?_
 simp only[seval,EMQ,SB]
 refine Spec.by (gK hy3) (by simp only[seval,FMQ]) ?_
 simp only[seval,EMQ,SB]
 refine mU e (.ret QQ) h
def ra_whole(a0:aq):Option aH:=bindO (ra_unit ) λ(y1:aq)=>some (aH.mk a0 y1)
theorem ra_whole_spec{a0:aq}{y:aH}(h:ra_whole a0=some y):Spec gP 61 [.agg (cP a0)] (.agg [.d (.bool y.Num.Neg),.d (.list (zB (eInt .u32) y.Num.Limbs)),.d (.bool y.Den.Neg),.d (.list (zB (eInt .u32) y.Den.Limbs))]):=by
 refine auQ Tryz.func61 (λy:aH=>.agg [.d (.bool y.Num.Neg),.d (.list (zB (eInt .u32) y.Num.Limbs)),.d (.bool y.Den.Neg),.d (.list (zB (eInt .u32) y.Den.Limbs))]) ?_ h
 unfold ra_whole
 refine .sQ ?_
 refine .seqK (.bind λy1 hy1=>.regionD [] (by kernel_rfl) λe h=>?_)
 simp only[seval,EMQ,SB]
 refine Spec.by (ra_unit_spec hy1) (rfl) ?_
 simp only[seval,EMQ,SB]
 refine mU e (.ret QQ) h
def bn(a0:Int):Option aH:=bindO (bf a0) λ(y1:aq)=>bindO (ra_whole y1) λ(y2:aH)=>some y2
theorem bt{a0:Int}{y:aH}(h:bn a0=some y):Spec gP 23 [.d (.int .i64 a0)] (.agg [.d (.bool y.Num.Neg),.d (.list (zB (eInt .u32) y.Num.Limbs)),.d (.bool y.Den.Neg),.d (.list (zB (eInt .u32) y.Den.Limbs))]):=by
 refine auQ Tryz.func23 (λy:aH=>.agg [.d (.bool y.Num.Neg),.d (.list (zB (eInt .u32) y.Num.Limbs)),.d (.bool y.Den.Neg),.d (.list (zB (eInt .u32) y.Den.Limbs))]) ?_ h
 unfold bn
 refine .sQ ?_
 refine .seqK (.bind λy1 hy1=>.bind λy2 hy2=>.region λe h=>WQ ?_)
 refine .byQ (aX hy1) (WQ ?_)
 refine .byQ (ra_whole_spec hy2) (mQ ?_ h)
 refine .ret QQ
def ra_Neg(a0:aH):Option aH:=bindO (jd a0.Num) λ(y1:aq)=>some (aH.mk y1 a0.Den)
theorem iH{a0:aH}{y:aH}(h:ra_Neg a0=some y):Spec gP 31 [.agg (cF a0)] (.agg [.d (.bool y.Num.Neg),.d (.list (zB (eInt .u32) y.Num.Limbs)),.d (.bool y.Den.Neg),.d (.list (zB (eInt .u32) y.Den.Limbs))]):=by
 refine auQ Tryz.func31 (λy:aH=>.agg [.d (.bool y.Num.Neg),.d (.list (zB (eInt .u32) y.Num.Limbs)),.d (.bool y.Den.Neg),.d (.list (zB (eInt .u32) y.Den.Limbs))]) ?_ h
 unfold ra_Neg
 refine .sQ ?_
 refine .seqK (.bind λy1 hy1=>.regionD [] (by kernel_rfl) λe h=>?_)
 simp only[seval,EMQ,SB]
 refine Spec.by (eP hy1) (by simp only[seval,FMQ]) ?_
 simp only[seval,EMQ,SB]
 refine mU e (.ret QQ) h
def ra_Add(a0:aH)(a1:aH):Option aH:=bindO (gC a0.Den a1.Den) λ(y1:Int)=>if (y1==0)=true then bindO (kF a0.Num a1.Num) λ(y2:aq)=>bindO (dQ y2 a0.Den) λ(y3:aH)=>some y3 else bindO (ft a0.Num a1.Den) λ(y4:aq)=>bindO (ft a1.Num a0.Den) λ(y5:aq)=>bindO (kF y4 y5) λ(y6:aq)=>bindO (ft a0.Den a1.Den) λ(y7:aq)=>bindO (dQ y6 y7) λ(y8:aH)=>some y8
theorem ra_Add_spec{a0:aH}{a1:aH}{y:aH}(h:ra_Add a0 a1=some y):Spec gP 62 [.agg (cF a0),.agg (cF a1)] (.agg [.d (.bool y.Num.Neg),.d (.list (zB (eInt .u32) y.Num.Limbs)),.d (.bool y.Den.Neg),.d (.list (zB (eInt .u32) y.Den.Limbs))]):=by
 refine auQ Tryz.func62 (λy:aH=>.agg [.d (.bool y.Num.Neg),.d (.list (zB (eInt .u32) y.Num.Limbs)),.d (.bool y.Den.Neg),.d (.list (zB (eInt .u32) y.Den.Limbs))]) ?_ h
 unfold ra_Add
 refine .sQ ?_
 refine .seqK (.seqK (.bind λy1 hy1=>.region λe h=>WQ ?_))
 refine .byQ (cV hy1) (mQ ?_ h)
 refine .cond rfl (λhb5=>?_) (λhb5=>?_)
 refine .seqK (.bind λy2 hy6=>.bind λy3 hy7=>.regionD [] (by kernel_rfl) λe h=>?_)
 simp only[seval,EMQ,SB]
 refine Spec.by (iS hy6) (by simp only[seval,FMQ]) ?_
 simp only[seval,EMQ,SB]
 refine Spec.by (gK hy7) (by simp only[seval,FMQ]) ?_
 simp only[seval,EMQ,SB]
 refine mU e (.ret QQ) h
 refine .skip (Mir.toK (.seqK (.bind λy4 hy8=>.bind λy5 hy9=>.bind λy6 hy10=>.bind λy7 hy11=>.bind λy8 hy12=>.regionD [] (by kernel_rfl) λe h=>?_)))
 simp only[seval,EMQ,SB]
 refine Spec.by (ec hy8) (by simp only[seval,FMQ]) ?_
 simp only[seval,EMQ,SB]
 refine Spec.by (ec hy9) (by simp only[seval,FMQ]) ?_
 simp only[seval,EMQ,SB]
 refine Spec.by (iS hy10) (by simp only[seval,FMQ]) ?_
 simp only[seval,EMQ,SB]
 refine Spec.by (ec hy11) (by simp only[seval,FMQ]) ?_
 simp only[seval,EMQ,SB]
 refine Spec.by (gK hy12) (by simp only[seval,FMQ]) ?_
 simp only[seval,EMQ,SB]
 refine mU e (.ret QQ) h
def ra_Sub(a0:aH)(a1:aH):Option aH:=bindO (ra_Neg a1) λ(y1:aH)=>bindO (ra_Add a0 y1) λ(y2:aH)=>some y2
theorem kO{a0:aH}{a1:aH}{y:aH}(h:ra_Sub a0 a1=some y):Spec gP 25 [.agg (cF a0),.agg (cF a1)] (.agg [.d (.bool y.Num.Neg),.d (.list (zB (eInt .u32) y.Num.Limbs)),.d (.bool y.Den.Neg),.d (.list (zB (eInt .u32) y.Den.Limbs))]):=by
 refine auQ Tryz.func25 (λy:aH=>.agg [.d (.bool y.Num.Neg),.d (.list (zB (eInt .u32) y.Num.Limbs)),.d (.bool y.Den.Neg),.d (.list (zB (eInt .u32) y.Den.Limbs))]) ?_ h
 unfold ra_Sub
 refine .sQ ?_
 refine .seqK (.bind λy1 hy1=>.bind λy2 hy2=>.regionD [] (by kernel_rfl) λe h=>?_)
 simp only[seval,EMQ,SB]
 refine Spec.by (iH hy1) (by simp only[seval,FMQ]) ?_
 simp only[seval,EMQ,SB]
 refine Spec.by (ra_Add_spec hy2) (by simp only[seval,FMQ]) ?_
 simp only[seval,EMQ,SB]
 refine mU e (.ret QQ) h
def gv(a0:aH):Option aq:=bindO (fZ a0.Num a0.Den) λ(y1:aq×aq×Int)=>some y1.1
theorem iI{a0:aH}{y:aq}(h:gv a0=some y):Spec gP 30 [.agg (cF a0)] (.agg [.d (.bool y.Neg),.d (.list (zB (eInt .u32) y.Limbs))]):=by
 refine auQ Tryz.func30 (λy:aq=>.agg [.d (.bool y.Neg),.d (.list (zB (eInt .u32) y.Limbs))]) ?_ h
 unfold gv
 refine .sQ ?_
 refine .seqK (.bind λy1 hy1=>.region λe h=>WQ ?_)
 refine .byQ (kE hy1) (mQ ?_ h)
 refine .sQ ?_
 refine .ret QQ
def ra_Sign(a0:aH):Option Int:=bindO (kY a0.Num) λ(y1:Int)=>some y1
theorem ra_Sign_spec{a0:aH}{y:Int}(h:ra_Sign a0=some y):Spec gP 66 [.agg (cF a0)] (.d (.int .i64 y)):=by
 refine auQ Tryz.func66 (λy:Int=>.d (.int .i64 y)) ?_ h
 unfold ra_Sign
 refine .sQ ?_
 refine .seqK (.bind λy1 hy1=>.region λe h=>WQ ?_)
 refine .byQ (it_Sign_spec hy1) (mQ ?_ h)
 refine .ret QQ
def eL(a0:Int):Option Bool:=some (a0 != a0)
theorem gF{a0:Int}{y:Bool}(h:eL a0=some y):Spec gP 104 [.d (.int .i64 a0)] (.d (.bool y)):=by
 refine auQ Tryz.func104 (λy:Bool=>.d (.bool y)) ?_ h
 unfold eL
 refine .sQ ?_
 refine .sQ ?_
 refine .ret QQ
def du(a0:Int)(a1:Int):Option Int:=bindO (eL a0) λ(y1:Bool)=>bindO (eL a1) λ(y2:Bool)=>if y1=true then if y2=true then some 0 else some (-1)else if y2=true then some 1 else if (decide (a0<a1))=true then some (-1)else if (decide (a0>a1))=true then some 1 else some 0
theorem kj{a0:Int}{a1:Int}{y:Int}(h:du a0 a1=some y):Spec gP 65 [.d (.int .i64 a0),.d (.int .i64 a1)] (.d (.int .i64 y)):=by
 refine auQ Tryz.func65 (λy:Int=>.d (.int .i64 y)) ?_ h
 unfold du
 refine .sQ ?_
 refine .seqK (.bind λy1 hy1=>.region λe h=>WQ ?_)
 refine .byQ (gF hy1) (mQ ?_ h)
 refine .seqK (.bind λy2 hy2=>.region λe h=>WQ ?_)
 refine .byQ (gF hy2) (mQ ?_ h)
 refine .seqK (.sQ ?_)
 refine .cond rfl (λhb6=>?_) (λhb6=>?_)
 refine .seqK (.sQ ?_)
 refine .cond rfl (λhb8=>?_) (λhb8=>?_)
 refine .sQ ?_
 refine .ret QQ
 refine .skip (Mir.toK (.sQ ?_))
 refine .ret QQ
 refine .skip (Mir.toK (.seqK (.sQ ?_)))
 refine .cond rfl (λhb10=>?_) (λhb10=>?_)
 refine .sQ ?_
 refine .ret QQ
 refine .skip (Mir.toK (.seqK (.sQ ?_)))
 refine .cond rfl (λhb12=>?_) (λhb12=>?_)
 refine .sQ ?_
 refine .ret QQ
 refine .skip (Mir.toK (.seqK (.sQ ?_)))
 refine .cond rfl (λhb14=>?_) (λhb14=>?_)
 refine .sQ ?_
 refine .ret QQ
 refine .skip (Mir.toK (.sQ ?_))
 refine .ret QQ
def ra_Cmp(a0:aH)(a1:aH):Option Int:=bindO (ra_Sign a0) λ(y1:Int)=>bindO (ra_Sign a1) λ(y2:Int)=>bindO (du y1 y2) λ(y3:Int)=>if (y3 != 0)=true then some y3 else bindO (ft a0.Num a1.Den) λ(y4:aq)=>bindO (ft a1.Num a0.Den) λ(y5:aq)=>bindO (gC y4 y5) λ(y6:Int)=>some y6
theorem kR{a0:aH}{a1:aH}{y:Int}(h:ra_Cmp a0 a1=some y):Spec gP 28 [.agg (cF a0),.agg (cF a1)] (.d (.int .i64 y)):=by
 refine auQ Tryz.func28 (λy:Int=>.d (.int .i64 y)) ?_ h
 unfold ra_Cmp
 refine .sQ ?_
 refine .seqK (.seqK (.bind λy1 hy1=>.bind λy2 hy2=>.bind λy3 hy3=>.regionD [] (by kernel_rfl) λe h=>?_))
 simp only[seval,EMQ,SB]
 refine Spec.by (ra_Sign_spec hy1) (by simp only[seval,FMQ]) ?_
 simp only[seval,EMQ,SB]
 refine Spec.by (ra_Sign_spec hy2) (by simp only[seval,FMQ]) ?_
 simp only[seval,EMQ,SB]
 refine Spec.by (kj hy3) (by simp only[seval,FMQ]) ?_
 simp only[seval,EMQ,SB]
 refine mU e (.sQ ?_) h
 refine .cond rfl (λhb5=>?_) (λhb5=>?_)
 refine .sQ ?_
 refine .ret QQ
 refine .skip (Mir.toK (.seqK (.bind λy4 hy6=>.bind λy5 hy7=>.bind λy6 hy8=>.regionD [] (by kernel_rfl) λe h=>?_)))
 simp only[seval,EMQ,SB]
 refine Spec.by (ec hy6) (by simp only[seval,FMQ]) ?_
 simp only[seval,EMQ,SB]
 refine Spec.by (ec hy7) (by simp only[seval,FMQ]) ?_
 simp only[seval,EMQ,SB]
 refine Spec.by (cV hy8) (by simp only[seval,FMQ]) ?_
 simp only[seval,EMQ,SB]
 refine mU e (.ret QQ) h
def r02_unit :Option aq:=bindO (dz 1) λ(y1:aq)=>some y1
theorem r02_unit_spec {y:aq}(h:r02_unit=some y):Spec gP 20 [] (.agg [.d (.bool y.Neg),.d (.list (zB (eInt .u32) y.Limbs))]):=by
 refine auQ Tryz.func20 (λy:aq=>.agg [.d (.bool y.Neg),.d (.list (zB (eInt .u32) y.Limbs))]) ?_ h
 unfold r02_unit
 refine .sQ ?_
 refine .seqK (.bind λy1 hy1=>.region λe h=>WQ ?_)
 refine .byQ (gw hy1) (mQ ?_ h)
 refine .ret QQ
def cR(a0:Int):Option aH:=bindO (dz a0) λ(y1:aq)=>bindO (r02_unit ) λ(y2:aq)=>some (aH.mk y1 y2)
theorem eB{a0:Int}{y:aH}(h:cR a0=some y):Spec gP 6 [.d (.int .i64 a0)] (.agg [.d (.bool y.Num.Neg),.d (.list (zB (eInt .u32) y.Num.Limbs)),.d (.bool y.Den.Neg),.d (.list (zB (eInt .u32) y.Den.Limbs))]):=by
 refine auQ Tryz.func6 (λy:aH=>.agg [.d (.bool y.Num.Neg),.d (.list (zB (eInt .u32) y.Num.Limbs)),.d (.bool y.Den.Neg),.d (.list (zB (eInt .u32) y.Den.Limbs))]) ?_ h
 unfold cR
 refine .sQ ?_
 refine .seqK (.bind λy1 hy1=>.bind λy2 hy2=>.region λe h=>WQ ?_)
 refine .byQ (gw hy1) (WQ ?_)
 refine SpecS.by (r02_unit_spec hy2) (rfl) ?_
 simp only[seval,EMQ]
 refine mU e (.ret QQ) h
end Go.Proofs.YtgbafiejgciilaaGreatDoor
