import Derived.Test.YtgbafiejgciilaaGreatDoorG1
import Derived.Test.YtgbafiejgciilaaGreatDoorTy
import Derived.Test.YtgbafiejgciilaaGreatDoorSzz
import Derived.Test.YtgbafiejgciilaaGreatDoorSzk
import Derived.Test.YtgbafiejgciilaaGreatDoorGog
import Derived.Test.YtgbafiejgciilaaGreatDoorMI
import Derived.Test.YtgbafiejgciilaaGreatDoorMQ
import Derived.Test.YtgbafiejgciilaaGreatDoorMB
import Derived.Test.YtgbafiejgciilaaGreatDoorMH
import Derived.Test.YtgbafiejgciilaaGreatDoorMwe
open List renaming map → zA,replicate → zH,length → zI
open And renaming intro → zB
open Bool renaming eq_false_or_eq_true → zD
open Int renaming tmod → zE,toNat_natCast → zG
open Nat renaming le_refl → zF
open Go.IntKind renaming i64 → zJ
namespace Go.Proofs.YtgbafiejgciilaaGreatDoor
set_option linter.defProp false
open Go.RowKit
open Nat renaming reduceAdd → nA,reduceSub → nS,reduceMul → nM,reduceEqDiff → nE,reduceLeDiff → nL,reduceLT → nT,reduceBEq → nB
open Int renaming reduceLT → iT,reduceToNat → iN,reduceEq → iE
set_option linter.unusedVariables false
set_option linter.unusedSimpArgs false
set_option maxRecDepth 100000
set_option maxHeartbeats 8000000
structure Arr3I16 where
 e0:Int
 e1:Int
 e2:Int
 deriving DecidableEq
def bX(x:Arr3I16):List D:=[.int .i16 x.e0,.int .i16 x.e1,.int .i16 x.e2]
structure Arr2I16 where
 e0:Int
 e1:Int
 deriving DecidableEq
def encArr2I16(x:Arr2I16):List D:=[.int .i16 x.e0,.int .i16 x.e1]
structure ct where
 Corner:Arr2I16
 By:Arr2I16
 Surface:Int
 Radius:Int
 Ways:(List Arr3I16)
 deriving DecidableEq
def gD(x:ct):List D:=[.int .i16 x.Corner.e0,.int .i16 x.Corner.e1,.int .i16 x.By.e0,.int .i16 x.By.e1,.int .i16 x.Surface,.int .u8 x.Radius,.list (zA bX x.Ways)]
abbrev cE(x:ct):List V:=[.d (.int .i16 x.Corner.e0),.d (.int .i16 x.Corner.e1),.d (.int .i16 x.By.e0),.d (.int .i16 x.By.e1),.d (.int .i16 x.Surface),.d (.int .u8 x.Radius),.d (.list (zA bX x.Ways))]
def ENMLTopProbed:=zB @bX.eq_1<|zB @encArr2I16.eq_1<|@gD.eq_1
def jJ:=zB @Tryz.ntmps3<|zB @Tryz.ntmps7<|zB @Tryz.results3<|zB @Tryz.results7<|zB @ag_27<|zB @ag_28<|zB @ag_30<|zB @ag_62<|zB @al_ApiBlock<|zB @app_60<|zB @fld_32_0<|zB @fld_32_1<|zB @fld_32_2<|zB @fld_32_3<|zB @fld_32_4<|zB @pl_56<|zB @pl_59<|zB @sz_27<|zB @sz_28<|zB @sz_29<|zB @sz_30<|zB @sz_62<|zB @und_28<|zB @und_29<|zB @und_30<|zB @und_62<|@zero_62
def ak:=zB @EMW<|zB @ENMLTopProbed<|@jJ
def av:=zB @FMW<|zB @ENMLTopProbed<|@jJ
theorem QL{α:Type}{x:α}{p:α→Prop}(e:p x:=by simp only[seval,av]):∀y,some x=some y→p y:=λ_ i=>Option.some.inj i▸e
theorem WL{p q:Prop}(h:q)(e:p=q:=by simp only[seval,ak];rfl):p:=Eq.mpr e h
theorem mL{P:Program}{g:Pg P}{fr:Fr}{s:Sg}{ε:Type}{Φ:ε→SQ}{m:Option ε}{c:Code}{e:ε}{p:Prop}(h:Mir g c fr s m Φ)(i:m=some e)(w:p=SWs g c (Φ e) fr s:=by simp only[seval,ak];rfl):p:=Eq.mpr w (h e i)
theorem Mir.sL{P:Program}{g g':Pg P}{fr fr':Fr}{s s':Sg}{ε:Type}{Φ:ε→SQ}{m:Option ε}{id:Nat}{ops:Array Oper}{k c:Code}(h:Mir g' c fr' s' m Φ)(e:∀e,regS g false ops ops.toList fr s (kQ g k Φ e .normal)=SWs g' c (Φ e) fr' s':=by intro e;simp only[seval,ak];rfl):Mir g (.seq (.region id ops false) k) fr s m Φ:=Mir.sR λy i=>Eq.mpr (e y) (h y i)
theorem SpecS.byL{P:Program}{g:Pg P}{f:FuncId}{args:List V}{s:Sg}{R:V→Sg→Prop}{r:V}{args':List V}(h:Spec g f args' r)(hR:R r s)(ha:args.map V.clean=args':=by simp only[seval,av]):SpecS g f args s R:=SpecS.by h ha hR
theorem auL{P:Program}{g:Pg P}{f:FuncId}{fn:Func}{c:Code}(hf:P.funcs[f]? = some fn){args:List V}{ρ:Type}(en:ρ→V){m:Option ρ}{fr:Fr}(h:Mir g c fr ⟨[],[]⟩ m (fnQ g fn.results.toList en)){y:ρ}(hy:m=some y)(hb:fn.body=some c:=by rfl)(he:bj P f=true:=by kernel_rfl)(hd:bP c=true:=by kernel_rfl)(e:args++List.replicate (fn.ntmps-args.length) .undef=fr:=by simp only[List.replicate,List.length,nS,nA,SV,jJ];rfl):Spec g f args (en y):=d4 hf hb he hd en (e▸h) hy
def fU(a0:aa)(a2:Int)(a3:aH)(a4:Int)(a5:Int):Option (aa×Int):=bindO (cn 0 a2 a4) λ(y1:Int)=>if ((y1 != 0)||(decide (a5<0)))=true then some (aa.mk 0 0 0,1)else bindO (eE a0) λ(y2:Bool)=>if (!y2)=true then some (aa.mk 0 0 0,11)else bindO (bn a2) λ(y3:aH)=>bindO (some ()) λ(v1:Unit)=>bindO (ra_Mul y3 a3) λ(y4:aH)=>bindO (d6 0 a4) λ(y5:Int)=>bindO (bn y5) λ(y6:aH)=>bindO (ra_Sub y4 y6) λ(y7:aH)=>bindO (bn (zJ.wrap (a2*a0.X))) λ(y8:aH)=>bindO (ra_Cmp y8 y7) λ(y9:Int)=>if (decide (y9≥0))=true then some (a0,0)else bindO (ra_Neg y7) λ(y10:aH)=>bindO (gv y10) λ(y11:aq)=>bindO (jd y11) λ(y12:aq)=>bindO (bf (zJ.wrap (a2*a0.X))) λ(y13:aq)=>bindO (it_Sub y12 y13) λ(y14:aq)=>bindO (bf a5) λ(y15:aq)=>bindO (gC y14 y15) λ(y16:Int)=>if (decide (y16>0))=true then some (aa.mk 0 0 0,4)else bindO (iR y12) λ(y17:Int×Bool)=>bindO (if y17.2=true then bindO (pb_in y17.1) λ(y18:Bool)=>some (!y18)else some true) λ(v2:Bool)=>if v2=true then some (aa.mk 0 0 0,11)else some (aa.mk (zJ.wrap (a2*y17.1)) a0.Y a0.Z,0)
theorem pb_Touch_k0_spec{a0:aa}{a2:Int}{a3:aH}{a4:Int}{a5:Int}{y:aa×Int}(h:fU a0 a2 a3 a4 a5=some y):Spec gP 7 [.agg (cH a0),.d (.int .i64 0),.d (.int .i64 a2),.agg (cF a3),.d (.int .i64 a4),.d (.int .i64 a5)] (.tuple [.agg [.d (.int .i64 y.1.X),.d (.int .i64 y.1.Y),.d (.int .i64 y.1.Z)],.d (.int .i64 y.2)]):=by
 refine auL Tryz.func7 (λy:aa×Int=>.tuple [.agg [.d (.int .i64 y.1.X),.d (.int .i64 y.1.Y),.d (.int .i64 y.1.Z)],.d (.int .i64 y.2)]) ?_ h
 unfold fU
 refine .sL ?_
 refine .seqK (.seqK (.bind λy1 hy1=>.region λe h=>WL ?_))
 refine .byL (bL hy1) (mL ?_ h)
 refine .seqK (.joinV ([U,.d (.int .i64 0),.d (.int .i64 a2),U,.d (.int .i64 a4),.d (.int .i64 a5),.ptr 0 0,U,U,.ptr 1 0,U,U,.ptr 2 0,U,U,U,U,U,U,U,U,U,U,U,U,U,U,U,U,U,U,U,.d (.bool ((y1 != 0)||(decide (a5<0))))]++us 61) ⟨[(cH a0),(cF a3),[.d (.int .i64 0),.d (.int .i64 0),.d (.int .i64 0)]],[]⟩ rfl ?_ ?_)
 refine SWs.region ?_
 rcases zD (y1 != 0)with hb2 | hb2
 simp only[seval,ak,SL,PB,hb2]
 simp only[seval,ak,SL,PB,hb2]
 refine Mir.toK (.cond rfl (λhb4=>?_) (λhb4=>?_))
 refine .sL ?_
 refine .ret QL
 refine .skip (Mir.toK (.seqK (.seqK (.bind λy2 hy5=>.region λe h=>WL ?_))))
 refine .byL (dS hy5) (mL ?_ h)
 refine .cond rfl (λhb7=>?_) (λhb7=>?_)
 refine .sL ?_
 refine .ret QL
 refine .skip (Mir.toK (.seqK (.bind λy3 hy8=>.region λe h=>WL ?_)))
 refine .byL (bt hy8) (mL ?_ h)
 refine .seqK (.bind λv1 hv9=>.region λe h=>WL ?_)
 refine SpecS.inl Tryz.func24 rfl (by kernel_rfl) (by kernel_rfl) (λv1:Unit=>.ptr 0 0) (λv1=>⟨[(cH a0),(cF a3),[.d (.int .i64 0),.d (.int .i64 0),.d (.int .i64 0)],(cF y3)],[]⟩) hv9 rfl ?_ ?_
 simp only[zH,zI,nS,nA,Tryz.ntmps24,SV]
 refine .sL ?_
 refine .seqK (.regionD [] (by kernel_rfl) λe h=>?_)
 simp only[seval,ak,SB,(oL 3)]
 refine mU e (.ret QL) h
 simp only[seval,ak]
 refine mU e (.sL ?_) h
 refine .seqK (.bind λy4 hy10=>.bind λy5 hy11=>.bind λy6 hy12=>.bind λy7 hy13=>.region λe h=>WL ?_)
 refine .byL (kP hy10) (WL ?_)
 refine .byL (bW hy11) (WL ?_)
 refine .byL (bt hy12) (WL ?_)
 refine .byL (kO hy13) (mL ?_ h)
 refine .seqK (.seqK (.bind λy8 hy14=>.bind λy9 hy15=>.regionD [] (by kernel_rfl) λe h=>?_))
 simp only[seval,ak,SB]
 refine Spec.by (bt hy14) (by simp only[seval,av]) ?_
 simp only[seval,ak,SB]
 refine Spec.by (kR hy15) (by simp only[seval,av]) ?_
 simp only[seval,ak,SB]
 refine mU e (.cond rfl (λhb17=>?_) (λhb17=>?_)) h
 refine .sL ?_
 refine .ret QL
 refine .skip (Mir.toK (.seqK (.bind λy10 hy18=>.bind λy11 hy19=>.bind λy12 hy20=>.region λe h=>WL ?_)))
 refine .byL (iH hy18) (WL ?_)
 refine .byL (iI hy19) (WL ?_)
 refine .byL (eP hy20) (mL ?_ h)
 refine .seqK (.bind λy13 hy21=>.bind λy14 hy22=>.regionD [] (by kernel_rfl) λe h=>?_)
 simp only[seval,ak,SB]
 refine Spec.by (aX hy21) (by simp only[seval,av]) ?_
 simp only[seval,ak,SB]
 refine Spec.by (iP hy22) (by simp only[seval,av]) ?_
 simp only[seval,ak,SB]
 refine mU e (.seqK (.seqK (.bind λy15 hy23=>.bind λy16 hy24=>.regionD [] (by kernel_rfl) λe h=>?_))) h
 simp only[seval,ak,SB]
 refine Spec.by (aX hy23) (by simp only[seval,av]) ?_
 simp only[seval,ak,SB]
 refine Spec.by (cV hy24) (by simp only[seval,av]) ?_
 simp only[seval,ak,SB]
 refine mU e (.cond rfl (λhb26=>?_) (λhb26=>?_)) h
 refine .sL ?_
 refine .ret QL
 refine .skip (Mir.toK (.seqK (.bind λy17 hy27=>.region λe h=>WL ?_)))
 refine .byL (iQ hy27) (mL ?_ h)
 refine .seqK (.seqK (Mir.joinO (λv2:Bool=>([U,U,.d (.int .i64 a2),U,U,U,.ptr 0 0,U,U,U,U,U,.ptr 2 0,U,U,U,.ptr 0 0,U,U,U,U,.d (.int .i64 y17.1),U,U,U,U,U,U,U,U,U,U,U,U,U,U,U,U,U,U,U,U,U,U,U,U,U,U,U,U,U,U,U,U,U,U,U,U,U,U,U,U,U,U,U,U,U,U,U,U,U,U,U,U,U,U,U,U,U,U,U,U,U,U,U,U,.d (.bool v2)]++us 7)) (λv2=>⟨[(cH a0),(cF a3),[.d (.int .i64 0),.d (.int .i64 0),.d (.int .i64 0)],(cF y3),(cF y7),(cP y12),(cP y14)],[]⟩) (λ_=>rfl) ?_ ?_))
 refine .ite (λhb28=>?_) (λhb28=>?_)
 refine .bind λy18 hy29=>.region λe h=>?_
 simp only[seval,ak,hb28]
 refine SpecS.by (bg hy29) (by simp only[seval,av,hb28]) ?_
 simp only[seval,ak,hb28]
 cases h
 simp only[seval,av,hb28]
 refine .region λe h=>?_
 simp only[seval,ak,hb28]
 cases h
 simp only[seval,av,hb28]
 intro v2
 refine Mir.toK (.cond rfl (λhb31=>?_) (λhb31=>?_))
 refine .sL ?_
 refine .ret QL
 refine .skip (Mir.toK (.sL ?_))
 refine .sL ?_
 refine .ret QL
def fT(a0:aa)(a2:Int)(a3:aH)(a4:Int)(a5:Int):Option (aa×Int):=bindO (cn 1 a2 a4) λ(y1:Int)=>if ((y1 != 0)||(decide (a5<0)))=true then some (aa.mk 0 0 0,1)else bindO (eE a0) λ(y2:Bool)=>if (!y2)=true then some (aa.mk 0 0 0,11)else bindO (bn a2) λ(y3:aH)=>bindO (some ()) λ(v1:Unit)=>bindO (ra_Mul y3 a3) λ(y4:aH)=>bindO (d6 1 a4) λ(y5:Int)=>bindO (bn y5) λ(y6:aH)=>bindO (ra_Sub y4 y6) λ(y7:aH)=>bindO (bn (zJ.wrap (a2*a0.Y))) λ(y8:aH)=>bindO (ra_Cmp y8 y7) λ(y9:Int)=>if (decide (y9≥0))=true then some (a0,0)else bindO (ra_Neg y7) λ(y10:aH)=>bindO (gv y10) λ(y11:aq)=>bindO (jd y11) λ(y12:aq)=>bindO (bf (zJ.wrap (a2*a0.Y))) λ(y13:aq)=>bindO (it_Sub y12 y13) λ(y14:aq)=>bindO (bf a5) λ(y15:aq)=>bindO (gC y14 y15) λ(y16:Int)=>if (decide (y16>0))=true then some (aa.mk 0 0 0,4)else bindO (iR y12) λ(y17:Int×Bool)=>bindO (if y17.2=true then bindO (pb_in y17.1) λ(y18:Bool)=>some (!y18)else some true) λ(v2:Bool)=>if v2=true then some (aa.mk 0 0 0,11)else some (aa.mk a0.X (zJ.wrap (a2*y17.1)) a0.Z,0)
theorem pb_Touch_k1_spec{a0:aa}{a2:Int}{a3:aH}{a4:Int}{a5:Int}{y:aa×Int}(h:fT a0 a2 a3 a4 a5=some y):Spec gP 7 [.agg (cH a0),.d (.int .i64 1),.d (.int .i64 a2),.agg (cF a3),.d (.int .i64 a4),.d (.int .i64 a5)] (.tuple [.agg [.d (.int .i64 y.1.X),.d (.int .i64 y.1.Y),.d (.int .i64 y.1.Z)],.d (.int .i64 y.2)]):=by
 refine auL Tryz.func7 (λy:aa×Int=>.tuple [.agg [.d (.int .i64 y.1.X),.d (.int .i64 y.1.Y),.d (.int .i64 y.1.Z)],.d (.int .i64 y.2)]) ?_ h
 unfold fT
 refine .sL ?_
 refine .seqK (.seqK (.bind λy1 hy1=>.region λe h=>WL ?_))
 refine .byL (bL hy1) (mL ?_ h)
 refine .seqK (.joinV ([U,.d (.int .i64 1),.d (.int .i64 a2),U,.d (.int .i64 a4),.d (.int .i64 a5),.ptr 0 0,U,U,.ptr 1 0,U,U,.ptr 2 0,U,U,U,U,U,U,U,U,U,U,U,U,U,U,U,U,U,U,U,.d (.bool ((y1 != 0)||(decide (a5<0))))]++us 61) ⟨[(cH a0),(cF a3),[.d (.int .i64 0),.d (.int .i64 0),.d (.int .i64 0)]],[]⟩ rfl ?_ ?_)
 refine SWs.region ?_
 rcases zD (y1 != 0)with hb2 | hb2
 simp only[seval,ak,SL,PB,hb2]
 simp only[seval,ak,SL,PB,hb2]
 refine Mir.toK (.cond rfl (λhb4=>?_) (λhb4=>?_))
 refine .sL ?_
 refine .ret QL
 refine .skip (Mir.toK (.seqK (.seqK (.bind λy2 hy5=>.region λe h=>WL ?_))))
 refine .byL (dS hy5) (mL ?_ h)
 refine .cond rfl (λhb7=>?_) (λhb7=>?_)
 refine .sL ?_
 refine .ret QL
 refine .skip (Mir.toK (.seqK (.bind λy3 hy8=>.region λe h=>WL ?_)))
 refine .byL (bt hy8) (mL ?_ h)
 refine .seqK (.bind λv1 hv9=>.region λe h=>WL ?_)
 refine SpecS.inl Tryz.func24 rfl (by kernel_rfl) (by kernel_rfl) (λv1:Unit=>.ptr 0 1) (λv1=>⟨[(cH a0),(cF a3),[.d (.int .i64 0),.d (.int .i64 0),.d (.int .i64 0)],(cF y3)],[]⟩) hv9 rfl ?_ ?_
 simp only[zH,zI,nS,nA,Tryz.ntmps24,SV]
 refine .sL ?_
 refine .seqK (.regionD [] (by kernel_rfl) λe h=>?_)
 simp only[seval,ak,SB,(oL 3)]
 refine mU e (.ret QL) h
 simp only[seval,ak]
 refine mU e (.sL ?_) h
 refine .seqK (.bind λy4 hy10=>.bind λy5 hy11=>.bind λy6 hy12=>.bind λy7 hy13=>.region λe h=>WL ?_)
 refine .byL (kP hy10) (WL ?_)
 refine .byL (bW hy11) (WL ?_)
 refine .byL (bt hy12) (WL ?_)
 refine .byL (kO hy13) (mL ?_ h)
 refine .seqK (.seqK (.bind λy8 hy14=>.bind λy9 hy15=>.regionD [] (by kernel_rfl) λe h=>?_))
 simp only[seval,ak,SB]
 refine Spec.by (bt hy14) (by simp only[seval,av]) ?_
 simp only[seval,ak,SB]
 refine Spec.by (kR hy15) (by simp only[seval,av]) ?_
 simp only[seval,ak,SB]
 refine mU e (.cond rfl (λhb17=>?_) (λhb17=>?_)) h
 refine .sL ?_
 refine .ret QL
 refine .skip (Mir.toK (.seqK (.bind λy10 hy18=>.bind λy11 hy19=>.bind λy12 hy20=>.region λe h=>WL ?_)))
 refine .byL (iH hy18) (WL ?_)
 refine .byL (iI hy19) (WL ?_)
 refine .byL (eP hy20) (mL ?_ h)
 refine .seqK (.bind λy13 hy21=>.bind λy14 hy22=>.regionD [] (by kernel_rfl) λe h=>?_)
 simp only[seval,ak,SB]
 refine Spec.by (aX hy21) (by simp only[seval,av]) ?_
 simp only[seval,ak,SB]
 refine Spec.by (iP hy22) (by simp only[seval,av]) ?_
 simp only[seval,ak,SB]
 refine mU e (.seqK (.seqK (.bind λy15 hy23=>.bind λy16 hy24=>.regionD [] (by kernel_rfl) λe h=>?_))) h
 simp only[seval,ak,SB]
 refine Spec.by (aX hy23) (by simp only[seval,av]) ?_
 simp only[seval,ak,SB]
 refine Spec.by (cV hy24) (by simp only[seval,av]) ?_
 simp only[seval,ak,SB]
 refine mU e (.cond rfl (λhb26=>?_) (λhb26=>?_)) h
 refine .sL ?_
 refine .ret QL
 refine .skip (Mir.toK (.seqK (.bind λy17 hy27=>.region λe h=>WL ?_)))
 refine .byL (iQ hy27) (mL ?_ h)
 refine .seqK (.seqK (Mir.joinO (λv2:Bool=>([U,U,.d (.int .i64 a2),U,U,U,.ptr 0 0,U,U,U,U,U,.ptr 2 0,U,U,U,.ptr 0 1,U,U,U,U,.d (.int .i64 y17.1),U,U,U,U,U,U,U,U,U,U,U,U,U,U,U,U,U,U,U,U,U,U,U,U,U,U,U,U,U,U,U,U,U,U,U,U,U,U,U,U,U,U,U,U,U,U,U,U,U,U,U,U,U,U,U,U,U,U,U,U,U,U,U,U,.d (.bool v2)]++us 7)) (λv2=>⟨[(cH a0),(cF a3),[.d (.int .i64 0),.d (.int .i64 0),.d (.int .i64 0)],(cF y3),(cF y7),(cP y12),(cP y14)],[]⟩) (λ_=>rfl) ?_ ?_))
 refine .ite (λhb28=>?_) (λhb28=>?_)
 refine .bind λy18 hy29=>.region λe h=>?_
 simp only[seval,ak,hb28]
 refine SpecS.by (bg hy29) (by simp only[seval,av,hb28]) ?_
 simp only[seval,ak,hb28]
 cases h
 simp only[seval,av,hb28]
 refine .region λe h=>?_
 simp only[seval,ak,hb28]
 cases h
 simp only[seval,av,hb28]
 intro v2
 refine Mir.toK (.cond rfl (λhb31=>?_) (λhb31=>?_))
 refine .sL ?_
 refine .ret QL
 refine .skip (Mir.toK (.sL ?_))
 refine .sL ?_
 refine .ret QL
def fS(a0:aa)(a2:Int)(a3:aH)(a4:Int)(a5:Int):Option (aa×Int):=bindO (cn 2 a2 a4) λ(y1:Int)=>if ((y1 != 0)||(decide (a5<0)))=true then some (aa.mk 0 0 0,1)else bindO (eE a0) λ(y2:Bool)=>if (!y2)=true then some (aa.mk 0 0 0,11)else bindO (bn a2) λ(y3:aH)=>bindO (some ()) λ(v1:Unit)=>bindO (ra_Mul y3 a3) λ(y4:aH)=>bindO (d6 2 a4) λ(y5:Int)=>bindO (bn y5) λ(y6:aH)=>bindO (ra_Sub y4 y6) λ(y7:aH)=>bindO (bn (zJ.wrap (a2*a0.Z))) λ(y8:aH)=>bindO (ra_Cmp y8 y7) λ(y9:Int)=>if (decide (y9≥0))=true then some (a0,0)else bindO (ra_Neg y7) λ(y10:aH)=>bindO (gv y10) λ(y11:aq)=>bindO (jd y11) λ(y12:aq)=>bindO (bf (zJ.wrap (a2*a0.Z))) λ(y13:aq)=>bindO (it_Sub y12 y13) λ(y14:aq)=>bindO (bf a5) λ(y15:aq)=>bindO (gC y14 y15) λ(y16:Int)=>if (decide (y16>0))=true then some (aa.mk 0 0 0,4)else bindO (iR y12) λ(y17:Int×Bool)=>bindO (if y17.2=true then bindO (pb_in y17.1) λ(y18:Bool)=>some (!y18)else some true) λ(v2:Bool)=>if v2=true then some (aa.mk 0 0 0,11)else some (aa.mk a0.X a0.Y (zJ.wrap (a2*y17.1)),0)
theorem pb_Touch_k2_spec{a0:aa}{a2:Int}{a3:aH}{a4:Int}{a5:Int}{y:aa×Int}(h:fS a0 a2 a3 a4 a5=some y):Spec gP 7 [.agg (cH a0),.d (.int .i64 2),.d (.int .i64 a2),.agg (cF a3),.d (.int .i64 a4),.d (.int .i64 a5)] (.tuple [.agg [.d (.int .i64 y.1.X),.d (.int .i64 y.1.Y),.d (.int .i64 y.1.Z)],.d (.int .i64 y.2)]):=by
 refine auL Tryz.func7 (λy:aa×Int=>.tuple [.agg [.d (.int .i64 y.1.X),.d (.int .i64 y.1.Y),.d (.int .i64 y.1.Z)],.d (.int .i64 y.2)]) ?_ h
 unfold fS
 refine .sL ?_
 refine .seqK (.seqK (.bind λy1 hy1=>.region λe h=>WL ?_))
 refine .byL (bL hy1) (mL ?_ h)
 refine .seqK (.joinV ([U,.d (.int .i64 2),.d (.int .i64 a2),U,.d (.int .i64 a4),.d (.int .i64 a5),.ptr 0 0,U,U,.ptr 1 0,U,U,.ptr 2 0,U,U,U,U,U,U,U,U,U,U,U,U,U,U,U,U,U,U,U,.d (.bool ((y1 != 0)||(decide (a5<0))))]++us 61) ⟨[(cH a0),(cF a3),[.d (.int .i64 0),.d (.int .i64 0),.d (.int .i64 0)]],[]⟩ rfl ?_ ?_)
 refine SWs.region ?_
 rcases zD (y1 != 0)with hb2 | hb2
 simp only[seval,ak,SL,PB,hb2]
 simp only[seval,ak,SL,PB,hb2]
 refine Mir.toK (.cond rfl (λhb4=>?_) (λhb4=>?_))
 refine .sL ?_
 refine .ret QL
 refine .skip (Mir.toK (.seqK (.seqK (.bind λy2 hy5=>.region λe h=>WL ?_))))
 refine .byL (dS hy5) (mL ?_ h)
 refine .cond rfl (λhb7=>?_) (λhb7=>?_)
 refine .sL ?_
 refine .ret QL
 refine .skip (Mir.toK (.seqK (.bind λy3 hy8=>.region λe h=>WL ?_)))
 refine .byL (bt hy8) (mL ?_ h)
 refine .seqK (.bind λv1 hv9=>.region λe h=>WL ?_)
 refine SpecS.inl Tryz.func24 rfl (by kernel_rfl) (by kernel_rfl) (λv1:Unit=>.ptr 0 2) (λv1=>⟨[(cH a0),(cF a3),[.d (.int .i64 0),.d (.int .i64 0),.d (.int .i64 0)],(cF y3)],[]⟩) hv9 rfl ?_ ?_
 simp only[zH,zI,nS,nA,Tryz.ntmps24,SV]
 refine .sL ?_
 refine .seqK (.regionD [] (by kernel_rfl) λe h=>?_)
 simp only[seval,ak,SB,(oL 3)]
 refine mU e (.ret QL) h
 simp only[seval,ak]
 refine mU e (.sL ?_) h
 refine .seqK (.bind λy4 hy10=>.bind λy5 hy11=>.bind λy6 hy12=>.bind λy7 hy13=>.region λe h=>WL ?_)
 refine .byL (kP hy10) (WL ?_)
 refine .byL (bW hy11) (WL ?_)
 refine .byL (bt hy12) (WL ?_)
 refine .byL (kO hy13) (mL ?_ h)
 refine .seqK (.seqK (.bind λy8 hy14=>.bind λy9 hy15=>.regionD [] (by kernel_rfl) λe h=>?_))
 simp only[seval,ak,SB]
 refine Spec.by (bt hy14) (by simp only[seval,av]) ?_
 simp only[seval,ak,SB]
 refine Spec.by (kR hy15) (by simp only[seval,av]) ?_
 simp only[seval,ak,SB]
 refine mU e (.cond rfl (λhb17=>?_) (λhb17=>?_)) h
 refine .sL ?_
 refine .ret QL
 refine .skip (Mir.toK (.seqK (.bind λy10 hy18=>.bind λy11 hy19=>.bind λy12 hy20=>.region λe h=>WL ?_)))
 refine .byL (iH hy18) (WL ?_)
 refine .byL (iI hy19) (WL ?_)
 refine .byL (eP hy20) (mL ?_ h)
 refine .seqK (.bind λy13 hy21=>.bind λy14 hy22=>.regionD [] (by kernel_rfl) λe h=>?_)
 simp only[seval,ak,SB]
 refine Spec.by (aX hy21) (by simp only[seval,av]) ?_
 simp only[seval,ak,SB]
 refine Spec.by (iP hy22) (by simp only[seval,av]) ?_
 simp only[seval,ak,SB]
 refine mU e (.seqK (.seqK (.bind λy15 hy23=>.bind λy16 hy24=>.regionD [] (by kernel_rfl) λe h=>?_))) h
 simp only[seval,ak,SB]
 refine Spec.by (aX hy23) (by simp only[seval,av]) ?_
 simp only[seval,ak,SB]
 refine Spec.by (cV hy24) (by simp only[seval,av]) ?_
 simp only[seval,ak,SB]
 refine mU e (.cond rfl (λhb26=>?_) (λhb26=>?_)) h
 refine .sL ?_
 refine .ret QL
 refine .skip (Mir.toK (.seqK (.bind λy17 hy27=>.region λe h=>WL ?_)))
 refine .byL (iQ hy27) (mL ?_ h)
 refine .seqK (.seqK (Mir.joinO (λv2:Bool=>([U,U,.d (.int .i64 a2),U,U,U,.ptr 0 0,U,U,U,U,U,.ptr 2 0,U,U,U,.ptr 0 2,U,U,U,U,.d (.int .i64 y17.1),U,U,U,U,U,U,U,U,U,U,U,U,U,U,U,U,U,U,U,U,U,U,U,U,U,U,U,U,U,U,U,U,U,U,U,U,U,U,U,U,U,U,U,U,U,U,U,U,U,U,U,U,U,U,U,U,U,U,U,U,U,U,U,U,.d (.bool v2)]++us 7)) (λv2=>⟨[(cH a0),(cF a3),[.d (.int .i64 0),.d (.int .i64 0),.d (.int .i64 0)],(cF y3),(cF y7),(cP y12),(cP y14)],[]⟩) (λ_=>rfl) ?_ ?_))
 refine .ite (λhb28=>?_) (λhb28=>?_)
 refine .bind λy18 hy29=>.region λe h=>?_
 simp only[seval,ak,hb28]
 refine SpecS.by (bg hy29) (by simp only[seval,av,hb28]) ?_
 simp only[seval,ak,hb28]
 cases h
 simp only[seval,av,hb28]
 refine .region λe h=>?_
 simp only[seval,ak,hb28]
 cases h
 simp only[seval,av,hb28]
 intro v2
 refine Mir.toK (.cond rfl (λhb31=>?_) (λhb31=>?_))
 refine .sL ?_
 refine .ret QL
 refine .skip (Mir.toK (.sL ?_))
 refine .sL ?_
 refine .ret QL
def fB(a0:cY)(a1:Int)(a2:ct):Option Bool:=bindO (bindO (fP ) λ(y1:Bool)=>if y1=true then if (decide ((a0.Lengths.length:Int)>10))=true then some true else if (decide ((a2.Ways.length:Int)>6))=true then some true else bindO (jq (cY.mk a0.Work a0.Lengths)) λ(y2:Int)=>some (y2 != 0)else some true) λ(v1:Bool)=>if v1=true then bindO (fP ) λ(y3:Bool)=>some y3 else bindO (aB (decide (0≤(zE a1 6)∧(zE a1 6)<6)) ( if ((zE a1 6)==0)=true then some a0.Work.e0 else if ((zE a1 6)==1)=true then some a0.Work.e1 else if ((zE a1 6)==2)=true then some a0.Work.e2 else if ((zE a1 6)==3)=true then some a0.Work.e3 else if ((zE a1 6)==4)=true then some a0.Work.e4 else some a0.Work.e5)) λ(v2:aa)=>if ((decide ((mmI true (mmI true v2.X v2.Y) v2.Z)>1000000))||(decide ((mmI false (mmI false v2.X v2.Y) v2.Z)<(-1000000))))=true then some true else bindO (cR (zJ.wrap ((zJ.wrap a2.Corner.e0)+(zJ.wrap a2.By.e0)))) λ(y4:aH)=>bindO (fU (aa.mk (zJ.wrap ((zJ.wrap ((zJ.wrap a2.Corner.e0)+(zJ.wrap a2.By.e0)))-9000)) 0 50) 1 y4 (zJ.wrap (1+(zJ.wrap a2.Radius))) 20000) λ(y5:aa×Int)=>bindO (cR (zJ.wrap ((zJ.wrap a2.Corner.e1)+(zJ.wrap a2.By.e1)))) λ(y6:aH)=>bindO (fT (aa.mk 0 (zJ.wrap ((zJ.wrap ((zJ.wrap a2.Corner.e1)+(zJ.wrap a2.By.e1)))+9000)) 50) (-1) y6 (zJ.wrap (1+(zJ.wrap a2.Radius))) 20000) λ(y7:aa×Int)=>bindO (cR (zJ.wrap a2.Surface)) λ(y8:aH)=>bindO (fS (aa.mk 0 0 (zJ.wrap ((zJ.wrap a2.Surface)+5000))) (-1) y8 (zJ.wrap (1+(zJ.wrap a2.Radius))) 20000) λ(y9:aa×Int)=>bindO (ju y5.1 y7.1 1 (-1) (zJ.wrap (1+(zJ.wrap a2.Radius)))) λ(y10:be×Int)=>if ((y5.2 != 0)||((y7.2 != 0)||((y9.2 != 0)||(y10.2 != 0))))=true then some false else bindO (fO (cY.mk a0.Work a0.Lengths)) λ(y11:al)=>bindO (ia y11 (zJ.wrap (54000+(zJ.wrap (1000*(zJ.wrap (zE a1 6)))))) (be.mk (zJ.wrap a2.Corner.e0) (zJ.wrap a2.Corner.e1)) y10.1) λ(y12:al×Int)=>bindO (g9 y12.1 (zJ.wrap (54000+(zJ.wrap (1000*(zJ.wrap (zE a1 6)))))) y9.1.Z) λ(y13:al×Int)=>if ((y12.2 != 0)||(y13.2 != 0))=true then some false else bindO (aB (okIdx a2.Ways) ( aS (λ(i1:Nat) (e1:Arr3I16) (v3:(List au)×(List aa))=>bindO (aB (okLen (v3.1.length+1)) ( bindO (if ((v3.2.length:Int)==0)=true then if (((zJ.wrap ((zJ.wrap (v2.X+(zJ.wrap a2.By.e0)))+(zJ.wrap e1.e0)))==0)&&(((zJ.wrap ((zJ.wrap (v2.Y+(zJ.wrap a2.By.e1)))+(zJ.wrap e1.e1)))==0)&&((zJ.wrap ((zJ.wrap a2.Surface)+(zJ.wrap e1.e2)))==0)))=true then if (decide ((v3.2.length:Int)>0))=true then bindO (gt v3.2 (zJ.wrap ((v3.2.length:Int)-1))) λ(e2:aa)=>some (!((e2.X==(zJ.wrap ((zJ.wrap (v2.X+(zJ.wrap a2.By.e0)))+(zJ.wrap e1.e0))))&&((e2.Y==(zJ.wrap ((zJ.wrap (v2.Y+(zJ.wrap a2.By.e1)))+(zJ.wrap e1.e1))))&&(e2.Z==(zJ.wrap ((zJ.wrap a2.Surface)+(zJ.wrap e1.e2)))))))else some false else some true else if (decide ((v3.2.length:Int)>0))=true then bindO (gt v3.2 (zJ.wrap ((v3.2.length:Int)-1))) λ(e3:aa)=>some (!((e3.X==(zJ.wrap ((zJ.wrap (v2.X+(zJ.wrap a2.By.e0)))+(zJ.wrap e1.e0))))&&((e3.Y==(zJ.wrap ((zJ.wrap (v2.Y+(zJ.wrap a2.By.e1)))+(zJ.wrap e1.e1))))&&(e3.Z==(zJ.wrap ((zJ.wrap a2.Surface)+(zJ.wrap e1.e2)))))))else some false) λ(v4:Bool)=>if v4=true then aB (okLen (v3.2.length+1)) ( some (v3.2++[aa.mk (zJ.wrap ((zJ.wrap (v2.X+(zJ.wrap a2.By.e0)))+(zJ.wrap e1.e0))) (zJ.wrap ((zJ.wrap (v2.Y+(zJ.wrap a2.By.e1)))+(zJ.wrap e1.e1))) (zJ.wrap ((zJ.wrap a2.Surface)+(zJ.wrap e1.e2)))]))else some v3.2)) λ(v5:(List aa))=>some (.go (v3.1++[au.mk false [aN.mk 88 (zJ.wrap e1.e0),aN.mk 89 (zJ.wrap e1.e1),aN.mk 90 (zJ.wrap e1.e2)] []],v5))) (λ(v3:(List au)×(List aa))=>some (v3.1,v3.2)) a2.Ways 0 ([au.mk false [aN.mk 71 (zJ.wrap (54000+(zJ.wrap (1000*(zJ.wrap (zE a1 6)))))),aN.mk 71 90000] []],[]))) λ(v6:(List au)×(List aa))=>aB (okLen (v6.1.length+1)) ( bindO (fM (v6.1++[au.mk false [aN.mk 77 30000] []]) y13.1 (aa.mk 0 0 0)) λ(y14:(List ah)×aW)=>if (!((y14.2.Block==(-1))&&(y14.2.Code==0))||((y14.1.length:Int) != (v6.2.length:Int)))=true then some false else bindX (aB (okIdx y14.1) ( aS (λ(i2:Nat) (e4:ah) (v7:Unit)=>bindO (gt v6.2 (i2:Int)) λ(e5:aa)=>if (!((e4.To.X==e5.X)&&((e4.To.Y==e5.Y)&&(e4.To.Z==e5.Z))))=true then some (.ret (.ret false))else some (.go ())) (λ(v7:Unit)=>some (.go ())) y14.1 0 ())) λ(v8:Unit)=>some true)
theorem top_TopProbed_spec{a0:cY}{a1:Int}{a2:ct}{y:Bool}(h:fB a0 a1 a2=some y):Spec gP 3 [.agg (w6 a0.Work [.d (.list (zA aL a0.Lengths))]),.d (.int .u8 a1),.agg (cE a2)] (.d (.bool y)):=by
 refine auL Tryz.func3 (λy:Bool=>.d (.bool y)) ?_ h
 unfold fB
 refine .sL ?_
 refine .sL ?_
 refine .seqK (.seqK (Mir.joinO (λv1:Bool=>([U,.d (.int .u8 a1),U,.ptr 0 0,U,.ptr 1 0,U,.d (.list (zA bX a2.Ways)),U,U,U,U,U,U,U,U,U,U,U,U,U,U,U,U,U,U,U,U,U,U,U,U,U,U,U,U,U,U,U,U,U,U,U,U,U,U,U,U,U,U,U,U,U,U,U,.d (.bool v1)]++us 258)) (λv1=>⟨[(w6 a0.Work [.d (.list (zA aL a0.Lengths))]),(cE a2)],[]⟩) (λ_=>rfl) ?_ ?_))
 refine .bind λy1 hy1=>.ite (λhb2=>?_) (λhb2=>?_)
 refine .ite (λhb3=>?_) (λhb3=>?_)
 refine .region λe h=>?_
 simp only[seval,ak,hb2,hb3]
 refine SpecS.by (cZ hy1) (rfl) ?_
 simp only[seval,ak,hb2,hb3]
 cases h
 simp only[seval,av,hb2,hb3]
 refine .ite (λhb4=>?_) (λhb4=>?_)
 refine .region λe h=>?_
 simp only[seval,ak,hb2,hb3,hb4]
 refine SpecS.by (cZ hy1) (rfl) ?_
 simp only[seval,ak,hb2,hb3,hb4]
 cases h
 simp only[seval,av,hb2,hb3,hb4]
 refine .bind λy2 hy5=>.region λe h=>?_
 simp only[seval,ak,hb2,hb3,hb4]
 refine SpecS.by (cZ hy1) (rfl) ?_
 simp only[seval,ak,hb2,hb3,hb4]
 refine SpecS.by (r45_Valid_spec hy5) (by simp only[seval,av,hb2,hb3,hb4]) ?_
 simp only[seval,ak,hb2,hb3,hb4]
 cases h
 simp only[seval,av,hb2,hb3,hb4]
 refine .region λe h=>?_
 simp only[seval,ak,hb2]
 refine SpecS.by (cZ hy1) (rfl) ?_
 simp only[seval,ak,hb2]
 cases h
 simp only[seval,av,hb2]
 intro v1
 refine Mir.toK (.cond rfl (λhb8=>?_) (λhb8=>?_))
 refine .seqK (.bind λy3 hy9=>.region λe h=>WL ?_)
 refine SpecS.by (cZ hy9) (rfl) ?_
 simp only[seval,ak]
 refine mU e (.ret QL) h
 refine .skip (Mir.toK (.sL ?_))
 refine .seqK (Mir.joinO (λv2:aa=>([U,U,U,.ptr 0 0,U,.ptr 1 0,U,.d (.list (zA bX a2.Ways)),.d (.int .i64 (zJ.wrap (54000+(zJ.wrap (1000*(zJ.wrap (zE a1 6))))))),.ptr 2 0]++us 304)) (λv2=>⟨[(w6 a0.Work [.d (.list (zA aL a0.Lengths))]),(cE a2),(cH v2)],[]⟩) (λ_=>rfl) ?_ ?_)
 refine .guard λqi10=>.ite (λhb11=>?_) (λhb11=>?_)
 refine .region λe h=>?_
 simp only[seval,ak,(eq_of_beq hb11),hb11]
 cases h
 simp only[seval,av,hb11]
 refine .ite (λhb12=>?_) (λhb12=>?_)
 refine .region λe h=>?_
 simp only[seval,ak,(eq_of_beq hb12),hb11,hb12]
 cases h
 simp only[seval,av,hb11,hb12]
 refine .ite (λhb13=>?_) (λhb13=>?_)
 refine .region λe h=>?_
 simp only[seval,ak,(eq_of_beq hb13),hb11,hb12,hb13]
 cases h
 simp only[seval,av,hb11,hb12,hb13]
 refine .ite (λhb14=>?_) (λhb14=>?_)
 refine .region λe h=>?_
 simp only[seval,ak,(eq_of_beq hb14),hb11,hb12,hb13,hb14]
 cases h
 simp only[seval,av,hb11,hb12,hb13,hb14]
 refine .ite (λhb15=>?_) (λhb15=>?_)
 refine .region λe h=>?_
 simp only[seval,ak,(eq_of_beq hb15),hb11,hb12,hb13,hb14,hb15]
 cases h
 simp only[seval,av,hb11,hb12,hb13,hb14,hb15]
 have hz16:zE a1 6=5:=by have h0:=of_decide_eq_true qi10;have h1:=aE hb11;have h2:=aE hb12;have h3:=aE hb13;have h4:=aE hb14;have h5:=aE hb15;omega
 refine .region λe h=>?_
 simp only[seval,ak,hz16,hb11,hb12,hb13,hb14,hb15]
 cases h
 simp only[seval,av,hb11,hb12,hb13,hb14,hb15]
 intro v2
 refine Mir.toK (.seqK (.seqK (.joinV ([U,U,U,.ptr 0 0,U,.ptr 1 0,U,.d (.list (zA bX a2.Ways)),.d (.int .i64 (zJ.wrap (54000+(zJ.wrap (1000*(zJ.wrap (zE a1 6))))))),.ptr 2 0,U,U,U,U,U,U,U,U,U,U,U,U,U,U,U,U,U,U,U,U,U,U,U,U,U,U,U,U,U,U,U,U,U,U,U,U,U,U,U,U,U,U,U,U,U,U,U,U,U,U,U,U,U,U,U,U,U,U,U,U,U,U,U,U,U,U,U,U,U,U,U,U,U,U,.d (.bool ((decide ((mmI true (mmI true v2.X v2.Y) v2.Z)>1000000))||(decide ((mmI false (mmI false v2.X v2.Y) v2.Z)<(-1000000)))))]++us 229) ⟨[(w6 a0.Work [.d (.list (zA aL a0.Lengths))]),(cE a2),(cH v2)],[]⟩ rfl ?_ ?_)))
 refine SWs.region ?_
 rcases zD (decide ((mmI true (mmI true v2.X v2.Y) v2.Z)>1000000))with hb17 | hb17
 simp only[seval,ak,SL,PB,hb17]
 simp only[seval,ak,SL,PB,hb17]
 refine Mir.toK (.cond rfl (λhb19=>?_) (λhb19=>?_))
 refine .sL ?_
 refine .ret QL
 refine .skip (Mir.toK (.sL ?_))
 refine .seqK (.regionD [] (by kernel_rfl) λe h=>?_)
 simp only[seval,ak,SB]
 refine mU e (.seqK (.regionD [] (by kernel_rfl) λe h=>?_)) h
 simp only[seval,ak,SB]
 refine mU e (.sL ?_) h
 refine .seqK (.bind λy4 hy20=>.bind λy5 hy21=>.region λe h=>WL ?_)
 refine .byL (eB hy20) (WL ?_)
 refine .byL (pb_Touch_k0_spec hy21) (mL ?_ h)
 refine .seqK (.bind λy6 hy22=>.bind λy7 hy23=>.region λe h=>WL ?_)
 refine .byL (eB hy22) (WL ?_)
 refine .byL (pb_Touch_k1_spec hy23) (mL ?_ h)
 refine .seqK (.bind λy8 hy24=>.bind λy9 hy25=>.regionD [] (by kernel_rfl) λe h=>?_)
 simp only[seval,ak,SB]
 refine Spec.by (eB hy24) (by simp only[seval,av]) ?_
 simp only[seval,ak,SB]
 refine Spec.by (pb_Touch_k2_spec hy25) (by simp only[seval,av]) ?_
 simp only[seval,ak,SB]
 refine mU e (.seqK (.bind λy10 hy26=>.region λe h=>WL ?_)) h
 refine .byL (pb_Corner_spec hy26) (mL ?_ h)
 refine .seqK (.seqK (.joinV ([U,U,U,.ptr 0 0,U,.ptr 1 0,U,.d (.list (zA bX a2.Ways)),.d (.int .i64 (zJ.wrap (54000+(zJ.wrap (1000*(zJ.wrap (zE a1 6))))))),.ptr 2 0,U,.d (.int .i64 (zJ.wrap a2.Corner.e0)),.d (.int .i64 (zJ.wrap a2.Corner.e1)),.d (.int .i64 (zJ.wrap a2.By.e0)),.d (.int .i64 (zJ.wrap a2.By.e1)),U,U,U,U,U,.ptr 5 0,U,.ptr 6 0,U,U,U,U,U,U,U,U,U,U,U,U,U,U,U,U,U,U,U,U,U,U,U,U,U,U,U,U,U,U,U,U,U,U,U,U,U,U,U,U,U,U,U,U,U,U,U,U,U,U,U,U,U,U,U,U,U,U,U,U,U,U,U,U,U,U,U,U,U,U,U,U,U,U,U,U,U,U,U,U,U,U,U,U,U,U,U,U,U,U,U,U,U,U,U,U,U,U,U,U,U,U,U,U,U,U,U,U,U,U,U,U,U,U,U,U,U,U,U,U,U,U,U,U,U,U,U,U,U,U,U,U,U,U,U,U,U,U,U,U,U,U,U,U,U,U,U,.d (.bool ((y5.2 != 0)||((y7.2 != 0)||((y9.2 != 0)||(y10.2 != 0)))))]++us 143) ⟨[(w6 a0.Work [.d (.list (zA aL a0.Lengths))]),(cE a2),(cH v2),(cH y5.1),(cH y7.1),(cH y9.1),(cN y10.1)],[]⟩ rfl ?_ ?_))
 refine SWs.region ?_
 rcases zD (y5.2 != 0)with hb27 | hb27
 simp only[seval,ak,SL,PB,hb27]
 rcases zD (y7.2 != 0)with hb28 | hb28
 simp only[seval,ak,SL,PB,hb27,hb28]
 rcases zD (y9.2 != 0)with hb29 | hb29
 simp only[seval,ak,SL,PB,hb27,hb28,hb29]
 simp only[seval,ak,SL,PB,hb27,hb28,hb29]
 refine Mir.toK (.cond rfl (λhb31=>?_) (λhb31=>?_))
 refine .sL ?_
 refine .ret QL
 refine .skip (Mir.toK (.seqK (.bind λy11 hy32=>.bind λy12 hy33=>.regionD [] (by kernel_rfl) λe h=>?_)))
 simp only[seval,ak,SB]
 refine Spec.by (top_table51_spec hy32) (by simp only[seval,av]) ?_
 simp only[seval,ak,SB]
 refine Spec.by (pb_Correct_spec hy33) (by simp only[seval,av]) ?_
 simp only[seval,ak,SB]
 refine mU e (.seqK (.bind λy13 hy34=>.region λe h=>WL ?_)) h
 refine .byL (pb_Surface_spec hy34) (mL ?_ h)
 refine .seqK (.seqK (.joinV ([U,U,U,U,U,.ptr 1 0,U,.d (.list (zA bX a2.Ways)),.d (.int .i64 (zJ.wrap (54000+(zJ.wrap (1000*(zJ.wrap (zE a1 6))))))),.ptr 2 0,U,U,U,.d (.int .i64 (zJ.wrap a2.By.e0)),.d (.int .i64 (zJ.wrap a2.By.e1)),U,U,U,U,U,U,U,U,U,U,.ptr 8 0,U,U,U,U,U,U,U,U,U,U,U,U,U,U,U,U,U,U,U,U,U,U,U,U,U,U,U,U,U,U,U,U,U,U,U,U,U,U,U,U,U,U,U,U,U,U,U,U,U,U,U,U,U,U,U,U,U,U,U,U,U,U,U,U,U,U,U,U,U,U,U,U,U,U,U,U,U,U,U,U,U,U,U,U,U,U,U,U,U,U,U,U,U,U,U,U,U,U,U,U,U,U,U,U,U,U,U,U,U,U,U,U,U,U,U,U,U,U,U,U,U,U,U,U,U,U,U,U,U,U,U,U,U,U,U,U,U,U,U,U,U,U,U,U,U,U,U,U,U,U,U,U,U,U,U,U,U,U,U,U,U,U,U,U,U,U,U,U,U,.d (.bool ((y12.2 != 0)||(y13.2 != 0)))]++us 118) ⟨[(w6 a0.Work [.d (.list (zA aL a0.Lengths))]),(cE a2),(cH v2),(cH y5.1),(cH y7.1),(cH y9.1),(cN y10.1),(w6 y12.1.Work [.d (.list (zA ag y12.1.Lengths))]),(w6 y13.1.Work [.d (.list (zA ag y13.1.Lengths))])],[]⟩ rfl ?_ ?_))
 refine SWs.region ?_
 rcases zD (y12.2 != 0)with hb35 | hb35
 simp only[seval,ak,SL,PB,hb35]
 simp only[seval,ak,SL,PB,hb35]
 refine Mir.toK (.cond rfl (λhb37=>?_) (λhb37=>?_))
 refine .sL ?_
 refine .ret QL
 refine .skip (Mir.toK (.seqK (.regionW λe h=>regW.alt 5 rfl ?_)))
 simp only[seval,ak,(oL 4)]
 refine alt_litOwn (es:=zA aU [au.mk false [aN.mk 71 (zJ.wrap (54000+(zJ.wrap (1000*(zJ.wrap (zE a1 6)))))),aN.mk 71 90000] []]) app_60 (by simp only[seval,ak,(oL 3)]) (by decide) (regW.of ?_)
 simp only[seval,ak,(oL 3)]
 refine mU e (.sL ?_) h
 refine .seqK (.sL ?_)
 refine .gh [.slot 27 23] rfl (Mir.joinO (λv6:(List au)×(List aa)=>([U,U,U,U,U,U,U,U,U,U,U,U,U,U,U,U,U,U,U,U,U,U,U,U,U,.ptr 8 0,.own 0 (zA aU v6.1),.own 1 (zA bH v6.2)]++us 286)) (λv6=>⟨[(w6 a0.Work [.d (.list (zA aL a0.Lengths))]),(cE a2),(cH v2),(cH y5.1),(cH y7.1),(cH y9.1),(cN y10.1),(w6 y12.1.Work [.d (.list (zA ag y12.1.Lengths))]),(w6 y13.1.Work [.d (.list (zA ag y13.1.Lengths))])],[(59,v6.1.length),(23,v6.2.length)]⟩) (λ_=>rfl) ?_ ?_)
 refine .block (.guard λq1=>Mir.range (λ(i1:Nat) (v3:(List au)×(List aa))=>([U,U,U,U,U,.ptr 1 0,U,U,U,.ptr 2 0,U,U,U,.d (.int .i64 (zJ.wrap a2.By.e0)),.d (.int .i64 (zJ.wrap a2.By.e1)),U,U,U,U,U,U,U,U,U,U,.ptr 8 0,.own 0 (zA aU v3.1),.own 1 (zA bH v3.2),U,U,U,U,U,U,U,U,U,U,U,U,U,U,U,U,U,U,U,U,U,U,U,U,U,U,U,U,U,U,U,U,U,U,U,U,U,U,U,U,U,U,U,U,U,U,U,U,U,U,U,U,U,U,U,U,U,U,U,U,U,U,U,U,U,U,U,U,U,U,U,U,U,U,U,U,U,U,U,U,U,U,U,U,U,U,U,U,U,U,U,U,U,U,U,U,U,U,U,U,U,U,U,U,U,U,U,U,U,U,U,U,U,U,U,U,U,U,U,U,U,U,U,U,U,U,U,U,U,U,U,U,U,U,U,U,U,U,U,U,U,U,U,U,U,U,U,U,U,U,U,U,U,U,U,U,U,U,U,U,U,U,U,U,U,U,U,U,U,U,U,U,U,U,.d (.list (zA bX a2.Ways)),.d (.int .i64 (a2.Ways.length:Int)),.d (.int .i64 (i1:Int))]++us 109)) (λi1 v3=>⟨[(w6 a0.Work [.d (.list (zA aL a0.Lengths))]),(cE a2),(cH v2),(cH y5.1),(cH y7.1),(cH y9.1),(cN y10.1),(w6 y12.1.Work [.d (.list (zA ag y12.1.Lengths))]),(w6 y13.1.Work [.d (.list (zA ag y13.1.Lengths))])],[(59,v3.1.length),(23,v3.2.length)]⟩) q1 (λ_ _=>rfl) (by simp only[seval,av,zNI]) (by simp only[seval,av,zNI]) ?_ ?_)
 intro i1 e1 v3 q2
 refine .sR λe h=>?_
 simp only[seval,ak,q2]
 refine mU e (.seqK (.condT rfl (.skip (Mir.toK (.seqK (Mir.joinO (λv5:(List aa)=>([U,U,U,U,U,.ptr 1 0,U,U,U,.ptr 2 0,U,U,U,.d (.int .i64 (zJ.wrap a2.By.e0)),.d (.int .i64 (zJ.wrap a2.By.e1)),U,U,U,U,U,U,U,U,U,U,.ptr 8 0,.own 0 (zA aU (v3.1++[au.mk false [aN.mk 88 (zJ.wrap e1.e0),aN.mk 89 (zJ.wrap e1.e1),aN.mk 90 (zJ.wrap e1.e2)] []])),.own 1 (zA bH v5),U,U,U,U,U,U,U,U,U,U,U,U,U,U,U,U,U,U,U,U,U,U,U,U,U,U,U,U,U,U,U,U,U,U,U,U,U,U,U,U,U,U,U,U,U,U,U,U,U,U,U,U,U,U,U,U,U,U,U,U,U,U,U,U,U,U,U,U,U,U,U,U,U,U,U,U,U,U,U,U,U,U,U,U,U,U,U,U,U,U,U,U,U,U,U,U,U,U,U,U,U,U,U,U,U,U,U,U,U,U,U,U,U,U,U,U,U,U,U,U,U,U,U,U,U,U,U,U,U,U,U,U,U,U,U,U,U,U,U,U,U,U,U,U,U,U,U,U,U,U,U,U,U,U,U,U,U,U,U,U,U,U,U,U,U,U,U,U,U,U,U,U,U,U,.d (.list (zA bX a2.Ways)),.d (.int .i64 (a2.Ways.length:Int)),.d (.int .i64 (i1:Int))]++us 109)) (λv5=>⟨[(w6 a0.Work [.d (.list (zA aL a0.Lengths))]),(cE a2),(cH v2),(cH y5.1),(cH y7.1),(cH y9.1),(cN y10.1),(w6 y12.1.Work [.d (.list (zA ag y12.1.Lengths))]),(w6 y13.1.Work [.d (.list (zA ag y13.1.Lengths))])],[(59,v3.1.length+1),(23,v5.length)]⟩) (λ_=>rfl) ?_ ?_)))))) h
 refine .block (.sR λe h=>?_)
 simp only[seval,ak,q2,zG]
 refine mU e (.seqK (.guard λq3=>.region λe h=>?_)) h
 simp only[seval,ak,(oL 6),(oL 3),q3]
 refine mU e (.sL ?_) h
 refine .sL ?_
 refine .seqK (Mir.joinO (λv4:Bool=>([U,U,U,U,U,.ptr 1 0,U,U,U,.ptr 2 0,U,U,U,.d (.int .i64 (zJ.wrap a2.By.e0)),.d (.int .i64 (zJ.wrap a2.By.e1)),U,U,U,U,U,U,U,U,U,U,.ptr 8 0,.own 0 (zA aU (v3.1++[au.mk false [aN.mk 88 (zJ.wrap e1.e0),aN.mk 89 (zJ.wrap e1.e1),aN.mk 90 (zJ.wrap e1.e2)] []])),.own 1 (zA bH v3.2),U,U,.ptr 10 0,U,U,U,U,U,U,U,U,U,U,U,U,U,U,U,U,U,U,U,U,U,U,U,U,U,U,U,U,U,U,U,U,U,U,U,U,U,U,U,U,U,U,U,U,U,U,U,U,U,U,U,U,U,U,U,U,U,U,U,U,U,U,U,U,U,U,U,U,U,U,U,U,U,U,U,U,U,U,U,U,U,U,U,U,U,U,U,U,U,U,U,U,U,U,U,U,U,U,U,U,U,U,U,U,U,U,U,U,U,U,U,U,U,U,U,U,U,U,U,U,U,U,U,U,U,U,U,U,U,U,U,U,U,U,U,U,U,U,U,U,U,U,U,U,U,U,U,U,U,U,U,U,U,U,U,U,U,U,U,U,U,U,U,U,U,U,U,U,U,U,U,.d (.list (zA bX a2.Ways)),.d (.int .i64 (a2.Ways.length:Int)),.d (.int .i64 (i1:Int)),U,U,U,U,U,U,U,U,U,U,U,U,U,U,U,U,U,U,U,U,U,U,U,U,U,U,U,U,U,U,U,U,U,U,U,U,U,U,U,U,U,U,U,U,U,U,U,U,U,U,U,U,U,U,U,U,U,U,U,U,U,U,U,U,U,.d (.bool v4)]++us 43)) (λv4=>⟨[(w6 a0.Work [.d (.list (zA aL a0.Lengths))]),(cE a2),(cH v2),(cH y5.1),(cH y7.1),(cH y9.1),(cN y10.1),(w6 y12.1.Work [.d (.list (zA ag y12.1.Lengths))]),(w6 y13.1.Work [.d (.list (zA ag y13.1.Lengths))]),[.d (.int .i16 e1.e0),.d (.int .i16 e1.e1),.d (.int .i16 e1.e2)],[.d (.int .i64 (zJ.wrap ((zJ.wrap (v2.X+(zJ.wrap a2.By.e0)))+(zJ.wrap e1.e0)))),.d (.int .i64 (zJ.wrap ((zJ.wrap (v2.Y+(zJ.wrap a2.By.e1)))+(zJ.wrap e1.e1)))),.d (.int .i64 (zJ.wrap ((zJ.wrap a2.Surface)+(zJ.wrap e1.e2))))]],[(59,v3.1.length+1),(23,v3.2.length)]⟩) (λ_=>rfl) ?_ ?_)
 refine .ite (λh6=>?_) (λh6=>?_)
 refine .ite (λh7=>?_) (λh7=>?_)
 refine .ite (λh8=>?_) (λh8=>?_)
 refine .bind λe2 q4=>?_
 replace q4:=gt_ok q4
 refine .regionD [] (by kernel_rfl) λe h=>?_
 simp only[seval,ak,SB,gE_23,q4,h6,h7,h8]
 cases h
 simp only[seval,av,h6,h7,h8]
 refine .regionD [] (by kernel_rfl) λe h=>?_
 simp only[seval,ak,SB,gE_23,h6,h7,h8]
 cases h
 simp only[seval,av,h6,h7,h8]
 refine .regionD [] (by kernel_rfl) λe h=>?_
 simp only[seval,ak,SB,gE_23,h6,h7]
 cases h
 simp only[seval,av,h6,h7]
 refine .ite (λh9=>?_) (λh9=>?_)
 refine .bind λe3 q5=>?_
 replace q5:=gt_ok q5
 refine .regionD [] (by kernel_rfl) λe h=>?_
 simp only[seval,ak,SB,q5,gE_23,h6,h9]
 cases h
 simp only[seval,av,h6,h9]
 refine .regionD [] (by kernel_rfl) λe h=>?_
 simp only[seval,ak,SB,h6,h9]
 cases h
 simp only[seval,av,h6,h9]
 intro v4
 refine Mir.toK (.cond rfl (λh10=>?_) (λh10=>?_))
 refine .guard λq6=>.region λe h=>?_
 simp only[seval,ak,(oL 3),q6]
 cases h
 simp only[seval,av]
 refine .skip QL
 intro v5
 refine Mir.toK (.region λe h=>?_)
 simp only[seval,ak]
 cases h
 simp only[seval,av,q2]
 intro v3 q7
 refine .sR λe h=>?_
 simp only[seval,ak,q7]
 refine mU e (.seqK (.condF rfl (.exit QL))) h
 intro v6
 refine Mir.toK (.seqK (.guard λq8=>.region λe h=>?_))
 simp only[seval,ak,(oL 2),(oL 3),q8]
 refine mU e (.seqK (.bind λy14 h11=>.region λe h=>WL ?_)) h
 refine .byL (inp_Blocks_spec h11) (mL ?_ h)
 refine .seqK (.seqK (.joinV ([U,U,U,U,U,U,U,U,U,U,U,U,U,U,U,U,U,U,U,U,U,U,U,U,U,U,U,.own 1 (zA bH v6.2),U,U,U,U,.d (.list (zA ac y14.1)),U,U,U,U,U,U,U,U,U,U,U,U,U,U,U,U,U,U,U,U,U,U,U,U,U,U,U,U,U,U,U,U,U,U,U,U,U,U,U,U,U,U,U,U,U,U,U,U,U,U,U,U,U,U,U,U,U,U,U,U,U,U,U,U,U,U,U,U,U,U,U,U,U,U,U,U,U,U,U,U,U,U,U,U,U,U,U,U,U,U,U,U,U,U,U,U,U,U,U,U,U,U,U,U,U,U,U,U,U,U,U,U,U,U,U,U,U,U,U,U,U,U,U,U,U,U,U,U,U,U,U,U,U,U,U,U,U,U,U,U,U,U,U,U,U,U,U,U,U,U,U,U,U,U,U,U,U,U,U,U,U,U,U,U,U,U,U,U,U,U,U,U,U,U,U,U,U,U,U,U,U,U,U,U,U,U,U,U,U,U,U,U,U,U,U,U,U,U,U,U,U,U,U,U,U,U,U,U,U,U,U,U,U,U,U,U,U,U,U,U,U,U,U,U,U,U,U,U,U,U,U,U,U,U,U,U,U,U,U,U,U,U,U,U,U,U,U,U,U,U,U,U,U,U,U,U,U,U,U,U,U,U,U,U,U,.d (.bool (!((y14.2.Block==(-1))&&(y14.2.Code==0))||((y14.1.length:Int) != (v6.2.length:Int))))]++us 15) ⟨[(w6 a0.Work [.d (.list (zA aL a0.Lengths))]),(cE a2),(cH v2),(cH y5.1),(cH y7.1),(cH y9.1),(cN y10.1),(w6 y12.1.Work [.d (.list (zA ag y12.1.Lengths))]),(w6 y13.1.Work [.d (.list (zA ag y13.1.Lengths))]),(cM y14.2)],[(59,v6.1.length+1),(23,v6.2.length)]⟩ rfl ?_ ?_))
 refine SWs.region ?_
 rcases zD ((y14.2.Block==(-1))&&(y14.2.Code==0))with h12 | h12
 simp only[seval,ak,SL,PB,gE_65,h12]
 simp only[seval,ak,SL,PB,gE_65,h12]
 refine Mir.toK (.cond rfl (λh13=>?_) (λh13=>?_))
 refine .sL ?_
 refine .ret QL
 refine .skip (Mir.toK (.seqK (.sL ?_)))
 refine Mir.join (λv8:Unit=>(us 314)) (λv8=>⟨[(w6 a0.Work [.d (.list (zA aL a0.Lengths))]),(cE a2),(cH v2),(cH y5.1),(cH y7.1),(cH y9.1),(cN y10.1),(w6 y12.1.Work [.d (.list (zA ag y12.1.Lengths))]),(w6 y13.1.Work [.d (.list (zA ag y13.1.Lengths))]),(cM y14.2)],[(59,v6.1.length+1),(23,v6.2.length)]⟩) (λ_=>rfl) ?_ ?_
 refine .block (.guard λq9=>Mir.range (λ(i2:Nat) (v7:Unit)=>([U,U,U,U,U,U,U,U,U,U,U,U,U,U,U,U,U,U,U,U,U,U,U,U,U,U,U,.own 1 (zA bH v6.2),U,U,U,U,U,U,U,U,U,U,U,U,U,U,U,U,U,U,U,U,U,U,U,U,U,U,U,U,U,U,U,U,U,U,U,U,U,U,U,U,U,U,U,U,U,U,U,U,U,U,U,U,U,U,U,U,U,U,U,U,U,U,U,U,U,U,U,U,U,U,U,U,U,U,U,U,U,U,U,U,U,U,U,U,U,U,U,U,U,U,U,U,U,U,U,U,U,U,U,U,U,U,U,U,U,U,U,U,U,U,U,U,U,U,U,U,U,U,U,U,U,U,U,U,U,U,U,U,U,U,U,U,U,U,U,U,U,U,U,U,U,U,U,U,U,U,U,U,U,U,U,U,U,U,U,U,U,U,U,U,U,U,U,U,U,U,U,U,U,U,U,U,U,U,U,U,U,U,U,U,U,U,U,U,U,U,U,U,U,U,U,U,U,U,U,U,U,U,U,U,U,U,U,U,U,U,U,U,U,U,U,U,U,U,U,U,U,U,U,U,U,U,U,U,U,U,U,U,U,U,U,U,U,U,U,U,U,U,U,U,U,U,U,U,U,U,U,U,U,U,U,U,U,U,U,U,U,U,U,U,U,U,U,U,U,U,U,U,U,U,U,.d (.list (zA ac y14.1)),.d (.int .i64 (y14.1.length:Int)),.d (.int .i64 (i2:Int))]++us 12)) (λi2 v7=>⟨[(w6 a0.Work [.d (.list (zA aL a0.Lengths))]),(cE a2),(cH v2),(cH y5.1),(cH y7.1),(cH y9.1),(cN y10.1),(w6 y12.1.Work [.d (.list (zA ag y12.1.Lengths))]),(w6 y13.1.Work [.d (.list (zA ag y13.1.Lengths))]),(cM y14.2)],[(59,v6.1.length+1),(23,v6.2.length)]⟩) q9 (λ_ _=>rfl) (by simp only[seval,av,zNI]) (by simp only[seval,av,zNI]) ?_ ?_)
 intro i2 e4 v7 q10
 refine .sR λe h=>?_
 simp only[seval,ak,q10]
 refine mU e (.seqK (.condT rfl (.skip (Mir.toK (.seqK (.block (.sR λe h=>?_))))))) h
 simp only[seval,ak,q10,zG]
 refine mU e (.seqK (.bind λe5 q11=>?_)) h
 replace q11:=gt_ok q11
 simp only[zG]at q11
 refine .regionD [] (by kernel_rfl) λe h=>?_
 simp only[seval,ak,SB,q11,zG,gE_23]
 refine mU e (.cond rfl (λh14=>?_) (λh14=>?_)) h
 refine .sL ?_
 refine .ret QL
 refine .skip (Mir.toB (Mir.toK (.region λe h=>?_)))
 simp only[seval,ak]
 cases h
 simp only[seval,av,q10]
 intro v7 q12
 refine .sR λe h=>?_
 simp only[seval,ak,q12]
 refine mU e (.seqK (.condF rfl (.exit QL))) h
 intro v8
 refine Mir.toK (.sL ?_)
 refine .ret QL
theorem co_2:Tryz.prog.cellsOf 2=1:=by kernel_rfl
theorem opn_2:Opn Tryz.prog 2 (eInt .i64) (inInt .i64):=Opn.int Tryz.underlying2
def iX(x:aa):Prop:=(inInt .i64) x.X∧(inInt .i64) x.Y∧(inInt .i64) x.Z
theorem co_23:Tryz.prog.cellsOf 23=3:=by kernel_rfl
theorem opn_23:Opn Tryz.prog 23 bH iX:=by
 intro w H enc fuel cs x h
 obtain⟨xs,n,_,_,hl,hxl,hf⟩:=DataW.trod_struct Tryz.underlying23 h
 have hxl':xs.length=3:=hxl
 obtain⟨s0,r0,o0⟩:=Opn.field hf 0 2 0 1 rfl co_2 (by omega) opn_2
 obtain⟨s1,r1,o1⟩:=Opn.field hf 1 2 1 1 rfl co_2 (by omega) opn_2
 obtain⟨s2,r2,o2⟩:=Opn.field hf 2 2 2 1 rfl co_2 (by omega) opn_2
 refine⟨⟨s0,s1,s2⟩,?_,o0,o1,o2⟩
 exact (RelC.cut 0 1 r0 rfl (RelC.cut 1 1 r1 rfl (RelC.cut 2 1 r2 rfl (RelC.nil (n:=3) (by rw[hl,co_23];exact zF _)))))
def inArr6ApiPos(x:aZ):Prop:=iX x.e0∧iX x.e1∧iX x.e2∧iX x.e3∧iX x.e4∧iX x.e5
theorem co_24:Tryz.prog.cellsOf 24=18:=by kernel_rfl
theorem opn_24:Opn Tryz.prog 24 encArr6ApiPos inArr6ApiPos:=by
 intro w H enc fuel cs x h
 obtain⟨xs,n,_,_,hl,hxl,hf⟩:=DataW.trod_array Tryz.underlying24 h
 obtain⟨s0,r0,o0⟩:=Opn.elem hf 0 3 co_23 (by omega) hxl opn_23
 obtain⟨s1,r1,o1⟩:=Opn.elem hf 1 3 co_23 (by omega) hxl opn_23
 obtain⟨s2,r2,o2⟩:=Opn.elem hf 2 3 co_23 (by omega) hxl opn_23
 obtain⟨s3,r3,o3⟩:=Opn.elem hf 3 3 co_23 (by omega) hxl opn_23
 obtain⟨s4,r4,o4⟩:=Opn.elem hf 4 3 co_23 (by omega) hxl opn_23
 obtain⟨s5,r5,o5⟩:=Opn.elem hf 5 3 co_23 (by omega) hxl opn_23
 refine⟨⟨s0,s1,s2,s3,s4,s5⟩,?_,o0,o1,o2,o3,o4,o5⟩
 exact (RelC.cut 0 3 r0 rfl (RelC.cut 3 3 r1 rfl (RelC.cut 6 3 r2 rfl (RelC.cut 9 3 r3 rfl (RelC.cut 12 3 r4 rfl (RelC.cut 15 3 r5 rfl (RelC.nil (n:=18) (by rw[hl,co_24];exact zF _))))))))
def k8(x:cu):Prop:=(inInt .i64) x.Number∧(inInt .i64) x.Length
theorem co_81:Tryz.prog.cellsOf 81=2:=by kernel_rfl
theorem opn_81:Opn Tryz.prog 81 aL k8:=by
 intro w H enc fuel cs x h
 obtain⟨xs,n,_,_,hl,hxl,hf⟩:=DataW.trod_struct Tryz.underlying81 h
 have hxl':xs.length=2:=hxl
 obtain⟨s0,r0,o0⟩:=Opn.field hf 0 2 0 1 rfl co_2 (by omega) opn_2
 obtain⟨s1,r1,o1⟩:=Opn.field hf 1 2 1 1 rfl co_2 (by omega) opn_2
 refine⟨⟨s0,s1⟩,?_,o0,o1⟩
 exact (RelC.cut 0 1 r0 rfl (RelC.cut 1 1 r1 rfl (RelC.nil (n:=2) (by rw[hl,co_81];exact zF _))))
theorem co_25:Tryz.prog.cellsOf 25=1:=by kernel_rfl
theorem opn_25:Opn Tryz.prog 25 (eList aL) (inList k8):=Opn.slice Tryz.underlying25 opn_81 (λ_=>(rfl:_=2).trans co_81.symm) (by rw[co_81];decide)
def inR45Table(x:cY):Prop:=inArr6ApiPos x.Work∧(inList k8) x.Lengths
theorem co_27:Tryz.prog.cellsOf 27=19:=by kernel_rfl
theorem opn_27:Opn Tryz.prog 27 encR45Table inR45Table:=by
 intro w H enc fuel cs x h
 obtain⟨xs,n,_,_,hl,hxl,hf⟩:=DataW.trod_struct Tryz.underlying27 h
 have hxl':xs.length=2:=hxl
 obtain⟨s0,r0,o0⟩:=Opn.field hf 0 24 0 18 rfl co_24 (by omega) opn_24
 obtain⟨s1,r1,o1⟩:=Opn.field hf 1 25 18 1 rfl co_25 (by omega) opn_25
 refine⟨⟨s0,s1⟩,?_,o0,o1⟩
 exact (RelC.cut 0 18 r0 rfl (RelC.cut 18 1 r1 rfl (RelC.nil (n:=19) (by rw[hl,co_27];exact zF _))))
theorem co_5:Tryz.prog.cellsOf 5=1:=by kernel_rfl
theorem opn_5:Opn Tryz.prog 5 (eInt .u8) (inInt .u8):=Opn.int Tryz.underlying5
theorem co_28:Tryz.prog.cellsOf 28=1:=by kernel_rfl
theorem opn_28:Opn Tryz.prog 28 (eInt .i16) (inInt .i16):=Opn.int Tryz.underlying28
def inArr2I16(x:Arr2I16):Prop:=(inInt .i16) x.e0∧(inInt .i16) x.e1
theorem co_29:Tryz.prog.cellsOf 29=2:=by kernel_rfl
theorem opn_29:Opn Tryz.prog 29 encArr2I16 inArr2I16:=by
 intro w H enc fuel cs x h
 obtain⟨xs,n,_,_,hl,hxl,hf⟩:=DataW.trod_array Tryz.underlying29 h
 obtain⟨s0,r0,o0⟩:=Opn.elem hf 0 1 co_28 (by omega) hxl opn_28
 obtain⟨s1,r1,o1⟩:=Opn.elem hf 1 1 co_28 (by omega) hxl opn_28
 refine⟨⟨s0,s1⟩,?_,o0,o1⟩
 exact (RelC.cut 0 1 r0 rfl (RelC.cut 1 1 r1 rfl (RelC.nil (n:=2) (by rw[hl,co_29];exact zF _))))
def inArr3I16(x:Arr3I16):Prop:=(inInt .i16) x.e0∧(inInt .i16) x.e1∧(inInt .i16) x.e2
theorem co_62:Tryz.prog.cellsOf 62=3:=by kernel_rfl
theorem opn_62:Opn Tryz.prog 62 bX inArr3I16:=by
 intro w H enc fuel cs x h
 obtain⟨xs,n,_,_,hl,hxl,hf⟩:=DataW.trod_array Tryz.underlying62 h
 obtain⟨s0,r0,o0⟩:=Opn.elem hf 0 1 co_28 (by omega) hxl opn_28
 obtain⟨s1,r1,o1⟩:=Opn.elem hf 1 1 co_28 (by omega) hxl opn_28
 obtain⟨s2,r2,o2⟩:=Opn.elem hf 2 1 co_28 (by omega) hxl opn_28
 refine⟨⟨s0,s1,s2⟩,?_,o0,o1,o2⟩
 exact (RelC.cut 0 1 r0 rfl (RelC.cut 1 1 r1 rfl (RelC.cut 2 1 r2 rfl (RelC.nil (n:=3) (by rw[hl,co_62];exact zF _)))))
theorem co_30:Tryz.prog.cellsOf 30=1:=by kernel_rfl
theorem opn_30:Opn Tryz.prog 30 (eList bX) (inList inArr3I16):=Opn.slice Tryz.underlying30 opn_62 (λ_=>(rfl:_=3).trans co_62.symm) (by rw[co_62];decide)
def iq(x:ct):Prop:=inArr2I16 x.Corner∧inArr2I16 x.By∧(inInt .i16) x.Surface∧(inInt .u8) x.Radius∧(inList inArr3I16) x.Ways
theorem co_32:Tryz.prog.cellsOf 32=7:=by kernel_rfl
theorem opn_32:Opn Tryz.prog 32 gD iq:=by
 intro w H enc fuel cs x h
 obtain⟨xs,n,_,_,hl,hxl,hf⟩:=DataW.trod_struct Tryz.underlying32 h
 have hxl':xs.length=5:=hxl
 obtain⟨s0,r0,o0⟩:=Opn.field hf 0 29 0 2 rfl co_29 (by omega) opn_29
 obtain⟨s1,r1,o1⟩:=Opn.field hf 1 29 2 2 rfl co_29 (by omega) opn_29
 obtain⟨s2,r2,o2⟩:=Opn.field hf 2 28 4 1 rfl co_28 (by omega) opn_28
 obtain⟨s3,r3,o3⟩:=Opn.field hf 3 5 5 1 rfl co_5 (by omega) opn_5
 obtain⟨s4,r4,o4⟩:=Opn.field hf 4 30 6 1 rfl co_30 (by omega) opn_30
 refine⟨⟨s0,s1,s2,s3,s4⟩,?_,o0,o1,o2,o3,o4⟩
 exact (RelC.cut 0 2 r0 rfl (RelC.cut 2 2 r1 rfl (RelC.cut 4 1 r2 rfl (RelC.cut 5 1 r3 rfl (RelC.cut 6 1 r4 rfl (RelC.nil (n:=7) (by rw[hl,co_32];exact zF _)))))))
end Go.Proofs.YtgbafiejgciilaaGreatDoor
