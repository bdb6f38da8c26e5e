/-
  MW, ME in one text.
-/
import Derived.Test.YtgbafiejgciilaaGreatDoorG1
import Derived.Test.YtgbafiejgciilaaGreatDoorTy
import Derived.Test.YtgbafiejgciilaaGreatDoorSzm2
import Derived.Test.YtgbafiejgciilaaGreatDoorGn
import Derived.Test.YtgbafiejgciilaaGreatDoorGz
import Derived.Test.YtgbafiejgciilaaGreatDoorSzz
import Derived.Test.YtgbafiejgciilaaGreatDoorSzk
import Derived.Test.YtgbafiejgciilaaGreatDoorMI
import Derived.Test.YtgbafiejgciilaaGreatDoorMQ
import Derived.Test.YtgbafiejgciilaaGreatDoorMB
import Derived.Test.YtgbafiejgciilaaGreatDoorMH
open List renaming map → zA,replicate → zE,length → zH
open And renaming intro → zB
open Nat renaming le_of_ble_eq_true → zD,zero_add → zJ
open Bool renaming eq_false_or_eq_true → zF
open Int renaming tdiv → zG,toNat_natCast → zI,tmod → zK
open Go.IntKind renaming i64 → zL
namespace Go.Proofs.YtgbafiejgciilaaGreatDoor
set_option linter.defProp false
open Go.RowKit
open Nat renaming reduceAdd → nA,reduceSub → nS,reduceMul → nM,reduceEqDiff → nE,reduceLeDiff → nL,reduceLT → nT,reduceBEq → nB
open Int renaming reduceLT → iT,reduceToNat → iN,reduceEq → iE
set_option linter.unusedVariables false
set_option linter.unusedSimpArgs false
set_option maxRecDepth 100000
set_option maxHeartbeats 8000000
structure az where
 Speed:Int
 Accel:Int
 Jerk:Int
 deriving DecidableEq
def encProfileLimits(x:az):List D:=[.int .i64 x.Speed,.int .i64 x.Accel,.int .i64 x.Jerk]
abbrev cJ(x:az):List V:=[.d (.int .i64 x.Speed),.d (.int .i64 x.Accel),.d (.int .i64 x.Jerk)]
structure aA where
 v:Int
 a:Int
 deriving DecidableEq
def encProfileState(x:aA):List D:=[.int .i64 x.v,.int .i64 x.a]
abbrev cQ(x:aA):List V:=[.d (.int .i64 x.v),.d (.int .i64 x.a)]
structure ar where
 motions:(List ah)
 limits:az
 index:Int
 part:Int
 plan:(List Int)
 at_:Int
 braking:Bool
 held:Bool
 broken:Bool
 pieces:(List ah)
 last:aa
 deriving DecidableEq
def i6(x:ar):List D:=[.list (zA ac x.motions),.int .i64 x.limits.Speed,.int .i64 x.limits.Accel,.int .i64 x.limits.Jerk,.int .i64 x.index,.int .i64 x.part,.list (zA (eInt .i64) x.plan),.int .i64 x.at_,.bool x.braking,.bool x.held,.bool x.broken,.list (zA ac x.pieces),.int .i64 x.last.X,.int .i64 x.last.Y,.int .i64 x.last.Z]
def ENMW:=zB @encProfileLimits.eq_1<|zB @encProfileState.eq_1<|@i6.eq_1
def TMW:=zB @Tryz.ntmps122<|zB @Tryz.ntmps123<|zB @Tryz.ntmps136<|zB @Tryz.ntmps137<|zB @Tryz.ntmps138<|zB @Tryz.ntmps150<|zB @Tryz.ntmps16<|zB @Tryz.ntmps4<|zB @Tryz.ntmps47<|zB @Tryz.ntmps50<|zB @Tryz.ntmps51<|zB @Tryz.ntmps52<|zB @Tryz.ntmps53<|zB @Tryz.ntmps55<|zB @Tryz.ntmps56<|zB @Tryz.ntmps57<|zB @Tryz.ntmps89<|zB @Tryz.ntmps90<|zB @Tryz.ntmps91<|zB @Tryz.ntmps92<|zB @Tryz.ntmps93<|zB @Tryz.ntmps94<|zB @Tryz.ntmps95<|zB @Tryz.ntmps96<|zB @Tryz.results122<|zB @Tryz.results123<|zB @Tryz.results13<|zB @Tryz.results135<|zB @Tryz.results136<|zB @Tryz.results137<|zB @Tryz.results138<|zB @Tryz.results14<|zB @Tryz.results15<|zB @Tryz.results150<|zB @Tryz.results16<|zB @Tryz.results4<|zB @Tryz.results47<|zB @Tryz.results48<|zB @Tryz.results49<|zB @Tryz.results50<|zB @Tryz.results51<|zB @Tryz.results52<|zB @Tryz.results53<|zB @Tryz.results54<|zB @Tryz.results55<|zB @Tryz.results56<|zB @Tryz.results57<|zB @Tryz.results89<|zB @Tryz.results90<|zB @Tryz.results91<|zB @Tryz.results92<|zB @Tryz.results93<|zB @Tryz.results94<|zB @Tryz.results95<|zB @Tryz.results96<|zB @ag_190<|zB @ag_63<|zB @ag_69<|zB @ag_75<|zB @fld_120_0<|zB @fld_120_1<|zB @fld_120_10<|zB @fld_120_2<|zB @fld_120_3<|zB @fld_120_4<|zB @fld_120_5<|zB @fld_120_6<|zB @fld_120_7<|zB @fld_120_8<|zB @fld_120_9<|zB @fld_190_0<|zB @fld_190_1<|zB @fld_69_0<|zB @fld_69_2<|zB @fld_75_0<|zB @fld_75_1<|zB @fld_75_2<|zB @pl_120<|zB @pl_190<|zB @pl_75<|zB @sz_190<|zB @sz_63<|zB @sz_75<|zB @zero_120<|zB @zero_190<|@zero_75
def EMW:=zB @EMH<|zB @ENMW<|@TMW
def FMW:=zB @FMH<|zB @ENMW<|@TMW
theorem QW{α:Type}{x:α}{p:α→Prop}(e:p x:=by simp only[seval,FMW]):∀y,some x=some y→p y:=λ_ i=>Option.some.inj i▸e
theorem WW{p q:Prop}(h:q)(e:p=q:=by simp only[seval,EMW];rfl):p:=Eq.mpr e h
theorem mW{P:Program}{g:Pg P}{fr:Fr}{s:Sg}{ε:Type}{Φ:ε→SQ}{m:Option ε}{c:Code}{e:ε}{p:Prop}(h:Mir g c fr s m Φ)(i:m=some e)(w:p=SWs g c (Φ e) fr s:=by simp only[seval,EMW];rfl):p:=Eq.mpr w (h e i)
theorem Mir.sW{P:Program}{g g':Pg P}{fr fr':Fr}{s s':Sg}{ε:Type}{Φ:ε→SQ}{m:Option ε}{id:Nat}{ops:Array Oper}{k c:Code}(h:Mir g' c fr' s' m Φ)(e:∀e,regS g false ops ops.toList fr s (kQ g k Φ e .normal)=SWs g' c (Φ e) fr' s':=by intro e;simp only[seval,EMW];rfl):Mir g (.seq (.region id ops false) k) fr s m Φ:=Mir.sR λy i=>Eq.mpr (e y) (h y i)
theorem Mir.rW{P:Program}{g:Pg P}{fr:Fr}{s:Sg}{ε:Type}{Φ:ε→SQ}{x:ε}{id:Nat}{ops:Array Oper}(e:regS g false ops ops.toList fr s (Φ x .normal):=by simp only[seval,EMW];simp only[seval,FMW]):Mir g (.region id ops false) fr s (some x) Φ:=Mir.region λ_ i=>Option.some.inj i▸e
theorem SpecS.byW{P:Program}{g:Pg P}{f:FuncId}{args:List V}{s:Sg}{R:V→Sg→Prop}{r:V}{args':List V}(h:Spec g f args' r)(hR:R r s)(ha:args.map V.clean=args':=by simp only[seval,FMW]):SpecS g f args s R:=SpecS.by h ha hR
theorem auW{P:Program}{g:Pg P}{f:FuncId}{fn:Func}{c:Code}(hf:P.funcs[f]? = some fn){args:List V}{ρ:Type}(en:ρ→V){m:Option ρ}{fr:Fr}(h:Mir g c fr ⟨[],[]⟩ m (fnQ g fn.results.toList en)){y:ρ}(hy:m=some y)(hb:fn.body=some c:=by rfl)(he:bj P f=true:=by kernel_rfl)(hd:bP c=true:=by kernel_rfl)(e:args++List.replicate (fn.ntmps-args.length) .undef=fr:=by simp only[List.replicate,List.length,nS,nA,SV,TMW];rfl):Spec g f args (en y):=d4 hf hb he hd en (e▸h) hy
def bK(a0:Int)(a1:Int)(a2:Int):Option Bool:=some ((decide (a1≤a0))&&(decide (a0≤a2)))
theorem aJ{a0:Int}{a1:Int}{a2:Int}{y:Bool}(h:bK a0 a1 a2=some y):Spec gP 94 [.d (.int .i64 a0),.d (.int .i64 a1),.d (.int .i64 a2)] (.d (.bool y)):=by
 refine auW Tryz.func94 (λy:Bool=>.d (.bool y)) ?_ h
 unfold bK
 refine .sW ?_
 refine .seqK (.joinV ([U,U,U,U,U,U,.d (.bool ((decide (a1≤a0))&&(decide (a0≤a2))))]++us 8) ⟨[],[]⟩ rfl ?_ ?_)
 refine SWs.region ?_
 rcases zF (decide (a1≤a0))with hb1 | hb1
 simp only[seval,EMW,SL,PB,hb1]
 simp only[seval,EMW,SL,PB,hb1]
 refine Mir.toK (.ret QW)
def pf_Valid(a0:az):Option Int:=bindO (bindO (bK a0.Speed 1 100000) λ(y1:Bool)=>if y1=true then bindO (bK a0.Accel 1 100000) λ(y2:Bool)=>if y2=true then bindO (bK a0.Jerk 2 100000) λ(y3:Bool)=>some y3 else some false else some false) λ(v1:Bool)=>if v1=true then some 0 else some 1
theorem fC{a0:az}{y:Int}(h:pf_Valid a0=some y):Spec gP 89 [.agg (cJ a0)] (.d (.int .i64 y)):=by
 refine auW Tryz.func89 (λy:Int=>.d (.int .i64 y)) ?_ h
 unfold pf_Valid
 refine .sW ?_
 refine .seqK (.seqK (Mir.joinO (λv1:Bool=>[U,U,U,U,U,U,U,U,U,U,U,U,U,U,U,.d (.bool v1)]) (λv1=>⟨[(cJ a0)],[]⟩) (λ_=>rfl) ?_ ?_))
 refine .bind λy1 hy1=>.ite (λhb2=>?_) (λhb2=>?_)
 refine .bind λy2 hy3=>.ite (λhb4=>?_) (λhb4=>?_)
 refine .bind λy3 hy5=>.region λe h=>?_
 simp only[seval,EMW,hb2,hb4]
 refine SpecS.by (aJ hy1) (by simp only[seval,FMW,hb2,hb4]) ?_
 simp only[seval,EMW,hb2,hb4]
 refine SpecS.by (aJ hy3) (by simp only[seval,FMW,hb2,hb4]) ?_
 simp only[seval,EMW,hb2,hb4]
 refine SpecS.by (aJ hy5) (by simp only[seval,FMW,hb2,hb4]) ?_
 simp only[seval,EMW,hb2,hb4]
 cases h
 simp only[seval,FMW,hb2,hb4]
 refine .region λe h=>?_
 simp only[seval,EMW,hb2,hb4]
 refine SpecS.by (aJ hy1) (by simp only[seval,FMW,hb2,hb4]) ?_
 simp only[seval,EMW,hb2,hb4]
 refine SpecS.by (aJ hy3) (by simp only[seval,FMW,hb2,hb4]) ?_
 simp only[seval,EMW,hb2,hb4]
 cases h
 simp only[seval,FMW,hb2,hb4]
 refine .region λe h=>?_
 simp only[seval,EMW,hb2]
 refine SpecS.by (aJ hy1) (by simp only[seval,FMW,hb2]) ?_
 simp only[seval,EMW,hb2]
 cases h
 simp only[seval,FMW,hb2]
 intro v1
 refine Mir.toK (.cond rfl (λhb7=>?_) (λhb7=>?_))
 refine .sW ?_
 refine .ret QW
 refine .skip (Mir.toK (.sW ?_))
 refine .ret QW
def ct_far(a0:aa):Option Bool:=some ((decide ((mmI true (mmI true a0.X a0.Y) a0.Z)>10000000))||(decide ((mmI false (mmI false a0.X a0.Y) a0.Z)<(-10000000))))
theorem lc{a0:aa}{y:Bool}(h:ct_far a0=some y):Spec gP 90 [.agg (cH a0)] (.d (.bool y)):=by
 refine auW Tryz.func90 (λy:Bool=>.d (.bool y)) ?_ h
 unfold ct_far
 refine .sW ?_
 refine .seqK (.joinV ([U,U,.d (.bool ((decide ((mmI true (mmI true a0.X a0.Y) a0.Z)>10000000))||(decide ((mmI false (mmI false a0.X a0.Y) a0.Z)<(-10000000)))))]++us 18) ⟨[(cH a0)],[]⟩ rfl ?_ ?_)
 refine SWs.region ?_
 rcases zF (decide ((mmI true (mmI true a0.X a0.Y) a0.Z)>10000000))with hb1 | hb1
 simp only[seval,EMW,SL,PB,hb1]
 simp only[seval,EMW,SL,PB,hb1]
 refine Mir.toK (.ret QW)
def gj(a0:ah):Option Int:=aB ((zL.wrap ((zL.wrap ((zL.wrap ((zL.wrap (a0.To.X-a0.From.X))*(zL.wrap (a0.To.X-a0.From.X))))+(zL.wrap ((zL.wrap (a0.To.Y-a0.From.Y))*(zL.wrap (a0.To.Y-a0.From.Y))))))+(zL.wrap ((zL.wrap (a0.To.Z-a0.From.Z))*(zL.wrap (a0.To.Z-a0.From.Z))))))==290000) ( bindO (loopX (λ(v1:Int)=>if ((decide (v1>0))&&(decide ((zL.wrap ((zL.wrap (v1-1))*(zL.wrap (v1-1))))≥(zL.wrap ((zL.wrap ((zL.wrap ((zL.wrap (a0.To.X-a0.From.X))*(zL.wrap (a0.To.X-a0.From.X))))+(zL.wrap ((zL.wrap (a0.To.Y-a0.From.Y))*(zL.wrap (a0.To.Y-a0.From.Y))))))+(zL.wrap ((zL.wrap (a0.To.Z-a0.From.Z))*(zL.wrap (a0.To.Z-a0.From.Z)))))))))=true then some (.go (zL.wrap (v1-1)))else some (.ret v1)) fuel 538) λ(v2:Int)=>bindO (loopX (λ(v3:Int)=>if (decide ((zL.wrap (v3*v3))<(zL.wrap ((zL.wrap ((zL.wrap ((zL.wrap (a0.To.X-a0.From.X))*(zL.wrap (a0.To.X-a0.From.X))))+(zL.wrap ((zL.wrap (a0.To.Y-a0.From.Y))*(zL.wrap (a0.To.Y-a0.From.Y))))))+(zL.wrap ((zL.wrap (a0.To.Z-a0.From.Z))*(zL.wrap (a0.To.Z-a0.From.Z))))))))=true then some (.go (zL.wrap (v3+1)))else some (.ret v3)) fuel v2) λ(v4:Int)=>some v4)
theorem dW{a0:ah}{y:Int}(h:gj a0=some y):Spec gP 57 [.agg (cA a0)] (.d (.int .i64 y)):=by
 refine auW Tryz.func57 (λy:Int=>.d (.int .i64 y)) ?_ h
 unfold gj
 refine .sW ?_
 refine .seqK (.regionD [] (by kernel_rfl) λe h=>?_)
 simp only[seval,EMW,SB]
 refine mU e (.sW ?_) h
 refine .seqK (.guard λq1=>.regionW λe h=>regW.alt 1 rfl ?_)
 simp only[seval,EMW]
 refine alt_convF (by simp only[seval,EMW,(eq_of_beq q1)]) (regW.alt 1 rfl ?_)
 simp only[seval,EMW]
 refine .byW sqrt_spec (WW ?_)
 refine alt_convI rfl (regW.of ?_)
 simp only[seval,EMW]
 refine mU e (.seqK (Mir.joinO (λv2:Int=>([U,U,U,U,U,U,.d (.int .i64 (zL.wrap ((zL.wrap ((zL.wrap ((zL.wrap (a0.To.X-a0.From.X))*(zL.wrap (a0.To.X-a0.From.X))))+(zL.wrap ((zL.wrap (a0.To.Y-a0.From.Y))*(zL.wrap (a0.To.Y-a0.From.Y))))))+(zL.wrap ((zL.wrap (a0.To.Z-a0.From.Z))*(zL.wrap (a0.To.Z-a0.From.Z))))))),.d (.int .i64 v2)]++us 57)) (λv2=>⟨[(cA a0)],[]⟩) (λ_=>rfl) ?_ ?_)) h
 refine .block (Mir.loop (λv1:Int=>([U,U,U,U,U,U,.d (.int .i64 (zL.wrap ((zL.wrap ((zL.wrap ((zL.wrap (a0.To.X-a0.From.X))*(zL.wrap (a0.To.X-a0.From.X))))+(zL.wrap ((zL.wrap (a0.To.Y-a0.From.Y))*(zL.wrap (a0.To.Y-a0.From.Y))))))+(zL.wrap ((zL.wrap (a0.To.Z-a0.From.Z))*(zL.wrap (a0.To.Z-a0.From.Z))))))),.d (.int .i64 v1)]++us 57)) (λv1=>⟨[(cA a0)],[]⟩) (λ_=>rfl) (by simp only[seval,FMW]) (by simp only[seval,FMW]) λv1=>.seqK (.seqK (.joinV ([U,U,U,U,U,U,.d (.int .i64 (zL.wrap ((zL.wrap ((zL.wrap ((zL.wrap (a0.To.X-a0.From.X))*(zL.wrap (a0.To.X-a0.From.X))))+(zL.wrap ((zL.wrap (a0.To.Y-a0.From.Y))*(zL.wrap (a0.To.Y-a0.From.Y))))))+(zL.wrap ((zL.wrap (a0.To.Z-a0.From.Z))*(zL.wrap (a0.To.Z-a0.From.Z))))))),.d (.int .i64 v1),U,U,U,U,U,U,U,U,U,U,U,U,U,U,U,U,U,U,U,U,U,U,U,U,U,U,U,U,U,U,U,U,U,U,U,U,U,U,U,U,U,U,U,U,U,U,.d (.bool ((decide (v1>0))&&(decide ((zL.wrap ((zL.wrap (v1-1))*(zL.wrap (v1-1))))≥(zL.wrap ((zL.wrap ((zL.wrap ((zL.wrap (a0.To.X-a0.From.X))*(zL.wrap (a0.To.X-a0.From.X))))+(zL.wrap ((zL.wrap (a0.To.Y-a0.From.Y))*(zL.wrap (a0.To.Y-a0.From.Y))))))+(zL.wrap ((zL.wrap (a0.To.Z-a0.From.Z))*(zL.wrap (a0.To.Z-a0.From.Z))))))))))]++us 10) ⟨[(cA a0)],[]⟩ rfl ?_ ?_)))
 refine SWs.region ?_
 rcases zF (decide (v1>0))with hb17 | hb17
 simp only[seval,EMW,SL,PB,hb17]
 simp only[seval,EMW,SL,PB,hb17]
 refine Mir.toK (.cond rfl (λhb19=>?_) (λhb19=>?_))
 refine .skip (Mir.toK (.block (.rW)))
 refine .exit QW
 intro v2
 refine Mir.toK (.seqK (Mir.joinO (λv4:Int=>([U,U,U,U,U,U,U,.d (.int .i64 v4)]++us 57)) (λv4=>⟨[(cA a0)],[]⟩) (λ_=>rfl) ?_ ?_))
 refine .block (Mir.loop (λv3:Int=>([U,U,U,U,U,U,.d (.int .i64 (zL.wrap ((zL.wrap ((zL.wrap ((zL.wrap (a0.To.X-a0.From.X))*(zL.wrap (a0.To.X-a0.From.X))))+(zL.wrap ((zL.wrap (a0.To.Y-a0.From.Y))*(zL.wrap (a0.To.Y-a0.From.Y))))))+(zL.wrap ((zL.wrap (a0.To.Z-a0.From.Z))*(zL.wrap (a0.To.Z-a0.From.Z))))))),.d (.int .i64 v3)]++us 57)) (λv3=>⟨[(cA a0)],[]⟩) (λ_=>rfl) (by simp only[seval,FMW]) (by simp only[seval,FMW]) λv3=>.seqK (.sW ?_))
 refine .cond rfl (λhb31=>?_) (λhb31=>?_)
 refine .skip (Mir.toK (.block (.rW)))
 refine .exit QW
 intro v4
 refine Mir.toK (.sW ?_)
 refine .ret QW
def ct_limit(a0:ah)(a1:az):Option az:=bindO (if (decide (a0.Rate>0))=true then some (mmI false a1.Speed (zL.wrap ((zL.wrap (zG (zL.wrap (a0.Rate-1)) 1000))+1)))else some a1.Speed) λ(v1:Int)=>some (az.mk v1 a1.Accel a1.Jerk)
theorem ct_limit_spec{a0:ah}{a1:az}{y:az}(h:ct_limit a0 a1=some y):Spec gP 53 [.agg (cA a0),.agg (cJ a1)] (.agg [.d (.int .i64 y.Speed),.d (.int .i64 y.Accel),.d (.int .i64 y.Jerk)]):=by
 refine auW Tryz.func53 (λy:az=>.agg [.d (.int .i64 y.Speed),.d (.int .i64 y.Accel),.d (.int .i64 y.Jerk)]) ?_ h
 unfold ct_limit
 refine .sW ?_
 refine .seqK (.sW ?_)
 refine Mir.joinO (λv1:Int=>([U,U,U,.ptr 1 0,.ptr 2 0]++us 13)) (λv1=>⟨[(cA a0),[.d (.int .i64 v1),.d (.int .i64 a1.Accel),.d (.int .i64 a1.Jerk)],[.d (.int .i64 0),.d (.int .i64 0),.d (.int .i64 0)]],[]⟩) (λ_=>rfl) ?_ ?_
 refine .cond rfl (λ_=>.rW) (λ_=>.skip QW)
 intro v1
 refine Mir.toK (.sW ?_)
 refine .ret QW
def d5(a0:az):Option Int:=some (mmI false (mmI false a0.Speed a0.Accel) (zL.wrap (zG a0.Jerk 2)))
theorem fa{a0:az}{y:Int}(h:d5 a0=some y):Spec gP 93 [.agg (cJ a0)] (.d (.int .i64 y)):=by
 refine auW Tryz.func93 (λy:Int=>.d (.int .i64 y)) ?_ h
 unfold d5
 refine .sW ?_
 refine .sW ?_
 refine .ret QW
def pf_Ticks(a0:Int)(a1:az):Option (Int×Int):=bindO (bindO (pf_Valid a1) λ(y1:Int)=>if (y1 != 0)=true then some true else some (decide (a0<0))) λ(v1:Bool)=>if v1=true then some (0,1)else if (decide (a0>1000000000000))=true then some (0,3)else bindO (d5 a1) λ(y2:Int)=>aB (!(y2==0)) ( some (zL.wrap (zG (zL.wrap ((zL.wrap (a0+y2))-1)) y2),0))
theorem pf_Ticks_spec{a0:Int}{a1:az}{y:Int×Int}(h:pf_Ticks a0 a1=some y):Spec gP 91 [.d (.int .i64 a0),.agg (cJ a1)] (.tuple [.d (.int .i64 y.1),.d (.int .i64 y.2)]):=by
 refine auW Tryz.func91 (λy:Int×Int=>.tuple [.d (.int .i64 y.1),.d (.int .i64 y.2)]) ?_ h
 unfold pf_Ticks
 refine .sW ?_
 refine .seqK (.seqK (Mir.joinO (λv1:Bool=>([.d (.int .i64 a0),U,U,.ptr 0 0,U,U,U,U,U,U,U,U,U,.d (.bool v1)]++us 10)) (λv1=>⟨[(cJ a1)],[]⟩) (λ_=>rfl) ?_ ?_))
 refine .bind λy1 hy1=>.ite (λhb2=>?_) (λhb2=>?_)
 refine .region λe h=>?_
 simp only[seval,EMW,hb2]
 refine SpecS.by (fC hy1) (by simp only[seval,FMW,hb2]) ?_
 simp only[seval,EMW,hb2]
 cases h
 simp only[seval,FMW,hb2]
 refine .region λe h=>?_
 simp only[seval,EMW,hb2]
 refine SpecS.by (fC hy1) (by simp only[seval,FMW,hb2]) ?_
 simp only[seval,EMW,hb2]
 cases h
 simp only[seval,FMW,hb2]
 intro v1
 refine Mir.toK (.cond rfl (λhb4=>?_) (λhb4=>?_))
 refine .sW ?_
 refine .ret QW
 refine .skip (Mir.toK (.seqK (.sW ?_)))
 refine .cond rfl (λhb6=>?_) (λhb6=>?_)
 refine .sW ?_
 refine .ret QW
 refine .skip (Mir.toK (.seqK (.bind λy2 hy7=>.region λe h=>WW ?_)))
 refine .byW (fa hy7) (mW ?_ h)
 refine .seqK (.guard λq8=>?_)
 replace q8:=ne_of q8
 refine .region λe h=>?_
 simp only[seval,EMW,q8]
 refine mU e (.ret QW) h
def pf_floor(a0:Int)(a1:Int):Option Int:=aB (!(a1==0)) ( aB (!(a1==0)) ( bindO (if (decide ((zK a0 a1)<0))=true then some (zL.wrap ((zL.wrap (zG a0 a1))-1))else some (zL.wrap (zG a0 a1))) λ(v1:Int)=>some v1))
theorem pf_floor_spec{a0:Int}{a1:Int}{y:Int}(h:pf_floor a0 a1=some y):Spec gP 96 [.d (.int .i64 a0),.d (.int .i64 a1)] (.d (.int .i64 y)):=by
 refine auW Tryz.func96 (λy:Int=>.d (.int .i64 y)) ?_ h
 unfold pf_floor
 refine .sW ?_
 refine .seqK (.guard λq1=>?_)
 replace q1:=ne_of q1
 refine .region λe h=>?_
 simp only[seval,EMW,q1]
 refine mU e (.seqK (.seqK (.guard λq2=>?_))) h
 replace q2:=ne_of q2
 refine .region λe h=>?_
 simp only[seval,EMW,q2]
 refine mU e (Mir.joinO (λv1:Int=>([U,U,U,U,U,.d (.int .i64 v1)]++us 10)) (λv1=>⟨[],[]⟩) (λ_=>rfl) ?_ ?_) h
 refine .cond rfl (λ_=>.rW) (λ_=>.skip QW)
 intro v1
 refine Mir.toK (.sW ?_)
 refine .ret QW
def c8(a0:az)(a1:Int):Option Int:=if (decide (a1≤a0.Jerk))=true then some 0 else aB (!(a0.Jerk==0)) ( some (zL.wrap ((zL.wrap ((zL.wrap (zG (zL.wrap (a1-1)) a0.Jerk))*a1))-(zL.wrap (zG (zL.wrap ((zL.wrap (a0.Jerk*(zL.wrap (zG (zL.wrap (a1-1)) a0.Jerk))))*(zL.wrap ((zL.wrap (zG (zL.wrap (a1-1)) a0.Jerk))+1)))) 2)))))
theorem dn{a0:az}{a1:Int}{y:Int}(h:c8 a0 a1=some y):Spec gP 150 [.agg (cJ a0),.d (.int .i64 a1)] (.d (.int .i64 y)):=by
 refine auW Tryz.func150 (λy:Int=>.d (.int .i64 y)) ?_ h
 unfold c8
 refine .sW ?_
 refine .seqK (.sW ?_)
 refine .cond rfl (λhb2=>?_) (λhb2=>?_)
 refine .sW ?_
 refine .ret QW
 refine .skip (Mir.toK (.seqK (.guard λq3=>?_)))
 replace q3:=ne_of q3
 refine .region λe h=>?_
 simp only[seval,EMW,q3]
 refine mU e (.sW ?_) h
 refine .ret QW
def eD(a0:az)(a1:aA):Option aA:=bindO (loopX (λ(v1:Int×Int)=>if (decide (v1.1<v1.2))=true then bindO (pf_floor (zL.wrap (v1.1+v1.2)) 2) λ(y1:Int)=>bindO (c8 a0 (zL.wrap (0-y1))) λ(y2:Int)=>if (decide ((zL.wrap ((zL.wrap (a1.v+y1))-y2))≥0))=true then some (.go (v1.1,y1))else some (.go (zL.wrap (y1+1),v1.2))else some (.ret v1.1)) fuel (mmI true (zL.wrap (0-a0.Accel)) (zL.wrap (a1.a-a0.Jerk)),mmI false a0.Accel (zL.wrap (a1.a+a0.Jerk)))) λ(v2:Int)=>some (aA.mk (zL.wrap (a1.v+v2)) v2)
theorem fq{a0:az}{a1:aA}{y:aA}(h:eD a0 a1=some y):Spec gP 138 [.agg (cJ a0),.agg (cQ a1)] (.agg [.d (.int .i64 y.v),.d (.int .i64 y.a)]):=by
 refine auW Tryz.func138 (λy:aA=>.agg [.d (.int .i64 y.v),.d (.int .i64 y.a)]) ?_ h
 unfold eD
 refine .sW ?_
 refine .seqK (.regionD [] (by kernel_rfl) λe h=>?_)
 simp only[seval,EMW,SB]
 refine mU e (.seqK (Mir.joinO (λv2:Int=>([U,U,U,.ptr 1 0,.ptr 2 0,.d (.int .i64 v2)]++us 45)) (λv2=>⟨[(cJ a0),(cQ a1),[.d (.int .i64 0),.d (.int .i64 0)]],[]⟩) (λ_=>rfl) ?_ ?_)) h
 refine .block (Mir.loop (λv1:Int×Int=>([U,U,.ptr 0 0,.ptr 1 0,.ptr 2 0,.d (.int .i64 v1.1),.d (.int .i64 v1.2)]++us 44)) (λv1=>⟨[(cJ a0),(cQ a1),[.d (.int .i64 0),.d (.int .i64 0)]],[]⟩) (λ_=>rfl) (by simp only[seval,FMW]) (by simp only[seval,FMW]) λv1=>.seqK (.sW ?_))
 refine .cond rfl (λhb27=>?_) (λhb27=>?_)
 refine .skip (Mir.toK (.block (.seqK (.bind λy1 hy28=>.region λe h=>WW ?_))))
 refine .byW (pf_floor_spec hy28) (mW ?_ h)
 refine .seqK (.bind λy2 hy29=>.regionD [] (by kernel_rfl) λe h=>?_)
 simp only[seval,EMW,SB]
 refine Spec.by (dn hy29) (by simp only[seval,FMW]) ?_
 simp only[seval,EMW,SB]
 refine mU e (.cond rfl (λ_=>.rW) (λ_=>.rW)) h
 refine .exit QW
 intro v2
 refine Mir.toK (.sW ?_)
 refine .ret QW
def eS(a0:az)(a1:aA):Option Bool:=bindO (bindO (bK a1.v 0 a0.Speed) λ(y1:Bool)=>if y1=true then bindO (bK a1.a (zL.wrap (0-a0.Accel)) a0.Accel) λ(y2:Bool)=>some (!y2)else some true) λ(v1:Bool)=>if v1=true then some false else if (decide (a1.a>0))=true then bindO (c8 a0 a1.a) λ(y3:Int)=>some (decide ((zL.wrap (a1.v+y3))≤a0.Speed))else bindO (c8 a0 (zL.wrap (0-a1.a))) λ(y4:Int)=>some (decide ((zL.wrap (a1.v-y4))≥0))
theorem cS{a0:az}{a1:aA}{y:Bool}(h:eS a0 a1=some y):Spec gP 136 [.agg (cJ a0),.agg (cQ a1)] (.d (.bool y)):=by
 refine auW Tryz.func136 (λy:Bool=>.d (.bool y)) ?_ h
 unfold eS
 refine .sW ?_
 refine .seqK (.seqK (Mir.joinO (λv1:Bool=>([U,U,.ptr 0 0,.ptr 1 0,U,U,U,U,U,U,U,U,U,U,U,U,U,U,U,U,U,.d (.bool v1)]++us 22)) (λv1=>⟨[(cJ a0),(cQ a1)],[]⟩) (λ_=>rfl) ?_ ?_))
 refine .bind λy1 hy1=>.ite (λhb2=>?_) (λhb2=>?_)
 refine .bind λy2 hy3=>.region λe h=>?_
 simp only[seval,EMW,hb2]
 refine SpecS.by (aJ hy1) (by simp only[seval,FMW,hb2]) ?_
 simp only[seval,EMW,hb2]
 refine SpecS.by (aJ hy3) (by simp only[seval,FMW,hb2]) ?_
 simp only[seval,EMW,hb2]
 cases h
 simp only[seval,FMW,hb2]
 refine .region λe h=>?_
 simp only[seval,EMW,hb2]
 refine SpecS.by (aJ hy1) (by simp only[seval,FMW,hb2]) ?_
 simp only[seval,EMW,hb2]
 cases h
 simp only[seval,FMW,hb2]
 intro v1
 refine Mir.toK (.cond rfl (λhb5=>?_) (λhb5=>?_))
 refine .sW ?_
 refine .ret QW
 refine .skip (Mir.toK (.seqK (.sW ?_)))
 refine .cond rfl (λhb8=>?_) (λhb8=>?_)
 refine .seqK (.bind λy3 hy9=>.regionD [] (by kernel_rfl) λe h=>?_)
 simp only[seval,EMW,SB]
 refine Spec.by (dn hy9) (by simp only[seval,FMW]) ?_
 simp only[seval,EMW,SB]
 refine mU e (.ret QW) h
 refine .skip (Mir.toK (.seqK (.bind λy4 hy10=>.regionD [] (by kernel_rfl) λe h=>?_)))
 simp only[seval,EMW,SB]
 refine Spec.by (dn hy10) (by simp only[seval,FMW]) ?_
 simp only[seval,EMW,SB]
 refine mU e (.ret QW) h
def db(a0:az)(a1:aA):Option Int:=bindO (loopX (λ(v1:Int×aA)=>if (!((v1.2.v==0)&&(v1.2.a==0)))=true then bindO (eD a0 v1.2) λ(y1:aA)=>some (.go (zL.wrap (v1.1+y1.v),y1))else some (.ret (v1.1,v1.2))) fuel (0,a1)) λ(v2:Int×aA)=>some v2.1
theorem eC{a0:az}{a1:aA}{y:Int}(h:db a0 a1=some y):Spec gP 137 [.agg (cJ a0),.agg (cQ a1)] (.d (.int .i64 y)):=by
 refine auW Tryz.func137 (λy:Int=>.d (.int .i64 y)) ?_ h
 unfold db
 refine .sW ?_
 refine .sW ?_
 refine .seqK (Mir.joinO (λv2:Int×aA=>([U,U,U,U,U,.d (.int .i64 v2.1)]++us 11)) (λv2=>⟨[(cJ a0),(cQ v2.2)],[]⟩) (λ_=>rfl) ?_ ?_)
 refine .block (Mir.loop (λv1:Int×aA=>([U,U,.ptr 0 0,.ptr 1 0,U,.d (.int .i64 v1.1)]++us 11)) (λv1=>⟨[(cJ a0),(cQ v1.2)],[]⟩) (λ_=>rfl) (by simp only[seval,FMW]) (by simp only[seval,FMW]) λv1=>.seqK (.sR λe h=>?_))
 simp only[seval,EMW,gE_190]
 refine mU e (.cond rfl (λhb17=>?_) (λhb17=>?_)) h
 refine .skip (Mir.toK (.block (.seqK (.bind λy1 hy18=>.region λe h=>WW ?_))))
 refine .byW (fq hy18) (mW ?_ h)
 refine .rW
 refine .exit QW
 intro v2
 refine Mir.toK (.sW ?_)
 refine .ret QW
def gN(a0:az)(a1:aA)(a2:Int):Option (aA×Bool):=bindO (eD a0 a1) λ(y1:aA)=>bindO (if (decide ((mmI true y1.a (zL.wrap (1-a1.v)))>(mmI false (mmI false a0.Accel (zL.wrap (a1.a+a0.Jerk))) (zL.wrap (a2-a1.v)))))=true then some true else bindO (bindO (if (decide ((zL.wrap (a1.v+(mmI true y1.a (zL.wrap (1-a1.v)))))≤a2))=true then bindO (eS a0 (aA.mk (zL.wrap (a1.v+(mmI true y1.a (zL.wrap (1-a1.v))))) (mmI true y1.a (zL.wrap (1-a1.v))))) λ(y2:Bool)=>if y2=true then bindO (db a0 (aA.mk (zL.wrap (a1.v+(mmI true y1.a (zL.wrap (1-a1.v))))) (mmI true y1.a (zL.wrap (1-a1.v))))) λ(y3:Int)=>some (decide (y3≤(zL.wrap (a2-(zL.wrap (a1.v+(mmI true y1.a (zL.wrap (1-a1.v)))))))))else some false else some false) λ(v1:Bool)=>some v1) λ(v2:Bool)=>some (!v2)) λ(v3:Bool)=>if v3=true then some (aA.mk 0 0,false)else bindO (loopX (λ(v4:Int×Int)=>if (decide (v4.1<v4.2))=true then bindO (bindO (if (decide ((zL.wrap (a1.v+(zL.wrap (v4.1+(zL.wrap (zG (zL.wrap ((zL.wrap (v4.2-v4.1))+1)) 2))))))≤a2))=true then bindO (eS a0 (aA.mk (zL.wrap (a1.v+(zL.wrap (v4.1+(zL.wrap (zG (zL.wrap ((zL.wrap (v4.2-v4.1))+1)) 2)))))) (zL.wrap (v4.1+(zL.wrap (zG (zL.wrap ((zL.wrap (v4.2-v4.1))+1)) 2)))))) λ(y4:Bool)=>if y4=true then bindO (db a0 (aA.mk (zL.wrap (a1.v+(zL.wrap (v4.1+(zL.wrap (zG (zL.wrap ((zL.wrap (v4.2-v4.1))+1)) 2)))))) (zL.wrap (v4.1+(zL.wrap (zG (zL.wrap ((zL.wrap (v4.2-v4.1))+1)) 2)))))) λ(y5:Int)=>some (decide (y5≤(zL.wrap (a2-(zL.wrap (a1.v+(zL.wrap (v4.1+(zL.wrap (zG (zL.wrap ((zL.wrap (v4.2-v4.1))+1)) 2))))))))))else some false else some false) λ(v5:Bool)=>some v5) λ(v6:Bool)=>if v6=true then some (.go (zL.wrap (v4.1+(zL.wrap (zG (zL.wrap ((zL.wrap (v4.2-v4.1))+1)) 2))),v4.2))else some (.go (v4.1,zL.wrap ((zL.wrap (v4.1+(zL.wrap (zG (zL.wrap ((zL.wrap (v4.2-v4.1))+1)) 2))))-1)))else some (.ret v4.1)) fuel (mmI true y1.a (zL.wrap (1-a1.v)),mmI false (mmI false a0.Accel (zL.wrap (a1.a+a0.Jerk))) (zL.wrap (a2-a1.v)))) λ(v7:Int)=>some (aA.mk (zL.wrap (a1.v+v7)) v7,true)
theorem kU{a0:az}{a1:aA}{a2:Int}{y:aA×Bool}(h:gN a0 a1 a2=some y):Spec gP 122 [.agg (cJ a0),.agg (cQ a1),.d (.int .i64 a2)] (.tuple [.agg [.d (.int .i64 y.1.v),.d (.int .i64 y.1.a)],.d (.bool y.2)]):=by
 refine auW Tryz.func122 (λy:aA×Bool=>.tuple [.agg [.d (.int .i64 y.1.v),.d (.int .i64 y.1.a)],.d (.bool y.2)]) ?_ h
 unfold gN
 refine .sW ?_
 refine .sW ?_
 refine .seqK (.bind λy1 hy1=>.regionD [] (by kernel_rfl) λe h=>?_)
 simp only[seval,EMW,SB]
 refine Spec.by (fq hy1) (by simp only[seval,FMW]) ?_
 simp only[seval,EMW,SB]
 refine mU e (.seqK (.seqK (Mir.joinO (λv3:Bool=>([U,U,U,U,.ptr 1 0,U,.ptr 3 0,U,.fn 135 [.ptr 1 0,.ptr 2 0,.ptr 0 0],.d (.int .i64 (mmI true y1.a (zL.wrap (1-a1.v)))),.d (.int .i64 (mmI false (mmI false a0.Accel (zL.wrap (a1.a+a0.Jerk))) (zL.wrap (a2-a1.v)))),U,U,U,U,U,U,U,U,U,U,U,U,U,U,U,U,U,U,U,U,U,U,U,U,U,U,U,U,U,U,.d (.bool v3)]++us 23)) (λv3=>⟨[(cJ a0),(cQ a1),[.d (.int .i64 a2)],[.d (.int .i64 0),.d (.int .i64 0)]],[]⟩) (λ_=>rfl) ?_ ?_))) h
 refine .ite (λhb2=>?_) (λhb2=>?_)
 refine .region λe h=>?_
 simp only[seval,EMW,hb2]
 cases h
 simp only[seval,FMW,hb2]
 refine .bind λv2 hv7=>.region λe h=>?_
 simp only[seval,EMW,hb2]
 refine SpecS.inl Tryz.func135 rfl (by kernel_rfl) (by kernel_rfl) (λv2:Bool=>.d (.bool v2)) (λv2=>⟨[(cJ a0),(cQ a1),[.d (.int .i64 a2)],[.d (.int .i64 0),.d (.int .i64 0)]],[]⟩) hv7 rfl ?_ ?_
 simp only[zE,zH,nS,nA,Tryz.ntmps135,SV]
 refine .sW ?_
 refine .sW ?_
 refine .seqK (Mir.joinO (λv1:Bool=>([U,U,U,U,U,.d (.bool v1)]++us 26)) (λv1=>⟨[(cJ a0),(cQ a1),[.d (.int .i64 a2)],[.d (.int .i64 0),.d (.int .i64 0)],[.d (.int .i64 (zL.wrap (a1.v+(mmI true y1.a (zL.wrap (1-a1.v)))))),.d (.int .i64 (mmI true y1.a (zL.wrap (1-a1.v))))]],[]⟩) (λ_=>rfl) ?_ ?_)
 refine .ite (λhb8=>?_) (λhb8=>?_)
 refine .bind λy2 hy9=>.ite (λhb10=>?_) (λhb10=>?_)
 refine .bind λy3 hy11=>.regionD [] (by kernel_rfl) λe h=>?_
 simp only[seval,EMW,SB,hb8,hb10]
 refine Spec.by (cS hy9) (by simp only[seval,FMW,hb8,hb10]) ?_
 simp only[seval,EMW,SB,hb8,hb10]
 refine Spec.by (eC hy11) (by simp only[seval,FMW,hb8,hb10]) ?_
 simp only[seval,EMW,SB,hb8,hb10]
 cases h
 simp only[seval,FMW,hb8,hb10]
 refine .regionD [] (by kernel_rfl) λe h=>?_
 simp only[seval,EMW,SB,hb8,hb10]
 refine Spec.by (cS hy9) (by simp only[seval,FMW,hb8,hb10]) ?_
 simp only[seval,EMW,SB,hb8,hb10]
 cases h
 simp only[seval,FMW,hb8,hb10]
 refine .regionD [] (by kernel_rfl) λe h=>?_
 simp only[seval,EMW,SB,hb8]
 cases h
 simp only[seval,FMW,hb8]
 intro v1
 refine Mir.toK (.ret QW)
 simp only[seval,EMW,hb2]
 cases h
 simp only[seval,FMW,hb2]
 intro v3
 refine Mir.toK (.cond rfl (λhb13=>?_) (λhb13=>?_))
 refine .sW ?_
 refine .ret QW
 refine .skip (Mir.toK (.seqK (Mir.joinO (λv7:Int=>([U,U,U,U,.ptr 1 0,U,.ptr 3 0,U,U,.d (.int .i64 v7)]++us 55)) (λv7=>⟨[(cJ a0),(cQ a1),[.d (.int .i64 a2)],[.d (.int .i64 0),.d (.int .i64 0)]],[]⟩) (λ_=>rfl) ?_ ?_)))
 refine .block (Mir.loop (λv4:Int×Int=>([U,U,U,U,.ptr 1 0,U,.ptr 3 0,U,.fn 135 [.ptr 1 0,.ptr 2 0,.ptr 0 0],.d (.int .i64 v4.1),.d (.int .i64 v4.2)]++us 54)) (λv4=>⟨[(cJ a0),(cQ a1),[.d (.int .i64 a2)],[.d (.int .i64 0),.d (.int .i64 0)]],[]⟩) (λ_=>rfl) (by simp only[seval,FMW]) (by simp only[seval,FMW]) λv4=>.seqK (.sW ?_))
 refine .cond rfl (λhb55=>?_) (λhb55=>?_)
 refine .skip (Mir.toK (.block (.sW ?_)))
 refine .seqK (.bind λv6 hv60=>.region λe h=>WW ?_)
 refine SpecS.inl Tryz.func135 rfl (by kernel_rfl) (by kernel_rfl) (λv6:Bool=>.d (.bool v6)) (λv6=>⟨[(cJ a0),(cQ a1),[.d (.int .i64 a2)],[.d (.int .i64 0),.d (.int .i64 0)]],[]⟩) hv60 rfl ?_ ?_
 simp only[zE,zH,nS,nA,Tryz.ntmps135,SV]
 refine .sW ?_
 refine .sW ?_
 refine .seqK (Mir.joinO (λv5:Bool=>([U,U,U,U,U,.d (.bool v5)]++us 26)) (λv5=>⟨[(cJ a0),(cQ a1),[.d (.int .i64 a2)],[.d (.int .i64 0),.d (.int .i64 0)],[.d (.int .i64 (zL.wrap (a1.v+(zL.wrap (v4.1+(zL.wrap (zG (zL.wrap ((zL.wrap (v4.2-v4.1))+1)) 2))))))),.d (.int .i64 (zL.wrap (v4.1+(zL.wrap (zG (zL.wrap ((zL.wrap (v4.2-v4.1))+1)) 2)))))]],[]⟩) (λ_=>rfl) ?_ ?_)
 refine .ite (λhb61=>?_) (λhb61=>?_)
 refine .bind λy4 hy62=>.ite (λhb63=>?_) (λhb63=>?_)
 refine .bind λy5 hy64=>.regionD [] (by kernel_rfl) λe h=>?_
 simp only[seval,EMW,SB,hb61,hb63]
 refine Spec.by (cS hy62) (by simp only[seval,FMW,hb61,hb63]) ?_
 simp only[seval,EMW,SB,hb61,hb63]
 refine Spec.by (eC hy64) (by simp only[seval,FMW,hb61,hb63]) ?_
 simp only[seval,EMW,SB,hb61,hb63]
 cases h
 simp only[seval,FMW,hb61,hb63]
 refine .regionD [] (by kernel_rfl) λe h=>?_
 simp only[seval,EMW,SB,hb61,hb63]
 refine Spec.by (cS hy62) (by simp only[seval,FMW,hb61,hb63]) ?_
 simp only[seval,EMW,SB,hb61,hb63]
 cases h
 simp only[seval,FMW,hb61,hb63]
 refine .regionD [] (by kernel_rfl) λe h=>?_
 simp only[seval,EMW,SB,hb61]
 cases h
 simp only[seval,FMW,hb61]
 intro v5
 refine Mir.toK (.ret QW)
 simp only[seval,EMW]
 refine mU e (.cond rfl (λ_=>.rW) (λ_=>.rW)) h
 refine .exit QW
 intro v7
 refine Mir.toK (.sW ?_)
 refine .ret QW
def pf_Smooth(a0:(List Int))(a1:az):Option Bool:=bindO (pf_Valid a1) λ(y1:Int)=>if (y1 != 0)=true then some false else bindX (loopX (λ(v1:Int×aA)=>if (decide (v1.1<(zL.wrap ((a0.length:Int)+2))))=true then bindO (if (decide (v1.1<(a0.length:Int)))=true then bindO (gt a0 v1.1) λ(e1:Int)=>some e1 else some 0) λ(v2:Int)=>bindO (bindO (bK v2 0 a1.Speed) λ(y2:Bool)=>if y2=true then bindO (bK (zL.wrap (v2-v1.2.v)) (zL.wrap (0-a1.Accel)) a1.Accel) λ(y3:Bool)=>if y3=true then bindO (bK (zL.wrap ((zL.wrap (v2-v1.2.v))-v1.2.a)) (zL.wrap (0-a1.Jerk)) a1.Jerk) λ(y4:Bool)=>some (!y4)else some true else some true) λ(v3:Bool)=>if v3=true then some (.ret (.ret false))else some (.go (zL.wrap (v1.1+1),aA.mk v2 (zL.wrap (v2-v1.2.v))))else some (.ret (.go v1.2))) fuel (0,aA.mk 0 0)) λ(v4:aA)=>some true
theorem pf_Smooth_spec{a0:(List Int)}{a1:az}{y:Bool}(h:pf_Smooth a0 a1=some y):Spec gP 123 [.d (.list (zA (eInt .i64) a0)),.agg (cJ a1)] (.d (.bool y)):=by
 refine auW Tryz.func123 (λy:Bool=>.d (.bool y)) ?_ h
 unfold pf_Smooth
 refine .sW ?_
 refine .seqK (.seqK (.bind λy1 hy1=>.region λe h=>WW ?_))
 refine .byW (fC hy1) (mW ?_ h)
 refine .cond rfl (λhb3=>?_) (λhb3=>?_)
 refine .sW ?_
 refine .ret QW
 refine .skip (Mir.toK (.sW ?_))
 refine .seqK (.sW ?_)
 refine Mir.join (λv4:aA=>(us 67)) (λv4=>⟨[(cJ a1),(cQ v4)],[]⟩) (λ_=>rfl) ?_ ?_
 refine .block (Mir.loop (λv1:Int×aA=>([.d (.list (zA (eInt .i64) a0)),U,U,.ptr 0 0,U,.ptr 1 0,U,U,U,U,U,U,U,U,.d (.int .i64 (zL.wrap ((a0.length:Int)+2))),.d (.int .i64 v1.1)]++us 51)) (λv1=>⟨[(cJ a1),(cQ v1.2)],[]⟩) (λ_=>rfl) (by simp only[seval,FMW]) (by simp only[seval,FMW]) λv1=>.sW ?_)
 refine .seqK (.cond rfl (λh1=>?_) (λh1=>?_))
 refine .skip (Mir.toK (.seqK (.block (.sW ?_))))
 refine .sW ?_
 refine .seqK (.sW ?_)
 refine Mir.joinO (λv2:Int=>([.d (.list (zA (eInt .i64) a0)),U,U,.ptr 0 0,U,.ptr 1 0,U,.d (.int .i64 v2),U,U,U,U,U,U,.d (.int .i64 (zL.wrap ((a0.length:Int)+2))),.d (.int .i64 v1.1)]++us 51)) (λv2=>⟨[(cJ a1),(cQ v1.2)],[]⟩) (λ_=>rfl) ?_ ?_
 refine .cond rfl (λh2=>?_) (λh2=>?_)
 refine .bind λe1 q1=>?_
 replace q1:=gt_ok q1
 refine .region λe h=>?_
 simp only[seval,EMW,q1]
 cases h
 simp only[seval,FMW]
 refine .skip QW
 intro v2
 refine Mir.toK (.seqK (.seqK (Mir.joinO (λv3:Bool=>([.d (.list (zA (eInt .i64) a0)),U,U,.ptr 0 0,U,.ptr 1 0,U,.d (.int .i64 v2),U,U,U,U,U,U,.d (.int .i64 (zL.wrap ((a0.length:Int)+2))),.d (.int .i64 v1.1),U,U,U,U,U,U,U,U,U,U,U,U,U,U,U,U,U,U,U,U,U,U,U,U,U,U,U,U,U,U,U,U,U,U,U,U,U,U,U,U,U,U,U,.d (.bool v3)]++us 7)) (λv3=>⟨[(cJ a1),(cQ v1.2)],[]⟩) (λ_=>rfl) ?_ ?_)))
 refine .bind λy2 h3=>.ite (λh4=>?_) (λh4=>?_)
 refine .bind λy3 h5=>.ite (λh6=>?_) (λh6=>?_)
 refine .bind λy4 h7=>.region λe h=>?_
 simp only[seval,EMW,h4,h6]
 refine SpecS.by (aJ h3) (by simp only[seval,FMW,h4,h6]) ?_
 simp only[seval,EMW,h4,h6]
 refine SpecS.by (aJ h5) (by simp only[seval,FMW,h4,h6]) ?_
 simp only[seval,EMW,h4,h6]
 refine SpecS.by (aJ h7) (by simp only[seval,FMW,h4,h6]) ?_
 simp only[seval,EMW,h4,h6]
 cases h
 simp only[seval,FMW,h4,h6]
 refine .region λe h=>?_
 simp only[seval,EMW,h4,h6]
 refine SpecS.by (aJ h3) (by simp only[seval,FMW,h4,h6]) ?_
 simp only[seval,EMW,h4,h6]
 refine SpecS.by (aJ h5) (by simp only[seval,FMW,h4,h6]) ?_
 simp only[seval,EMW,h4,h6]
 cases h
 simp only[seval,FMW,h4,h6]
 refine .region λe h=>?_
 simp only[seval,EMW,h4]
 refine SpecS.by (aJ h3) (by simp only[seval,FMW,h4]) ?_
 simp only[seval,EMW,h4]
 cases h
 simp only[seval,FMW,h4]
 intro v3
 refine Mir.toK (.cond rfl (λh8=>?_) (λh8=>?_))
 refine .sW ?_
 refine .ret QW
 refine .skip (Mir.toK (.region λe h=>WW ?_))
 refine mU e (.rW) h
 refine .exit QW
 intro v4
 refine Mir.toK (.sW ?_)
 refine .ret QW
def gO(a0:az)(a1:Int)(a2:Int):Option ((List Int)×Bool):=bindO (if (decide (a2>5000))=true then some true else aB (!(a0.Accel==0)) ( aB (!(a0.Jerk==0)) ( some (decide ((zL.wrap ((zL.wrap (zG a0.Speed a0.Accel))+(zL.wrap (zG a0.Accel a0.Jerk))))>100))))) λ(v1:Bool)=>if v1=true then some ([],false)else bindX (loopX (λ(v2:(List Int)×Int×aA)=>if (decide (v2.2.1>0))=true then bindO (gN a0 v2.2.2 v2.2.1) λ(y1:aA×Bool)=>if (!y1.2||((v2.1.length:Int)==a2))=true then some (.ret (.ret ([],false)))else aB (okLen (v2.1.length+1)) ( some (.go (v2.1++[y1.1.v],zL.wrap (v2.2.1-y1.1.v),y1.1)))else some (.ret (.go (v2.1,v2.2.2)))) fuel ([],a1,aA.mk 0 0)) λ(v3:(List Int)×aA)=>bindO (pf_Smooth v3.1 a0) λ(y2:Bool)=>some (v3.1,y2)
theorem kV{a0:az}{a1:Int}{a2:Int}{y:(List Int)×Bool}(h:gO a0 a1 a2=some y):Spec gP 92 [.agg (cJ a0),.d (.int .i64 a1),.d (.int .i64 a2)] (.tuple [.d (.list (zA (eInt .i64) y.1)),.d (.bool y.2)]):=by
 refine auW Tryz.func92 (λy:(List Int)×Bool=>.tuple [.d (.list (zA (eInt .i64) y.1)),.d (.bool y.2)]) ?_ h
 unfold gO
 refine .sW ?_
 refine .seqK (.seqK (Mir.joinO (λv1:Bool=>([U,.d (.int .i64 a1),.d (.int .i64 a2),.ptr 0 0,U,U,U,U,U,U,U,U,U,U,U,U,U,U,U,U,U,U,U,U,U,U,U,U,.d (.bool v1)]++us 33)) (λv1=>⟨[(cJ a0)],[]⟩) (λ_=>rfl) ?_ ?_))
 refine .ite (λhb1=>?_) (λhb1=>?_)
 refine .regionD [] (by kernel_rfl) λe h=>?_
 simp only[seval,EMW,SB,hb1]
 cases h
 simp only[seval,FMW,hb1]
 refine .guard λq2=>?_
 replace q2:=ne_of q2
 refine .guard λq3=>?_
 replace q3:=ne_of q3
 refine .regionD [] (by kernel_rfl) λe h=>?_
 simp only[seval,EMW,SB,q2,q3,hb1]
 cases h
 simp only[seval,FMW,hb1]
 intro v1
 refine Mir.toK (.cond rfl (λhb5=>?_) (λhb5=>?_))
 refine .sW ?_
 refine .ret QW
 refine .skip (Mir.toK (.sW ?_))
 refine .sW ?_
 refine .seqK (.sW ?_)
 refine .gh [.slot 8 2] rfl (Mir.join (λv3:(List Int)×aA=>([U,U,U,.ptr 0 0,U,U,U,U,.own 0 (zA (eInt .i64) v3.1)]++us 53)) (λv3=>⟨[(cJ a0),(cQ v3.2)],[(2,v3.1.length)]⟩) (λ_=>rfl) ?_ ?_)
 refine .block (Mir.loop (λv2:(List Int)×Int×aA=>([U,U,.d (.int .i64 a2),.ptr 0 0,U,U,U,U,.own 0 (zA (eInt .i64) v2.1),.ptr 1 0,.d (.int .i64 v2.2.1)]++us 51)) (λv2=>⟨[(cJ a0),(cQ v2.2.2)],[(2,v2.1.length)]⟩) (λ_=>rfl) (by simp only[seval,FMW]) (by simp only[seval,FMW]) λv2=>.seqK (.sW ?_))
 refine .cond rfl (λh1=>?_) (λh1=>?_)
 refine .skip (Mir.toK (.seqK (.block (.seqK (.bind λy1 h2=>.region λe h=>WW ?_)))))
 refine .byW (kU h2) (mW ?_ h)
 refine .seqK (.seqK (.joinV ([U,U,.d (.int .i64 a2),.ptr 0 0,U,U,U,U,.own 0 (zA (eInt .i64) v2.1),.ptr 1 0,.d (.int .i64 v2.2.1),.ptr 2 0,U,U,U,U,U,U,U,U,U,U,U,U,U,U,U,U,U,U,U,U,U,U,U,U,U,U,U,U,U,U,U,U,U,U,U,U,U,U,U,.d (.bool (!y1.2||((v2.1.length:Int)==a2)))]++us 10) ⟨[(cJ a0),(cQ v2.2.2),(cQ y1.1)],[(2,v2.1.length)]⟩ rfl ?_ ?_))
 refine SWs.region ?_
 rcases zF (y1.2)with h3 | h3
 simp only[seval,EMW,SL,PB,h3]
 simp only[seval,EMW,SL,PB,h3]
 refine Mir.toK (.cond rfl (λh4=>?_) (λh4=>?_))
 refine .sW ?_
 refine .ret QW
 refine .skip (Mir.toK (.sW ?_))
 refine .guard λq1=>.region λe h=>?_
 simp only[seval,EMW,(oL 1),q1]
 refine mU e (.rW) h
 refine .exit QW
 intro v3
 refine Mir.toK (.seqK (.bind λy2 h5=>.region λe h=>WW ?_))
 refine .byW (pf_Smooth_spec h5) (mW ?_ h)
 refine .ret QW
def pf_Steps(a0:Int)(a1:az):Option ((List Int)×Int):=bindO (pf_Ticks a0 a1) λ(y1:Int×Int)=>if (y1.2 != 0)=true then some ([],y1.2)else if (decide (y1.1>100000))=true then some ([],3)else bindO (gO a1 a0 y1.1) λ(y2:(List Int)×Bool)=>if y2.2=true then some (y2.1,0)else bindO (d5 a1) λ(y3:Int)=>bindO (loopX (λ(v1:(List Int)×Int)=>if (decide (v1.2>0))=true then aB (!(y3==0)) ( aB (okLen (v1.1.length+1)) ( bindO (gt (v1.1++[zL.wrap ((zK (zL.wrap (v1.2-1)) y3)+1)]) (zL.wrap (((v1.1++[zL.wrap ((zK (zL.wrap (v1.2-1)) y3)+1)]).length:Int)-1))) λ(e1:Int)=>some (.go (v1.1++[zL.wrap ((zK (zL.wrap (v1.2-1)) y3)+1)],zL.wrap (v1.2-e1)))))else some (.ret v1.1)) fuel ([],a0)) λ(v2:(List Int))=>some (v2,0)
theorem pf_Steps_spec{a0:Int}{a1:az}{y:(List Int)×Int}(h:pf_Steps a0 a1=some y):Spec gP 51 [.d (.int .i64 a0),.agg (cJ a1)] (.tuple [.d (.list (zA (eInt .i64) y.1)),.d (.int .i64 y.2)]):=by
 refine auW Tryz.func51 (λy:(List Int)×Int=>.tuple [.d (.list (zA (eInt .i64) y.1)),.d (.int .i64 y.2)]) ?_ h
 unfold pf_Steps
 refine .sW ?_
 refine .seqK (.bind λy1 hy1=>.region λe h=>WW ?_)
 refine .byW (pf_Ticks_spec hy1) (mW ?_ h)
 refine .seqK (.sW ?_)
 refine .cond rfl (λhb3=>?_) (λhb3=>?_)
 refine .sW ?_
 refine .ret QW
 refine .skip (Mir.toK (.seqK (.sW ?_)))
 refine .cond rfl (λhb5=>?_) (λhb5=>?_)
 refine .sW ?_
 refine .ret QW
 refine .skip (Mir.toK (.seqK (.seqK (.bind λy2 hy6=>.region λe h=>WW ?_))))
 refine .byW (kV hy6) (mW ?_ h)
 refine .sW ?_
 refine .cond rfl (λhb8=>?_) (λhb8=>?_)
 refine .sW ?_
 refine .ret QW
 refine .skip (Mir.toK (.sW ?_))
 refine .seqK (.bind λy3 hy9=>.region λe h=>WW ?_)
 refine .byW (fa hy9) (mW ?_ h)
 refine .seqK (.sW ?_)
 refine .gh [.slot 10 2] rfl (Mir.joinO (λv2:(List Int)=>([U,U,U,U,U,U,U,U,U,U,.own 0 (zA (eInt .i64) v2)]++us 44)) (λv2=>⟨[(cJ a1)],[(2,v2.length)]⟩) (λ_=>rfl) ?_ ?_)
 refine .block (Mir.loop (λv1:(List Int)×Int=>([U,U,U,U,U,U,U,U,U,U,.own 0 (zA (eInt .i64) v1.1),.d (.int .i64 y3),.d (.int .i64 v1.2)]++us 42)) (λv1=>⟨[(cJ a1)],[(2,v1.1.length)]⟩) (λ_=>rfl) (by simp only[seval,FMW]) (by simp only[seval,FMW]) λv1=>.seqK (.sW ?_))
 refine .cond rfl (λhb62=>?_) (λhb62=>?_)
 refine .skip (Mir.toK (.seqK (.block (.guard λq65=>?_))))
 replace q65:=ne_of q65
 refine .guard λq66=>.region λe h=>?_
 simp only[seval,EMW,q65,(oL 1),q66]
 refine mU e (.bind λe1 q67=>?_) h
 replace q67:=gt_okM (f:=(eInt .i64)) q67
 simp only[xMA,List.map_cons,List.map_nil,xLA,xLC,xLN,zJ,nA,eInt]at q67
 refine .region λe h=>?_
 simp only[seval,EMW,xLA,lm,xLC,xLN,zJ,nA,q67]
 cases h
 simp only[seval,FMW]
 refine .exit QW
 intro v2
 refine Mir.toK (.sW ?_)
 refine .ret QW
def ct_check(a0:(List ah))(a1:az):Option Int:=bindO (pf_Valid a1) λ(y1:Int)=>if (y1 != 0)=true then some 1 else bindX (aB (okIdx a0) ( aS (λ(i1:Nat) (e1:ah) (v1:Unit)=>bindO (if (decide (e1.Rate<0))=true then some true else if (decide ((i1:Int)>0))=true then bindO (gt a0 (zL.wrap ((i1:Int)-1))) λ(e2:ah)=>some (!((e2.To.X==e1.From.X)&&((e2.To.Y==e1.From.Y)&&(e2.To.Z==e1.From.Z))))else some false) λ(v2:Bool)=>if v2=true then some (.ret (.ret 1))else some (.go ())) (λ(v1:Unit)=>some (.go ())) a0 0 ())) λ(v3:Unit)=>bindX (aB (okIdx a0) ( aS (λ(i2:Nat) (e3:ah) (v4:Unit)=>bindO (bindO (ct_far e3.From) λ(y2:Bool)=>if y2=true then some true else bindO (ct_far e3.To) λ(y3:Bool)=>some y3) λ(v5:Bool)=>if v5=true then some (.ret (.ret 11))else some (.go ())) (λ(v4:Unit)=>some (.go ())) a0 0 ())) λ(v6:Unit)=>if (decide ((a0.length:Int)>20000))=true then some 3 else bindX (aB (okIdx a0) ( aS (λ(i3:Nat) (e4:ah) (v7:Unit)=>bindO (gj e4) λ(y4:Int)=>bindO (ct_limit e4 a1) λ(y5:az)=>bindO (pf_Steps y4 y5) λ(y6:(List Int)×Int)=>if (y6.2 != 0)=true then some (.ret (.ret y6.2))else some (.go ())) (λ(v7:Unit)=>some (.go ())) a0 0 ())) λ(v8:Unit)=>some 0
theorem ct_check_spec{a0:(List ah)}{a1:az}{y:Int}(h:ct_check a0 a1=some y):Spec gP 47 [.d (.list (zA ac a0)),.agg (cJ a1)] (.d (.int .i64 y)):=by
 refine auW Tryz.func47 (λy:Int=>.d (.int .i64 y)) ?_ h
 unfold ct_check
 refine .sW ?_
 refine .seqK (.seqK (.bind λy1 hy1=>.region λe h=>WW ?_))
 refine .byW (fC hy1) (mW ?_ h)
 refine .cond rfl (λhb3=>?_) (λhb3=>?_)
 refine .sW ?_
 refine .ret QW
 refine .skip (Mir.toK (.seqK (.sW ?_)))
 refine Mir.join (λv3:Unit=>([.d (.list (zA ac a0)),U,U,.ptr 0 0]++us 75)) (λv3=>⟨[(cJ a1)],[]⟩) (λ_=>rfl) ?_ ?_
 refine .block (.guard λqg88=>Mir.range (λ(i1:Nat) (v1:Unit)=>([.d (.list (zA ac a0)),U,U,.ptr 0 0,U,U,U,U,U,U,U,U,U,U,U,U,.d (.list (zA ac a0)),.d (.int .i64 (a0.length:Int)),.d (.int .i64 (i1:Int))]++us 60)) (λi1 v1=>⟨[(cJ a1)],[]⟩) qg88 (λ_ _=>rfl) (by simp only[seval,FMW,zNI]) (by simp only[seval,FMW,zNI]) ?_ ?_)
 intro i1 e1 v1 qr86
 refine .sR λe h=>?_
 simp only[seval,EMW,qr86]
 refine mU e (.seqK (.condT rfl (.skip (Mir.toK (.seqK (.block (.sR λe h=>?_))))))) h
 simp only[seval,EMW,qr86,zI]
 refine mU e (.seqK (Mir.joinO (λv2:Bool=>([.d (.list (zA ac a0)),U,U,.ptr 0 0,U,U,U,U,U,U,U,U,U,U,U,U,.d (.list (zA ac a0)),.d (.int .i64 (a0.length:Int)),.d (.int .i64 (i1:Int)),U,U,U,U,U,U,U,U,U,U,U,U,U,U,U,U,U,U,U,U,U,.d (.bool v2)]++us 38)) (λv2=>⟨[(cJ a1),(cA e1)],[]⟩) (λ_=>rfl) ?_ ?_)) h
 refine .ite (λhb93=>?_) (λhb93=>?_)
 refine .regionD [] (by kernel_rfl) λe h=>?_
 simp only[seval,EMW,SB,hb93]
 cases h
 simp only[seval,FMW,hb93]
 refine .ite (λhb94=>?_) (λhb94=>?_)
 refine .bind λe2 q95=>?_
 replace q95:=gt_ok q95
 refine .regionD [] (by kernel_rfl) λe h=>?_
 simp only[seval,EMW,SB,q95,gE_23,hb93,hb94]
 cases h
 simp only[seval,FMW,hb93,hb94]
 refine .regionD [] (by kernel_rfl) λe h=>?_
 simp only[seval,EMW,SB,hb93,hb94]
 cases h
 simp only[seval,FMW,hb93,hb94]
 intro v2
 refine Mir.toK (.cond rfl (λhb97=>?_) (λhb97=>?_))
 refine .sW ?_
 refine .ret QW
 refine .skip (Mir.toB (Mir.toK (.region λe h=>?_)))
 simp only[seval,EMW]
 cases h
 simp only[seval,FMW,qr86]
 intro v1 qd87
 refine .sR λe h=>?_
 simp only[seval,EMW,qd87]
 refine mU e (.seqK (.condF rfl (.exit QW))) h
 intro v3
 refine Mir.toK (.seqK (.sW ?_))
 refine Mir.join (λv6:Unit=>([.d (.list (zA ac a0)),U,U,.ptr 0 0]++us 75)) (λv6=>⟨[(cJ a1)],[]⟩) (λ_=>rfl) ?_ ?_
 refine .block (.guard λq1=>Mir.range (λ(i2:Nat) (v4:Unit)=>([.d (.list (zA ac a0)),U,U,.ptr 0 0,U,U,U,U,U,U,U,U,U,U,U,U,U,U,U,U,U,U,U,U,U,U,U,U,U,U,U,U,U,U,U,U,U,U,U,U,U,U,.d (.list (zA ac a0)),.d (.int .i64 (a0.length:Int)),.d (.int .i64 (i2:Int))]++us 34)) (λi2 v4=>⟨[(cJ a1)],[]⟩) q1 (λ_ _=>rfl) (by simp only[seval,FMW,zNI]) (by simp only[seval,FMW,zNI]) ?_ ?_)
 intro i2 e3 v4 q2
 refine .sR λe h=>?_
 simp only[seval,EMW,q2]
 refine mU e (.seqK (.condT rfl (.skip (Mir.toK (.seqK (.block (.sR λe h=>?_))))))) h
 simp only[seval,EMW,q2,zI]
 refine mU e (.seqK (Mir.joinO (λv5:Bool=>([.d (.list (zA ac a0)),U,U,.ptr 0 0,U,U,U,U,U,U,U,U,U,U,U,U,U,U,U,U,U,U,U,U,U,U,U,U,U,U,U,U,U,U,U,U,U,U,U,U,U,U,.d (.list (zA ac a0)),.d (.int .i64 (a0.length:Int)),.d (.int .i64 (i2:Int)),U,U,U,U,U,U,U,U,U,U,.d (.bool v5)]++us 23)) (λv5=>⟨[(cJ a1),(cA e3)],[]⟩) (λ_=>rfl) ?_ ?_)) h
 refine .bind λy2 h1=>.ite (λh2=>?_) (λh2=>?_)
 refine .region λe h=>?_
 simp only[seval,EMW,h2]
 refine SpecS.by (lc h1) (by simp only[seval,FMW,h2]) ?_
 simp only[seval,EMW,h2]
 cases h
 simp only[seval,FMW,h2]
 refine .bind λy3 h3=>.region λe h=>?_
 simp only[seval,EMW,h2]
 refine SpecS.by (lc h1) (by simp only[seval,FMW,h2]) ?_
 simp only[seval,EMW,h2]
 refine SpecS.by (lc h3) (by simp only[seval,FMW,h2]) ?_
 simp only[seval,EMW,h2]
 cases h
 simp only[seval,FMW,h2]
 intro v5
 refine Mir.toK (.cond rfl (λh4=>?_) (λh4=>?_))
 refine .sW ?_
 refine .ret QW
 refine .skip (Mir.toB (Mir.toK (.region λe h=>?_)))
 simp only[seval,EMW]
 cases h
 simp only[seval,FMW,q2]
 intro v4 q3
 refine .sR λe h=>?_
 simp only[seval,EMW,q3]
 refine mU e (.seqK (.condF rfl (.exit QW))) h
 intro v6
 refine Mir.toK (.seqK (.sW ?_))
 refine .cond rfl (λh5=>?_) (λh5=>?_)
 refine .sW ?_
 refine .ret QW
 refine .skip (Mir.toK (.seqK (.sW ?_)))
 refine Mir.join (λv8:Unit=>(us 79)) (λv8=>⟨[(cJ a1)],[]⟩) (λ_=>rfl) ?_ ?_
 refine .block (.guard λq4=>Mir.range (λ(i3:Nat) (v7:Unit)=>([U,U,U,.ptr 0 0,U,U,U,U,U,U,U,U,U,U,U,U,U,U,U,U,U,U,U,U,U,U,U,U,U,U,U,U,U,U,U,U,U,U,U,U,U,U,U,U,U,U,U,U,U,U,U,U,U,U,U,U,U,U,U,U,.d (.list (zA ac a0)),.d (.int .i64 (a0.length:Int)),.d (.int .i64 (i3:Int))]++us 16)) (λi3 v7=>⟨[(cJ a1)],[]⟩) q4 (λ_ _=>rfl) (by simp only[seval,FMW,zNI]) (by simp only[seval,FMW,zNI]) ?_ ?_)
 intro i3 e4 v7 q5
 refine .sR λe h=>?_
 simp only[seval,EMW,q5]
 refine mU e (.seqK (.condT rfl (.skip (Mir.toK (.seqK (.block (.sR λe h=>?_))))))) h
 simp only[seval,EMW,q5,zI]
 refine mU e (.seqK (.bind λy4 h6=>.bind λy5 h7=>.bind λy6 h8=>.regionD [] (by kernel_rfl) λe h=>?_)) h
 simp only[seval,EMW,SB]
 refine Spec.by (dW h6) (by simp only[seval,FMW]) ?_
 simp only[seval,EMW,SB]
 refine Spec.by (ct_limit_spec h7) (by simp only[seval,FMW]) ?_
 simp only[seval,EMW,SB]
 refine Spec.by (pf_Steps_spec h8) (by simp only[seval,FMW]) ?_
 simp only[seval,EMW,SB]
 refine mU e (.sW ?_) h
 refine .cond rfl (λh9=>?_) (λh9=>?_)
 refine .sW ?_
 refine .ret QW
 refine .skip (Mir.toB (Mir.toK (.region λe h=>?_)))
 simp only[seval,EMW]
 cases h
 simp only[seval,FMW,q5]
 intro v7 q6
 refine .sR λe h=>?_
 simp only[seval,EMW,q6]
 refine mU e (.seqK (.condF rfl (.exit QW))) h
 intro v8
 refine Mir.toK (.sW ?_)
 refine .ret QW
def bk(a0:List ah):Option (List ah):=aB (okLen a0.length) (some a0)
theorem dM{c0:Nat}{y:List ah}(h:(some [])=some y):Spec gP 48 [.d (.other (.slice none 0 c0))] (.d (.list (zA ac y))):=by
 refine d4 Tryz.func48 rfl (by kernel_rfl) (by kernel_rfl) (λy:List ah=>.d (.list (zA ac y))) ?_ h
 simp only[zE,zH,nS,nA,Tryz.ntmps48,SV]
 refine .sW ?_
 refine .seqK (.sW ?_)
 refine .condT rfl (.sW ?_)
 refine .ret QW
theorem dL{p0:Addr}{c0:Nat}{y:List ah}(h:(some [])=some y):Spec gP 48 [.d (.other (.slice (some p0) 0 c0))] (.d (.list (zA ac y))):=by
 refine d4 Tryz.func48 rfl (by kernel_rfl) (by kernel_rfl) (λy:List ah=>.d (.list (zA ac y))) ?_ h
 simp only[zE,zH,nS,nA,Tryz.ntmps48,SV]
 refine .sW ?_
 refine .seqK (.sW ?_)
 refine .condF rfl (.skip (Mir.toK (.sR λe h=>?_)))
 simp only[seval,EMW,(oL 0),List.all_cons,List.all_nil]
 refine mU e (.ret QW) h
theorem dN{x0:ah}{l0:List ah}{y:List ah}(h:(aB (okLen ((x0::l0).length)) (   some (x0::l0)))=some y):Spec gP 48 [.d (.list (zA ac (x0::l0)))] (.d (.list (zA ac y))):=by
 refine d4 Tryz.func48 rfl (by kernel_rfl) (by kernel_rfl) (λy:List ah=>.d (.list (zA ac y))) ?_ h
 simp only[zE,zH,nS,nA,Tryz.ntmps48,SV]
 refine .sW ?_
 refine .seqK (.sW ?_)
 refine .condF rfl (.skip (Mir.toK (.seqK (.guard λq1=>.region λe h=>?_))))
 simp only[seval,EMW,(oL 0),q1]
 refine mU e (.ret QW) h
theorem dl{a0:List ah}{y:List ah}(h:bk a0=some y):Spec gP 48 [.d (.list (zA ac a0))] (.d (.list (zA ac y))):=by
 obtain⟨hl,h⟩:=iY h
 cases h
 cases a0 with
 | nil =>
  refine Spec.nilcase λA c=>?_
  cases A with
  | none=>exact dM rfl
  | some p=>exact dL rfl
 | cons x l=>exact dN (by simp only[aB,hl])
theorem dI{c0:Nat}{y:List ah}(h:(some [])=some y):SpecO gP 48 [.d (.other (.slice none 0 c0))] 69 (zA ac y):=by
 refine specO_mir Tryz.func48 rfl (by kernel_rfl) (by kernel_rfl) (λy:List ah=>zA ac y) ?_ h
 simp only[zE,zH,nS,nA,Tryz.ntmps48,SV]
 refine .sW ?_
 refine .seqK (.sW ?_)
 refine .condT rfl (.sW ?_)
 refine .ret λe h=>?_
 cases h
 simp only[seval,FMW,fy_r,fy_n,yr_o,yr_n]
theorem dH{p0:Addr}{c0:Nat}{y:List ah}(h:(some [])=some y):SpecO gP 48 [.d (.other (.slice (some p0) 0 c0))] 69 (zA ac y):=by
 refine specO_mir Tryz.func48 rfl (by kernel_rfl) (by kernel_rfl) (λy:List ah=>zA ac y) ?_ h
 simp only[zE,zH,nS,nA,Tryz.ntmps48,SV]
 refine .sW ?_
 refine .seqK (.sW ?_)
 refine .condF rfl (.skip (Mir.toK (.seqK (.regionW λe h=>regW.alt 0 rfl ?_))))
 simp only[seval,EMW]
 refine alt_emptyOwn app_63 (regW.of ?_)
 simp only[seval,EMW,(oL 0)]
 refine mU e (.ret λe h=>?_) h
 cases h
 simp only[seval,FMW,fy_r,fy_n,yr_o,yr_n]
theorem dJ{x0:ah}{l0:List ah}{y:List ah}(h:(aB (okLen (0+(x0::l0).length)) (   some ([]++(x0::l0))))=some y):SpecO gP 48 [.d (.list (zA ac (x0::l0)))] 69 (zA ac y):=by
 refine specO_mir Tryz.func48 rfl (by kernel_rfl) (by kernel_rfl) (λy:List ah=>zA ac y) ?_ h
 simp only[zE,zH,nS,nA,Tryz.ntmps48,SV]
 refine .sW ?_
 refine .seqK (.sW ?_)
 refine .condF rfl (.skip (Mir.toK (.seqK (.guard λq1=>.regionW λe h=>regW.alt 0 rfl ?_))))
 simp only[seval,EMW]
 refine alt_emptyOwn app_63 (regW.of ?_)
 simp only[seval,EMW,(oL 0),q1]
 refine mU e (.ret λe h=>?_) h
 cases h
 simp only[seval,FMW,fy_r,fy_n,yr_o,yr_n]
theorem dj{a0:List ah}{y:List ah}(h:bk a0=some y):SpecO gP 48 [.d (.list (zA ac a0))] 69 (zA ac y):=by
 obtain⟨hl,h⟩:=iY h
 cases h
 cases a0 with
 | nil =>
  refine SpecO.nilcase λA c=>?_
  cases A with
  | none=>exact dI rfl
  | some p=>exact dH rfl
 | cons x l=>exact dJ (by simp only[aB,zJ,List.nil_append,hl])
def bR(a0:ar):Option Bool:=some (a0.at_==(a0.plan.length:Int))
theorem cb{a0:ar}{y:Bool}(h:bR a0=some y):Spec gP 50 [.iptr [.list (zA ac a0.motions),.int .i64 a0.limits.Speed,.int .i64 a0.limits.Accel,.int .i64 a0.limits.Jerk,.int .i64 a0.index,.int .i64 a0.part,.list (zA (eInt .i64) a0.plan),.int .i64 a0.at_,.bool a0.braking,.bool a0.held,.bool a0.broken,.list (zA ac a0.pieces),.int .i64 a0.last.X,.int .i64 a0.last.Y,.int .i64 a0.last.Z] 0] (.d (.bool y)):=by
 refine auW Tryz.func50 (λy:Bool=>.d (.bool y)) ?_ h
 unfold bR
 refine .sW ?_
 refine .seqK (.regionD [] (by kernel_rfl) λe h=>?_)
 simp only[seval,EMW,SB]
 refine mU e (.ret QW) h
def de(a0:ar):Option Int:=bindO (gt a0.motions a0.index) λ(e1:ah)=>bindO (gj e1) λ(y1:Int)=>some (zL.wrap (y1-a0.part))
theorem eK{a0:ar}{y:Int}(h:de a0=some y):Spec gP 52 [.iptr [.list (zA ac a0.motions),.int .i64 a0.limits.Speed,.int .i64 a0.limits.Accel,.int .i64 a0.limits.Jerk,.int .i64 a0.index,.int .i64 a0.part,.list (zA (eInt .i64) a0.plan),.int .i64 a0.at_,.bool a0.braking,.bool a0.held,.bool a0.broken,.list (zA ac a0.pieces),.int .i64 a0.last.X,.int .i64 a0.last.Y,.int .i64 a0.last.Z] 0] (.d (.int .i64 y)):=by
 refine auW Tryz.func52 (λy:Int=>.d (.int .i64 y)) ?_ h
 unfold de
 refine .sW ?_
 refine .seqK (.bind λe1 q1=>?_)
 replace q1:=gt_ok q1
 refine .bind λy1 hy2=>.regionD [] (by kernel_rfl) λe h=>?_
 simp only[seval,EMW,SB,q1]
 refine Spec.by (dW hy2) (by simp only[seval,FMW]) ?_
 simp only[seval,EMW,SB]
 refine mU e (.ret QW) h
def dR(a0:Int)(a1:Int)(a2:Int)(a3:Int):Option Int:=bindO (pf_floor (zL.wrap ((zL.wrap ((zL.wrap (2*(zL.wrap (a1-a0))))*a2))+a3)) (zL.wrap (2*a3))) λ(y1:Int)=>some (zL.wrap (a0+y1))
theorem d8{a0:Int}{a1:Int}{a2:Int}{a3:Int}{y:Int}(h:dR a0 a1 a2 a3=some y):Spec gP 95 [.d (.int .i64 a0),.d (.int .i64 a1),.iptr [.int .i64 a2] 0,.iptr [.int .i64 a3] 0] (.d (.int .i64 y)):=by
 refine auW Tryz.func95 (λy:Int=>.d (.int .i64 y)) ?_ h
 unfold dR
 refine .sW ?_
 refine .seqK (.bind λy1 hy1=>.region λe h=>WW ?_)
 refine .byW (pf_floor_spec hy1) (mW ?_ h)
 refine .ret QW
def kT(a0:aa)(a1:aa)(a2:Int)(a3:Int):Option (aa×Int):=if ((decide (a3<1))||((decide (a2<0))||(decide (a2>a3))))=true then some (aa.mk 0 0 0,1)else bindX (bindO (bK a3 (-40000000) 40000000) λ(y1:Bool)=>if (!y1)=true then some (.ret (aa.mk 0 0 0,11))else bindO (bK a0.X (-40000000) 40000000) λ(y2:Bool)=>if (!y2)=true then some (.ret (aa.mk 0 0 0,11))else bindO (bK a0.Y (-40000000) 40000000) λ(y3:Bool)=>if (!y3)=true then some (.ret (aa.mk 0 0 0,11))else bindO (bK a0.Z (-40000000) 40000000) λ(y4:Bool)=>if (!y4)=true then some (.ret (aa.mk 0 0 0,11))else bindO (bK a1.X (-40000000) 40000000) λ(y5:Bool)=>if (!y5)=true then some (.ret (aa.mk 0 0 0,11))else bindO (bK a1.Y (-40000000) 40000000) λ(y6:Bool)=>if (!y6)=true then some (.ret (aa.mk 0 0 0,11))else bindO (bK a1.Z (-40000000) 40000000) λ(y7:Bool)=>if (!y7)=true then some (.ret (aa.mk 0 0 0,11))else some (.go ())) λ(v1:Unit)=>bindO (dR a0.X a1.X a2 a3) λ(y8:Int)=>bindO (dR a0.Y a1.Y a2 a3) λ(y9:Int)=>bindO (dR a0.Z a1.Z a2 a3) λ(y10:Int)=>some (aa.mk y8 y9 y10,0)
theorem pf_Position_spec{a0:aa}{a1:aa}{a2:Int}{a3:Int}{y:aa×Int}(h:kT a0 a1 a2 a3=some y):Spec gP 56 [.agg (cH a0),.agg (cH a1),.d (.int .i64 a2),.d (.int .i64 a3)] (.tuple [.agg [.d (.int .i64 y.1.X),.d (.int .i64 y.1.Y),.d (.int .i64 y.1.Z)],.d (.int .i64 y.2)]):=by
 refine auW Tryz.func56 (λy:aa×Int=>.tuple [.agg [.d (.int .i64 y.1.X),.d (.int .i64 y.1.Y),.d (.int .i64 y.1.Z)],.d (.int .i64 y.2)]) ?_ h
 unfold kT
 refine .seqK (.regionW λe h=>regW.alt 2 rfl ?_)
 simp only[seval,EMW]
 refine alt_boxF [.int .i64 a2] _ rfl rfl (regW.alt 0 rfl ?_)
 simp only[seval,EMW]
 refine alt_boxF [.int .i64 a3] _ rfl rfl (regW.of ?_)
 simp only[seval,EMW]
 refine mU e (.seqK (.seqK (.joinV ([U,U,U,U,.ptr 0 0,.ptr 1 0,.iptr [.int .i64 a2] 0,.iptr [.int .i64 a3] 0,.ptr 2 0,U,U,U,U,U,U,U,U,U,U,U,U,U,U,.d (.bool ((decide (a3<1))||((decide (a2<0))||(decide (a2>a3)))))]++us 45) ⟨[(cH a0),(cH a1),[.d (.int .i64 0),.d (.int .i64 0),.d (.int .i64 0)]],[]⟩ rfl ?_ ?_))) h
 refine SWs.region ?_
 rcases zF (decide (a3<1))with hb1 | hb1
 simp only[seval,EMW,SL,PB,hb1]
 rcases zF (decide (a2<0))with hb2 | hb2
 simp only[seval,EMW,SL,PB,hb1,hb2]
 simp only[seval,EMW,SL,PB,hb1,hb2]
 refine Mir.toK (.cond rfl (λhb4=>?_) (λhb4=>?_))
 refine .sW ?_
 refine .ret QW
 refine .skip (Mir.toK (.seqK (.sR λe h=>?_)))
 simp only[seval,EMW,(oL 7),(nr rfl:((7:Nat):Int)=7)]
 refine mU e (Mir.join (λv1:Unit=>([U,U,U,U,.ptr 0 0,.ptr 1 0,.iptr [.int .i64 a2] 0,.iptr [.int .i64 a3] 0,.ptr 2 0]++us 60)) (λv1=>⟨[(cH a0),(cH a1),[.d (.int .i64 0),.d (.int .i64 0),.d (.int .i64 0)]],[]⟩) (λ_=>rfl) ?_ ?_) h
 refine .block (.loopR 15 (.sW ?_))
 refine .seqK (.condT rfl (.skip (Mir.toK (.seqK (.block (.sW ?_))))))
 refine .seqK (.bind λy1 hy42=>.region λe h=>WW ?_)
 refine .byW (aJ hy42) (mW ?_ h)
 refine .cond rfl (λhb44=>?_) (λhb44=>?_)
 refine .sW ?_
 refine .ret QW
 refine .skip (Mir.toB (Mir.toK (.region λe h=>?_)))
 simp only[seval,EMW,(nr rfl:zL.wrap 1=1)]
 refine Mir.useN (e:=e) ?_ h
 refine .sW ?_
 refine .seqK (.condT rfl (.skip (Mir.toK (.seqK (.block (.sW ?_))))))
 refine .seqK (.bind λy2 hy47=>.region λe h=>WW ?_)
 refine .byW (aJ hy47) (mW ?_ h)
 refine .cond rfl (λhb49=>?_) (λhb49=>?_)
 refine .sW ?_
 refine .ret QW
 refine .skip (Mir.toB (Mir.toK (.region λe h=>?_)))
 simp only[seval,EMW,(nr rfl:zL.wrap 2=2)]
 refine Mir.useN (e:=e) ?_ h
 refine .sW ?_
 refine .seqK (.condT rfl (.skip (Mir.toK (.seqK (.block (.sW ?_))))))
 refine .seqK (.bind λy3 hy52=>.region λe h=>WW ?_)
 refine .byW (aJ hy52) (mW ?_ h)
 refine .cond rfl (λhb54=>?_) (λhb54=>?_)
 refine .sW ?_
 refine .ret QW
 refine .skip (Mir.toB (Mir.toK (.region λe h=>?_)))
 simp only[seval,EMW,(nr rfl:zL.wrap 3=3)]
 refine Mir.useN (e:=e) ?_ h
 refine .sW ?_
 refine .seqK (.condT rfl (.skip (Mir.toK (.seqK (.block (.sW ?_))))))
 refine .seqK (.bind λy4 hy57=>.region λe h=>WW ?_)
 refine .byW (aJ hy57) (mW ?_ h)
 refine .cond rfl (λhb59=>?_) (λhb59=>?_)
 refine .sW ?_
 refine .ret QW
 refine .skip (Mir.toB (Mir.toK (.region λe h=>?_)))
 simp only[seval,EMW,(nr rfl:zL.wrap 4=4)]
 refine Mir.useN (e:=e) ?_ h
 refine .sW ?_
 refine .seqK (.condT rfl (.skip (Mir.toK (.seqK (.block (.sW ?_))))))
 refine .seqK (.bind λy5 hy62=>.region λe h=>WW ?_)
 refine .byW (aJ hy62) (mW ?_ h)
 refine .cond rfl (λhb64=>?_) (λhb64=>?_)
 refine .sW ?_
 refine .ret QW
 refine .skip (Mir.toB (Mir.toK (.region λe h=>?_)))
 simp only[seval,EMW,(nr rfl:zL.wrap 5=5)]
 refine Mir.useN (e:=e) ?_ h
 refine .sW ?_
 refine .seqK (.condT rfl (.skip (Mir.toK (.seqK (.block (.sW ?_))))))
 refine .seqK (.bind λy6 hy67=>.region λe h=>WW ?_)
 refine .byW (aJ hy67) (mW ?_ h)
 refine .cond rfl (λhb69=>?_) (λhb69=>?_)
 refine .sW ?_
 refine .ret QW
 refine .skip (Mir.toB (Mir.toK (.region λe h=>?_)))
 simp only[seval,EMW,(nr rfl:zL.wrap 6=6)]
 refine Mir.useN (e:=e) ?_ h
 refine .sW ?_
 refine .seqK (.condT rfl (.skip (Mir.toK (.seqK (.block (.sW ?_))))))
 refine .seqK (.bind λy7 hy72=>.region λe h=>WW ?_)
 refine .byW (aJ hy72) (mW ?_ h)
 refine .cond rfl (λhb74=>?_) (λhb74=>?_)
 refine .sW ?_
 refine .ret QW
 refine .skip (Mir.toB (Mir.toK (.region λe h=>?_)))
 simp only[seval,EMW,(nr rfl:zL.wrap 7=7)]
 refine Mir.useN (e:=e) ?_ h
 refine .sW ?_
 refine .seqK (.condF rfl (.exit QW))
 intro v1
 refine Mir.toK (.sW ?_)
 refine .seqK (.bind λy8 hy75=>.bind λy9 hy76=>.bind λy10 hy77=>.regionD [] (by kernel_rfl) λe h=>?_)
 simp only[seval,EMW,SB]
 refine Spec.by (d8 hy75) (by simp only[seval,FMW]) ?_
 simp only[seval,EMW,SB]
 refine Spec.by (d8 hy76) (by simp only[seval,FMW]) ?_
 simp only[seval,EMW,SB]
 refine Spec.by (d8 hy77) (by simp only[seval,FMW]) ?_
 simp only[seval,EMW,SB]
 refine mU e (.ret QW) h
def bI(a0:ar):Option aa:=if ((a0.motions.length:Int)==0)=true then some (aa.mk 0 0 0)else if (a0.index==(a0.motions.length:Int))=true then bindO (gt a0.motions (zL.wrap (a0.index-1))) λ(e1:ah)=>some e1.To else bindO (gt a0.motions a0.index) λ(e2:ah)=>bindO (gj e2) λ(y1:Int)=>bindO (kT e2.From e2.To a0.part y1) λ(y2:aa×Int)=>some y2.1
theorem aR{a0:ar}{y:aa}(h:bI a0=some y):Spec gP 16 [.iptr [.list (zA ac a0.motions),.int .i64 a0.limits.Speed,.int .i64 a0.limits.Accel,.int .i64 a0.limits.Jerk,.int .i64 a0.index,.int .i64 a0.part,.list (zA (eInt .i64) a0.plan),.int .i64 a0.at_,.bool a0.braking,.bool a0.held,.bool a0.broken,.list (zA ac a0.pieces),.int .i64 a0.last.X,.int .i64 a0.last.Y,.int .i64 a0.last.Z] 0] (.agg [.d (.int .i64 y.X),.d (.int .i64 y.Y),.d (.int .i64 y.Z)]):=by
 refine auW Tryz.func16 (λy:aa=>.agg [.d (.int .i64 y.X),.d (.int .i64 y.Y),.d (.int .i64 y.Z)]) ?_ h
 unfold bI
 refine .sW ?_
 refine .seqK (.block (.sW ?_))
 refine .cond rfl (λhb7=>?_) (λhb7=>?_)
 refine .sW ?_
 refine .ret QW
 refine .seqK (.regionD [] (by kernel_rfl) λe h=>?_)
 simp only[seval,EMW,SB]
 refine mU e (.cond rfl (λhb10=>?_) (λhb10=>?_)) h
 refine .seqK (.bind λe1 q11=>?_)
 replace q11:=gt_ok q11
 refine .regionD [] (by kernel_rfl) λe h=>?_
 simp only[seval,EMW,SB,q11]
 refine mU e (.ret QW) h
 refine .skip (Mir.toB (Mir.toK (.seqK (.bind λe2 q12=>?_))))
 replace q12:=gt_ok q12
 refine .regionD [] (by kernel_rfl) λe h=>?_
 simp only[seval,EMW,SB,q12]
 refine mU e (.seqK (.bind λy1 hy13=>.bind λy2 hy14=>.regionD [] (by kernel_rfl) λe h=>?_)) h
 simp only[seval,EMW,SB]
 refine Spec.by (dW hy13) (by simp only[seval,FMW]) ?_
 simp only[seval,EMW,SB]
 refine Spec.by (pf_Position_spec hy14) (by simp only[seval,FMW]) ?_
 simp only[seval,EMW,SB]
 refine mU e (.sW ?_) h
 refine .ret QW
def cX(a0:ar):Option (ah×Bool):=if (a0.index==(a0.motions.length:Int))=true then some (ah.mk (aa.mk 0 0 0) (aa.mk 0 0 0) 0 0 0,false)else bindO (gt a0.motions a0.index) λ(e1:ah)=>bindO (bI (ar.mk a0.motions a0.limits a0.index a0.part a0.plan a0.at_ a0.braking a0.held a0.broken a0.pieces a0.last)) λ(y1:aa)=>some (ah.mk a0.last y1 e1.Rate e1.Tool e1.Block,!((a0.last.X==y1.X)&&((a0.last.Y==y1.Y)&&(a0.last.Z==y1.Z))))
theorem eu{a0:ar}{y:ah×Bool}(h:cX a0=some y):Spec gP 55 [.iptr [.list (zA ac a0.motions),.int .i64 a0.limits.Speed,.int .i64 a0.limits.Accel,.int .i64 a0.limits.Jerk,.int .i64 a0.index,.int .i64 a0.part,.list (zA (eInt .i64) a0.plan),.int .i64 a0.at_,.bool a0.braking,.bool a0.held,.bool a0.broken,.list (zA ac a0.pieces),.int .i64 a0.last.X,.int .i64 a0.last.Y,.int .i64 a0.last.Z] 0] (.tuple [.agg [.d (.int .i64 y.1.From.X),.d (.int .i64 y.1.From.Y),.d (.int .i64 y.1.From.Z),.d (.int .i64 y.1.To.X),.d (.int .i64 y.1.To.Y),.d (.int .i64 y.1.To.Z),.d (.int .i64 y.1.Rate),.d (.int .i64 y.1.Tool),.d (.int .i64 y.1.Block)],.d (.bool y.2)]):=by
 refine auW Tryz.func55 (λy:ah×Bool=>.tuple [.agg [.d (.int .i64 y.1.From.X),.d (.int .i64 y.1.From.Y),.d (.int .i64 y.1.From.Z),.d (.int .i64 y.1.To.X),.d (.int .i64 y.1.To.Y),.d (.int .i64 y.1.To.Z),.d (.int .i64 y.1.Rate),.d (.int .i64 y.1.Tool),.d (.int .i64 y.1.Block)],.d (.bool y.2)]) ?_ h
 unfold cX
 refine .sW ?_
 refine .seqK (.seqK (.regionD [] (by kernel_rfl) λe h=>?_))
 simp only[seval,EMW,SB]
 refine mU e (.cond rfl (λhb2=>?_) (λhb2=>?_)) h
 refine .sW ?_
 refine .ret QW
 refine .skip (Mir.toK (.seqK (.bind λe1 q3=>?_)))
 replace q3:=gt_ok q3
 refine .regionD [] (by kernel_rfl) λe h=>?_
 simp only[seval,EMW,SB,q3]
 refine mU e (.seqK (.bind λy1 hy4=>.regionD [] (by kernel_rfl) λe h=>?_)) h
 simp only[seval,EMW,SB]
 refine Spec.by (aR hy4) (by simp only[seval,FMW]) ?_
 simp only[seval,EMW,SB]
 refine mU e (.seqK (.regionD [(35,2),(37,2)] (by kernel_rfl) λe h=>?_)) h
 simp only[seval,EMW,SB,gE_23]
 refine mU e (.ret QW) h
def fP :Option Bool:=bindO (bindO (ct_check [ah.mk (aa.mk 0 0 0) (aa.mk 500 (-200) 0) 40000 2 0] (az.mk 100 50 60)) λ(y1:Int)=>if (y1 != 0)=true then none else bindO (bk [ah.mk (aa.mk 0 0 0) (aa.mk 500 (-200) 0) 40000 2 0]) λ(y2:(List ah))=>bindO (loopX (λ(v1:Int)=>bindO (if (decide (v1<(y2.length:Int)))=true then bindO (gt y2 v1) λ(e1:ah)=>bindO (gj e1) λ(y3:Int)=>some (y3==0)else some false) λ(v2:Bool)=>if v2=true then some (.go (zL.wrap (v1+1)))else some (.ret v1)) fuel 0) λ(v3:Int)=>some (ar.mk y2 (az.mk 100 50 60) v3 0 [] 0 false false false [] ((ah.mk (aa.mk 0 0 0) (aa.mk 500 (-200) 0) 40000 2 0).From))) λ(v4:ar)=>bindX (loopX (λ(v5:Int×ar)=>bindO (if (v5.2.broken||(v5.2.index==(v5.2.motions.length:Int)))=true then some (false,v5.2)else bindO (bR v5.2) λ(y4:Bool)=>bindX (if y4=true then if v5.2.held=true then some (.ret (false,v5.2))else bindO (de v5.2) λ(y5:Int)=>bindO (gt v5.2.motions v5.2.index) λ(e2:ah)=>bindO (ct_limit e2 v5.2.limits) λ(y6:az)=>bindO (pf_Steps y5 y6) λ(y7:(List Int)×Int)=>if ((y7.2 != 0)||((y7.1.length:Int)==0))=true then some (.ret (false,v5.2))else some (.go (ar.mk v5.2.motions v5.2.limits v5.2.index v5.2.part y7.1 0 false v5.2.held v5.2.broken v5.2.pieces v5.2.last))else some (.go v5.2)) λ(v6:ar)=>bindO (gt v6.plan v6.at_) λ(e3:Int)=>bindO (bR (ar.mk v6.motions v6.limits v6.index (zL.wrap (v6.part+e3)) v6.plan (zL.wrap (v6.at_+1)) v6.braking v6.held v6.broken v6.pieces v6.last)) λ(y8:Bool)=>bindO (if y8=true then bindO (bindO (cX (ar.mk v6.motions v6.limits v6.index (zL.wrap (v6.part+e3)) [] 0 false v6.held v6.broken v6.pieces v6.last)) λ(y9:ah×Bool)=>bindO (if y9.2=true then aB (okLen (v6.pieces.length+1)) ( some (v6.pieces++[y9.1]))else some v6.pieces) λ(v7:(List ah))=>bindO (bI (ar.mk v6.motions v6.limits v6.index (zL.wrap (v6.part+e3)) [] 0 false v6.held v6.broken v7 v6.last)) λ(y10:aa)=>bindO (de (ar.mk v6.motions v6.limits v6.index (zL.wrap (v6.part+e3)) [] 0 false v6.held v6.broken v7 y10)) λ(y11:Int)=>if (y11==0)=true then bindO (loopX (λ(v8:Int)=>bindO (if (decide (v8<(v6.motions.length:Int)))=true then bindO (gt v6.motions v8) λ(e4:ah)=>bindO (gj e4) λ(y12:Int)=>some (y12==0)else some false) λ(v9:Bool)=>if v9=true then some (.go (zL.wrap (v8+1)))else some (.ret v8)) fuel (zL.wrap (v6.index+1))) λ(v10:Int)=>some (ar.mk v6.motions v6.limits v10 0 [] 0 false v6.held v6.broken v7 y10)else some (ar.mk v6.motions v6.limits v6.index (zL.wrap (v6.part+e3)) [] 0 false v6.held v6.broken v7 y10)) λ(v11:ar)=>some v11 else some (ar.mk v6.motions v6.limits v6.index (zL.wrap (v6.part+e3)) v6.plan (zL.wrap (v6.at_+1)) v6.braking v6.held v6.broken v6.pieces v6.last)) λ(v12:ar)=>some (true,v12)) λ(v13:Bool×ar)=>if v13.1=true then if (decide ((zL.wrap (v5.1+1))>2000))=true then some (.ret (.ret false))else some (.go (zL.wrap (v5.1+1),v13.2))else some (.ret (.go (v5.1,v13.2)))) fuel (0,v4)) λ(v14:Int×ar)=>bindO (bindO (bk v14.2.pieces) λ(y13:(List ah))=>bindO (cX v14.2) λ(y14:ah×Bool)=>bindO (if y14.2=true then bindO (bR v14.2) λ(y15:Bool)=>some (!y15)else some false) λ(v15:Bool)=>bindO (if v15=true then aB (okLen (y13.length+1)) ( some (y13++[y14.1]))else some y13) λ(v16:(List ah))=>some v16) λ(v17:(List ah))=>bindO (if (decide (v14.1>0))=true then if ((v17.length:Int)==1)=true then bindO (gt v17 0) λ(e5:ah)=>if ((e5.From.X==0)&&((e5.From.Y==0)&&((e5.From.Z==0)&&((e5.To.X==500)&&((e5.To.Y==(-200))&&((e5.To.Z==0)&&((e5.Rate==40000)&&((e5.Tool==2)&&(e5.Block==0)))))))))=true then bindO (bI v14.2) λ(y16:aa)=>some ((y16.X==500)&&((y16.Y==(-200))&&(y16.Z==0)))else some false else some false else some false) λ(v18:Bool)=>some v18
theorem cZ {y:Bool}(h:fP=some y):Spec gP 4 [] (.d (.bool y)):=by
 refine auW Tryz.func4 (λy:Bool=>.d (.bool y)) ?_ h
 unfold fP
 refine .sW ?_
 refine .sW ?_
 refine .seqK (.bind λv4 hv48=>.region λe h=>?_)
 simp only[seval,EMW,(oL 9)]
 refine SpecS.inl Tryz.func13 rfl (by kernel_rfl) (by kernel_rfl) (λv4:ar=>.tuple [.ptr 2 0,.d (.int .i64 0)]) (λv4=>⟨[[.d (.int .i64 0),.d (.int .i64 0),.d (.int .i64 0),.d (.int .i64 500),.d (.int .i64 (-200)),.d (.int .i64 0),.d (.int .i64 40000),.d (.int .i64 2),.d (.int .i64 0)],[.d (.int .i64 100),.d (.int .i64 50),.d (.int .i64 60)],[.d (.list (zA ac v4.motions)),.d (.int .i64 v4.limits.Speed),.d (.int .i64 v4.limits.Accel),.d (.int .i64 v4.limits.Jerk),.d (.int .i64 v4.index),.d (.int .i64 v4.part),.d (.list (zA (eInt .i64) v4.plan)),.d (.int .i64 v4.at_),.d (.bool v4.braking),.d (.bool v4.held),.d (.bool v4.broken),.own 0 (zA ac v4.pieces),.d (.int .i64 v4.last.X),.d (.int .i64 v4.last.Y),.d (.int .i64 v4.last.Z)]],[(69,v4.pieces.length)]⟩) hv48 rfl ?_ ?_
 simp only[zE,zH,nS,nA,Tryz.ntmps13,SV]
 refine .sW ?_
 refine .seqK (.seqK (.bind λy1 hy49=>.region λe h=>WW ?_))
 refine .byW (ct_check_spec hy49) (mW ?_ h)
 refine .sW ?_
 refine .cond rfl (λhb51=>?_) (λhb51=>?_)
 exact Mir.no
 refine .skip (Mir.toK (.seqK (.bind λy2 hy52=>.regionD [] (by kernel_rfl) λe h=>?_)))
 simp only[seval,EMW,SB]
 refine Spec.by (dl hy52) (by simp only[seval,FMW]) ?_
 simp only[seval,EMW,SB]
 refine mU e (.seqK (.sR λe h=>?_)) h
 simp only[seval,EMW,(nr rfl:((1:Nat):Int)=1),(nr rfl:(decide ((1:Int)>0))=true)]
 refine mU e (.condT rfl (.region λe h=>WW ?_)) h
 refine mU e (.seqK (.bind λv3 hv95=>.region λe h=>WW ?_)) h
 refine SpecS.inl Tryz.func49 rfl (by kernel_rfl) (by kernel_rfl) (λv3:Int=>.tuple []) (λv3=>⟨[[.d (.int .i64 0),.d (.int .i64 0),.d (.int .i64 0),.d (.int .i64 500),.d (.int .i64 (-200)),.d (.int .i64 0),.d (.int .i64 40000),.d (.int .i64 2),.d (.int .i64 0)],[.d (.int .i64 100),.d (.int .i64 50),.d (.int .i64 60)],[.d (.list (zA ac y2)),.d (.int .i64 100),.d (.int .i64 50),.d (.int .i64 60),.d (.int .i64 v3),.d (.int .i64 0),.nil,.d (.int .i64 0),.d (.bool false),.d (.bool false),.d (.bool false),.own 0 (zA ac []),.d (.int .i64 ((ah.mk (aa.mk 0 0 0) (aa.mk 500 (-200) 0) 40000 2 0).From.X)),.d (.int .i64 ((ah.mk (aa.mk 0 0 0) (aa.mk 500 (-200) 0) 40000 2 0).From.Y)),.d (.int .i64 ((ah.mk (aa.mk 0 0 0) (aa.mk 500 (-200) 0) 40000 2 0).From.Z))]],[(69,0)]⟩) hv95 rfl ?_ ?_
 simp only[zE,zH,nS,nA,Tryz.ntmps49,SV]
 refine .gh [.cell 2 11 69] rfl (.block (Mir.loop (λv1:Int=>([.ptr 2 0]++us 32)) (λv1=>⟨[[.d (.int .i64 0),.d (.int .i64 0),.d (.int .i64 0),.d (.int .i64 500),.d (.int .i64 (-200)),.d (.int .i64 0),.d (.int .i64 40000),.d (.int .i64 2),.d (.int .i64 0)],[.d (.int .i64 100),.d (.int .i64 50),.d (.int .i64 60)],[.d (.list (zA ac y2)),.d (.int .i64 100),.d (.int .i64 50),.d (.int .i64 60),.d (.int .i64 v1),.d (.int .i64 0),.nil,.d (.int .i64 0),.d (.bool false),.d (.bool false),.d (.bool false),.own 0 (zA ac []),.d (.int .i64 ((ah.mk (aa.mk 0 0 0) (aa.mk 500 (-200) 0) 40000 2 0).From.X)),.d (.int .i64 ((ah.mk (aa.mk 0 0 0) (aa.mk 500 (-200) 0) 40000 2 0).From.Y)),.d (.int .i64 ((ah.mk (aa.mk 0 0 0) (aa.mk 500 (-200) 0) 40000 2 0).From.Z))]],[(69,0)]⟩) (λ_=>rfl) (by simp only[seval,FMW]) (by simp only[seval,FMW]) λv1=>.seqK (.seqK (Mir.joinO (λv2:Bool=>([.ptr 2 0,U,U,U,U,U,U,U,U,U,U,U,U,U,U,U,U,U,U,U,U,U,U,U,U,.d (.bool v2)]++us 7)) (λv2=>⟨[[.d (.int .i64 0),.d (.int .i64 0),.d (.int .i64 0),.d (.int .i64 500),.d (.int .i64 (-200)),.d (.int .i64 0),.d (.int .i64 40000),.d (.int .i64 2),.d (.int .i64 0)],[.d (.int .i64 100),.d (.int .i64 50),.d (.int .i64 60)],[.d (.list (zA ac y2)),.d (.int .i64 100),.d (.int .i64 50),.d (.int .i64 60),.d (.int .i64 v1),.d (.int .i64 0),.nil,.d (.int .i64 0),.d (.bool false),.d (.bool false),.d (.bool false),.own 0 (zA ac []),.d (.int .i64 ((ah.mk (aa.mk 0 0 0) (aa.mk 500 (-200) 0) 40000 2 0).From.X)),.d (.int .i64 ((ah.mk (aa.mk 0 0 0) (aa.mk 500 (-200) 0) 40000 2 0).From.Y)),.d (.int .i64 ((ah.mk (aa.mk 0 0 0) (aa.mk 500 (-200) 0) 40000 2 0).From.Z))]],[(69,0)]⟩) (λ_=>rfl) ?_ ?_))))
 refine .ite (λh1=>?_) (λh1=>?_)
 refine .bind λe1 q1=>?_
 replace q1:=gt_ok q1
 refine .bind λy3 h2=>.regionD [] (by kernel_rfl) λe h=>?_
 simp only[seval,EMW,SB,q1,h1]
 refine Spec.by (dW h2) (by simp only[seval,FMW,h1]) ?_
 simp only[seval,EMW,SB,h1]
 cases h
 simp only[seval,FMW,h1]
 refine .regionD [] (by kernel_rfl) λe h=>?_
 simp only[seval,EMW,SB,h1]
 cases h
 simp only[seval,FMW,h1]
 intro v2
 refine Mir.toK (.cond rfl (λh3=>?_) (λh3=>?_))
 refine .skip (Mir.toK (.block (.rW)))
 refine .exit QW
 simp only[seval,EMW]
 refine mU e (.sW ?_) h
 refine .ret QW
 simp only[seval,EMW]
 refine mU e (.seqK (.sR λe h=>?_)) h
 simp only[seval,EMW,(nr rfl:((0:Int) != 0)=false)]
 refine mU e (.condF rfl (.skip (Mir.toK (.sW ?_)))) h
 refine .seqK (Mir.join (λv14:Int×ar=>([U,.ptr 0 0,.ptr 2 0,U,.d (.int .i64 v14.1)]++us 41)) (λv14=>⟨[[.d (.int .i64 0),.d (.int .i64 0),.d (.int .i64 0),.d (.int .i64 500),.d (.int .i64 (-200)),.d (.int .i64 0),.d (.int .i64 40000),.d (.int .i64 2),.d (.int .i64 0)],[.d (.int .i64 100),.d (.int .i64 50),.d (.int .i64 60)],[.d (.list (zA ac v14.2.motions)),.d (.int .i64 v14.2.limits.Speed),.d (.int .i64 v14.2.limits.Accel),.d (.int .i64 v14.2.limits.Jerk),.d (.int .i64 v14.2.index),.d (.int .i64 v14.2.part),.d (.list (zA (eInt .i64) v14.2.plan)),.d (.int .i64 v14.2.at_),.d (.bool v14.2.braking),.d (.bool v14.2.held),.d (.bool v14.2.broken),.own 0 (zA ac v14.2.pieces),.d (.int .i64 v14.2.last.X),.d (.int .i64 v14.2.last.Y),.d (.int .i64 v14.2.last.Z)]],[(69,v14.2.pieces.length)]⟩) (λ_=>rfl) ?_ ?_)
 refine .block (Mir.loop (λv5:Int×ar=>([U,.ptr 0 0,.ptr 2 0,U,.d (.int .i64 v5.1)]++us 41)) (λv5=>⟨[[.d (.int .i64 0),.d (.int .i64 0),.d (.int .i64 0),.d (.int .i64 500),.d (.int .i64 (-200)),.d (.int .i64 0),.d (.int .i64 40000),.d (.int .i64 2),.d (.int .i64 0)],[.d (.int .i64 100),.d (.int .i64 50),.d (.int .i64 60)],[.d (.list (zA ac v5.2.motions)),.d (.int .i64 v5.2.limits.Speed),.d (.int .i64 v5.2.limits.Accel),.d (.int .i64 v5.2.limits.Jerk),.d (.int .i64 v5.2.index),.d (.int .i64 v5.2.part),.d (.list (zA (eInt .i64) v5.2.plan)),.d (.int .i64 v5.2.at_),.d (.bool v5.2.braking),.d (.bool v5.2.held),.d (.bool v5.2.broken),.own 0 (zA ac v5.2.pieces),.d (.int .i64 v5.2.last.X),.d (.int .i64 v5.2.last.Y),.d (.int .i64 v5.2.last.Z)]],[(69,v5.2.pieces.length)]⟩) (λ_=>rfl) (by simp only[seval,FMW]) (by simp only[seval,FMW]) λv5=>.seqK (.seqK (.bind λv13 h4=>.region λe h=>WW ?_)))
 refine SpecS.inl Tryz.func14 rfl (by kernel_rfl) (by kernel_rfl) (λv13:Bool×ar=>.d (.bool v13.1)) (λv13=>⟨[[.d (.int .i64 0),.d (.int .i64 0),.d (.int .i64 0),.d (.int .i64 500),.d (.int .i64 (-200)),.d (.int .i64 0),.d (.int .i64 40000),.d (.int .i64 2),.d (.int .i64 0)],[.d (.int .i64 100),.d (.int .i64 50),.d (.int .i64 60)],[.d (.list (zA ac v13.2.motions)),.d (.int .i64 v13.2.limits.Speed),.d (.int .i64 v13.2.limits.Accel),.d (.int .i64 v13.2.limits.Jerk),.d (.int .i64 v13.2.index),.d (.int .i64 v13.2.part),.d (.list (zA (eInt .i64) v13.2.plan)),.d (.int .i64 v13.2.at_),.d (.bool v13.2.braking),.d (.bool v13.2.held),.d (.bool v13.2.broken),.own 0 (zA ac v13.2.pieces),.d (.int .i64 v13.2.last.X),.d (.int .i64 v13.2.last.Y),.d (.int .i64 v13.2.last.Z)]],[(69,v13.2.pieces.length)]⟩) h4 rfl ?_ ?_
 simp only[zE,zH,nS,nA,Tryz.ntmps14,SV]
 refine .sW ?_
 refine .seqK (.seqK (.joinV ([.ptr 2 0,U,U,U,U,U,U,U,U,U,U,U,U,U,U,U,U,U,U,U,.d (.bool (v5.2.broken||(v5.2.index==(v5.2.motions.length:Int))))]++us 72) ⟨[[.d (.int .i64 0),.d (.int .i64 0),.d (.int .i64 0),.d (.int .i64 500),.d (.int .i64 (-200)),.d (.int .i64 0),.d (.int .i64 40000),.d (.int .i64 2),.d (.int .i64 0)],[.d (.int .i64 100),.d (.int .i64 50),.d (.int .i64 60)],[.d (.list (zA ac v5.2.motions)),.d (.int .i64 v5.2.limits.Speed),.d (.int .i64 v5.2.limits.Accel),.d (.int .i64 v5.2.limits.Jerk),.d (.int .i64 v5.2.index),.d (.int .i64 v5.2.part),.d (.list (zA (eInt .i64) v5.2.plan)),.d (.int .i64 v5.2.at_),.d (.bool v5.2.braking),.d (.bool v5.2.held),.d (.bool v5.2.broken),.own 0 (zA ac v5.2.pieces),.d (.int .i64 v5.2.last.X),.d (.int .i64 v5.2.last.Y),.d (.int .i64 v5.2.last.Z)]],[(69,v5.2.pieces.length)]⟩ rfl ?_ ?_))
 refine SWs.regionD (L:=[]) (by kernel_rfl) ?_
 rcases zF (v5.2.broken)with h5 | h5
 simp only[seval,EMW,SB,SL,PB,h5]
 simp only[seval,EMW,SB,SL,PB,h5]
 refine Mir.toK (.cond rfl (λh6=>?_) (λh6=>?_))
 refine .sW ?_
 refine .ret QW
 refine .skip (Mir.toK (.seqK (.seqK (.bind λy4 h7=>.region λe h=>WW ?_))))
 refine SpecS.byP (cb h7) rfl (by simp only[seval,FMW]) (.bool _) ?_
 simp only[seval,EMW]
 refine mU e (Mir.join (λv6:ar=>([.ptr 2 0]++us 92)) (λv6=>⟨[[.d (.int .i64 0),.d (.int .i64 0),.d (.int .i64 0),.d (.int .i64 500),.d (.int .i64 (-200)),.d (.int .i64 0),.d (.int .i64 40000),.d (.int .i64 2),.d (.int .i64 0)],[.d (.int .i64 100),.d (.int .i64 50),.d (.int .i64 60)],[.d (.list (zA ac v6.motions)),.d (.int .i64 v6.limits.Speed),.d (.int .i64 v6.limits.Accel),.d (.int .i64 v6.limits.Jerk),.d (.int .i64 v6.index),.d (.int .i64 v6.part),.d (.list (zA (eInt .i64) v6.plan)),.d (.int .i64 v6.at_),.d (.bool v6.braking),.d (.bool v6.held),.d (.bool v6.broken),.own 0 (zA ac v6.pieces),.d (.int .i64 v6.last.X),.d (.int .i64 v6.last.Y),.d (.int .i64 v6.last.Z)]],[(69,v6.pieces.length)]⟩) (λ_=>rfl) ?_ ?_) h
 refine .cond rfl (λh8=>?_) (λh8=>?_)
 refine .seqK (.sW ?_)
 refine .cond rfl (λh9=>?_) (λh9=>?_)
 refine .sW ?_
 refine .ret QW
 refine .skip (Mir.toK (.seqK (.bind λy5 h10=>.bind λe2 q2=>?_)))
 replace q2:=gt_ok q2
 refine .bind λy6 h11=>.bind λy7 h12=>Mir.regionA 0 [] ([.ptr 2 0,U,U,.d (.list (zA (eInt .i64) y7.1)),.d (.int .i64 y7.2),U,U,U,U,U,U,U,U,U,U,U,U,U,U,U,.d (.bool (v5.2.broken||(v5.2.index==(v5.2.motions.length:Int)))),.ptr 2 0,.d (.bool y4),.ptr 2 0,.ptr 2 0,.ptr 2 9,.d (.bool v5.2.held),.tuple [.d (.list (zA (eInt .i64) y7.1)),.d (.int .i64 y7.2)],.ptr 2 0,.d (.int .i64 y5),.ptr 2 0,.ptr 2 0,.ptr 2 0,.d (.list (zA ac v5.2.motions)),.ptr 2 0,.ptr 2 0,.ptr 2 4,.d (.int .i64 v5.2.index),.iptr [.int .i64 e2.From.X,.int .i64 e2.From.Y,.int .i64 e2.From.Z,.int .i64 e2.To.X,.int .i64 e2.To.Y,.int .i64 e2.To.Z,.int .i64 e2.Rate,.int .i64 e2.Tool,.int .i64 e2.Block] 0,.agg (cA e2),.ptr 2 0,.ptr 2 0,.ptr 2 1,.agg (cJ v5.2.limits),.agg (cJ y6),.tuple [.d (.list (zA (eInt .i64) y7.1)),.d (.int .i64 y7.2)],.d (.list (zA (eInt .i64) y7.1)),.d (.int .i64 y7.2)]++us 45) ⟨[[.d (.int .i64 0),.d (.int .i64 0),.d (.int .i64 0),.d (.int .i64 500),.d (.int .i64 (-200)),.d (.int .i64 0),.d (.int .i64 40000),.d (.int .i64 2),.d (.int .i64 0)],[.d (.int .i64 100),.d (.int .i64 50),.d (.int .i64 60)],[.d (.list (zA ac v5.2.motions)),.d (.int .i64 v5.2.limits.Speed),.d (.int .i64 v5.2.limits.Accel),.d (.int .i64 v5.2.limits.Jerk),.d (.int .i64 v5.2.index),.d (.int .i64 v5.2.part),.d (.list (zA (eInt .i64) v5.2.plan)),.d (.int .i64 v5.2.at_),.d (.bool v5.2.braking),.d (.bool v5.2.held),.d (.bool v5.2.broken),.own 0 (zA ac v5.2.pieces),.d (.int .i64 v5.2.last.X),.d (.int .i64 v5.2.last.Y),.d (.int .i64 v5.2.last.Z)]],[(69,v5.2.pieces.length)]⟩ (by kernel_rfl) (λe h=>?_) (λe h=>?_)
 simp only[seval,EMW,SB]
 refine regU.toA (k:=2) (i:=0) rfl rfl (regU.moveB (j:=0) (by kernel_rfl) rfl rfl ?_)
 simp only[seval,EMW]
 refine regU.moveB (j:=2) (by kernel_rfl) rfl rfl ?_
 simp only[seval,EMW]
 refine regU.nilB (j:=3) (by kernel_rfl) rfl rfl rfl ?_
 simp only[seval,EMW]
 refine regU.fieldB (j:=4) (y:=.ptr 2 0) (by kernel_rfl) rfl rfl (by first | simp only[seval,EMW,fld_120_0,sz_63,eInt,aP] | kernel_rfl) ?_
 simp only[seval,EMW]
 refine regU.loadB (j:=5) (y:=.d (.list (zA ac v5.2.motions))) (by kernel_rfl) rfl rfl rfl (by first | (simp only[↓reduceIte,nA,nL,pt_eq,ag_63,sz_63,fp,jg,SV]<;>rfl) | simp only[seval,EMW,ag_63,sz_63,eInt,aP] | kernel_rfl) ?_
 simp only[seval,EMW]
 refine regU.moveB (j:=6) (by kernel_rfl) rfl rfl ?_
 simp only[seval,EMW]
 refine regU.nilB (j:=7) (by kernel_rfl) rfl rfl rfl ?_
 simp only[seval,EMW]
 refine regU.fieldB (j:=8) (y:=.ptr 2 4) (by kernel_rfl) rfl rfl (by first | simp only[seval,EMW,fld_120_2,sz_3,eInt,aP] | kernel_rfl) ?_
 simp only[seval,EMW]
 refine regU.loadB (j:=9) (y:=.d (.int .i64 v5.2.index)) (by kernel_rfl) rfl rfl rfl (by first | (simp only[↓reduceIte,nA,nL,pt_eq,ag_3,sz_3,fp,jg,SV]<;>rfl) | simp only[seval,EMW,ag_3,sz_3,eInt,aP] | kernel_rfl) ?_
 simp only[seval,EMW]
 refine regU.indexB (j:=10) (c:=[.int .i64 e2.From.X,.int .i64 e2.From.Y,.int .i64 e2.From.Z,.int .i64 e2.To.X,.int .i64 e2.To.Y,.int .i64 e2.To.Z,.int .i64 e2.Rate,.int .i64 e2.Tool,.int .i64 e2.Block]) (by kernel_rfl) rfl rfl rfl rfl und_63 sz_69 q2.1 (cl q2.2) rfl ?_
 simp only[seval,EMW,q2]
 refine regU.loadI (j:=11) (y:=.agg (cA e2)) (by kernel_rfl) rfl rfl rfl (by first | (simp only[↓reduceIte,nA,nL,pt_eq,ag_69,sz_69,fp,jg,SV]<;>rfl) | simp only[seval,EMW,ag_69,sz_69,eInt,aP] | kernel_rfl) ?_
 simp only[seval,EMW]
 refine regU.moveB (j:=12) (by kernel_rfl) rfl rfl ?_
 simp only[seval,EMW]
 refine regU.nilB (j:=13) (by kernel_rfl) rfl rfl rfl ?_
 simp only[seval,EMW]
 refine regU.fieldB (j:=14) (y:=.ptr 2 1) (by kernel_rfl) rfl rfl (by first | simp only[seval,EMW,fld_120_1,sz_75,eInt,aP] | kernel_rfl) ?_
 simp only[seval,EMW]
 refine regU.loadB (j:=15) (y:=.agg (cJ v5.2.limits)) (by kernel_rfl) rfl rfl rfl (by first | (simp only[↓reduceIte,nA,nL,pt_eq,ag_75,sz_75,fp,jg,SV]<;>rfl) | simp only[seval,EMW,ag_75,sz_75,eInt,aP] | kernel_rfl) ?_
 simp only[seval,EMW]
 refine regU.one (j:=1) (by kernel_rfl) rfl (regK.callP rfl rfl rfl (eK h10) rfl (by simp only[seval,FMW]) (.int _ _) ?_)
 simp only[seval,EMW]
 refine regU.one (j:=16) (by kernel_rfl) rfl (regK.call rfl rfl rfl (ct_limit_spec h11) (by simp only[seval,EMW,FMW,eInt,aP]) ?_)
 simp only[seval,EMW]
 refine regU.one (j:=17) (by kernel_rfl) rfl (regK.call rfl rfl rfl (pf_Steps_spec h12) (by simp only[seval,EMW,FMW,eInt,aP]) ?_)
 simp only[seval,EMW]
 refine regU.moveB (j:=18) (by kernel_rfl) rfl rfl ?_
 simp only[seval,EMW]
 refine regU.extB (j:=19) (by kernel_rfl) rfl rfl rfl rfl ?_
 simp only[seval,EMW]
 refine regU.extB (j:=20) (by kernel_rfl) rfl rfl rfl rfl ?_
 simp only[seval,EMW]
 refine regU.assignB (j:=21) (by kernel_rfl) rfl rfl ?_
 simp only[seval,EMW]
 refine regU.assignB (j:=22) (by kernel_rfl) rfl rfl ?_
 simp only[seval,EMW]
 exact regU.nil (by kernel_rfl) ⟨by first | rfl | simp only[seval,FMW,eInt,aP,xMA,xLA],by first | rfl | simp only[seval,FMW,eInt,aP,xMA,xLA]⟩
 refine mU e (.seqK (.seqK (.joinV ([.ptr 2 0,U,U,.d (.list (zA (eInt .i64) y7.1)),U,U,U,U,U,U,U,U,U,U,U,U,U,U,U,U,U,U,U,U,U,U,U,U,U,U,U,U,U,U,U,U,U,U,U,U,U,U,U,U,U,U,U,U,U,U,U,U,U,U,.d (.bool ((y7.2 != 0)||((y7.1.length:Int)==0)))]++us 38) ⟨[[.d (.int .i64 0),.d (.int .i64 0),.d (.int .i64 0),.d (.int .i64 500),.d (.int .i64 (-200)),.d (.int .i64 0),.d (.int .i64 40000),.d (.int .i64 2),.d (.int .i64 0)],[.d (.int .i64 100),.d (.int .i64 50),.d (.int .i64 60)],[.d (.list (zA ac v5.2.motions)),.d (.int .i64 v5.2.limits.Speed),.d (.int .i64 v5.2.limits.Accel),.d (.int .i64 v5.2.limits.Jerk),.d (.int .i64 v5.2.index),.d (.int .i64 v5.2.part),.d (.list (zA (eInt .i64) v5.2.plan)),.d (.int .i64 v5.2.at_),.d (.bool v5.2.braking),.d (.bool v5.2.held),.d (.bool v5.2.broken),.own 0 (zA ac v5.2.pieces),.d (.int .i64 v5.2.last.X),.d (.int .i64 v5.2.last.Y),.d (.int .i64 v5.2.last.Z)]],[(69,v5.2.pieces.length)]⟩ rfl ?_ ?_))) h
 refine SWs.region ?_
 rcases zF (y7.2 != 0)with h13 | h13
 simp only[seval,EMW,SL,PB,h13]
 simp only[seval,EMW,SL,PB,h13]
 refine Mir.toK (.cond rfl (λh14=>?_) (λh14=>?_))
 refine .sW ?_
 refine .ret QW
 refine .skip (Mir.toK (.rW))
 refine .skip QW
 intro v6
 refine Mir.toK (.seqK (.bind λe3 q3=>?_))
 replace q3:=gt_ok q3
 refine .regionD [] (by kernel_rfl) λe h=>?_
 simp only[seval,EMW,SB,q3]
 refine mU e (.sW ?_) h
 refine .seqK (.seqK (.bind λy8 h15=>.region λe h=>WW ?_))
 refine SpecS.byP (cb h15) rfl (by simp only[seval,FMW]) (.bool _) ?_
 simp only[seval,EMW]
 refine mU e (Mir.joinO (λv12:ar=>(us 93)) (λv12=>⟨[[.d (.int .i64 0),.d (.int .i64 0),.d (.int .i64 0),.d (.int .i64 500),.d (.int .i64 (-200)),.d (.int .i64 0),.d (.int .i64 40000),.d (.int .i64 2),.d (.int .i64 0)],[.d (.int .i64 100),.d (.int .i64 50),.d (.int .i64 60)],[.d (.list (zA ac v12.motions)),.d (.int .i64 v12.limits.Speed),.d (.int .i64 v12.limits.Accel),.d (.int .i64 v12.limits.Jerk),.d (.int .i64 v12.index),.d (.int .i64 v12.part),.d (.list (zA (eInt .i64) v12.plan)),.d (.int .i64 v12.at_),.d (.bool v12.braking),.d (.bool v12.held),.d (.bool v12.broken),.own 0 (zA ac v12.pieces),.d (.int .i64 v12.last.X),.d (.int .i64 v12.last.Y),.d (.int .i64 v12.last.Z)]],[(69,v12.pieces.length)]⟩) (λ_=>rfl) ?_ ?_) h
 refine .cond rfl (λh16=>?_) (λh16=>?_)
 refine .bind λv11 h17=>.region λe h=>WW ?_
 refine SpecS.inl Tryz.func54 rfl (by kernel_rfl) (by kernel_rfl) (λv11:ar=>.tuple []) (λv11=>⟨[[.d (.int .i64 0),.d (.int .i64 0),.d (.int .i64 0),.d (.int .i64 500),.d (.int .i64 (-200)),.d (.int .i64 0),.d (.int .i64 40000),.d (.int .i64 2),.d (.int .i64 0)],[.d (.int .i64 100),.d (.int .i64 50),.d (.int .i64 60)],[.d (.list (zA ac v11.motions)),.d (.int .i64 v11.limits.Speed),.d (.int .i64 v11.limits.Accel),.d (.int .i64 v11.limits.Jerk),.d (.int .i64 v11.index),.d (.int .i64 v11.part),.d (.list (zA (eInt .i64) v11.plan)),.d (.int .i64 v11.at_),.d (.bool v11.braking),.d (.bool v11.held),.d (.bool v11.broken),.own 0 (zA ac v11.pieces),.d (.int .i64 v11.last.X),.d (.int .i64 v11.last.Y),.d (.int .i64 v11.last.Z)]],[(69,v11.pieces.length)]⟩) h17 rfl ?_ ?_
 simp only[zE,zH,nS,nA,Tryz.ntmps54,SV]
 refine .sW ?_
 refine .seqK (.seqK (.bind λy9 h18=>.region λe h=>WW ?_))
 refine SpecS.byP (eu h18) rfl (by simp only[seval,FMW]) (.two (.cons (.int _ _) (.cons (.int _ _) (.cons (.int _ _) (.cons (.int _ _) (.cons (.int _ _) (.cons (.int _ _) (.cons (.int _ _) (.cons (.int _ _) (.cons (.int _ _) .nil))))))))) (.bool _)) ?_
 simp only[seval,EMW]
 refine mU e (.sW ?_) h
 refine Mir.joinO (λv7:(List ah)=>([.ptr 2 0]++us 49)) (λv7=>⟨[[.d (.int .i64 0),.d (.int .i64 0),.d (.int .i64 0),.d (.int .i64 500),.d (.int .i64 (-200)),.d (.int .i64 0),.d (.int .i64 40000),.d (.int .i64 2),.d (.int .i64 0)],[.d (.int .i64 100),.d (.int .i64 50),.d (.int .i64 60)],[.d (.list (zA ac v6.motions)),.d (.int .i64 v6.limits.Speed),.d (.int .i64 v6.limits.Accel),.d (.int .i64 v6.limits.Jerk),.d (.int .i64 v6.index),.d (.int .i64 (zL.wrap (v6.part+e3))),.nil,.d (.int .i64 0),.d (.bool false),.d (.bool v6.held),.d (.bool v6.broken),.own 0 (zA ac v7),.d (.int .i64 v6.last.X),.d (.int .i64 v6.last.Y),.d (.int .i64 v6.last.Z)],(cA y9.1)],[(69,v7.length)]⟩) (λ_=>rfl) ?_ ?_
 refine .cond rfl (λh19=>?_) (λh19=>?_)
 refine .guard λq4=>.regionD [] (by kernel_rfl) λe h=>?_
 simp only[seval,EMW,SB,(oL 9),q4]
 cases h
 simp only[seval,FMW]
 refine .skip QW
 intro v7
 refine Mir.toK (.seqK (.bind λy10 h20=>.region λe h=>WW ?_))
 refine SpecS.byP (aR h20) rfl (by simp only[seval,FMW]) (.cons (.int _ _) (.cons (.int _ _) (.cons (.int _ _) .nil))) ?_
 simp only[seval,EMW]
 refine mU e (.seqK (.bind λy11 h21=>.region λe h=>WW ?_)) h
 refine SpecS.byP (eK h21) rfl (by simp only[seval,FMW]) (.int _ _) ?_
 simp only[seval,EMW]
 refine mU e (.cond rfl (λh22=>?_) (λh22=>?_)) h
 refine .sW ?_
 refine .bind λv10 h23=>.region λe h=>WW ?_
 refine SpecS.inl Tryz.func49 rfl (by kernel_rfl) (by kernel_rfl) (λv10:Int=>.tuple []) (λv10=>⟨[[.d (.int .i64 0),.d (.int .i64 0),.d (.int .i64 0),.d (.int .i64 500),.d (.int .i64 (-200)),.d (.int .i64 0),.d (.int .i64 40000),.d (.int .i64 2),.d (.int .i64 0)],[.d (.int .i64 100),.d (.int .i64 50),.d (.int .i64 60)],[.d (.list (zA ac v6.motions)),.d (.int .i64 v6.limits.Speed),.d (.int .i64 v6.limits.Accel),.d (.int .i64 v6.limits.Jerk),.d (.int .i64 v10),.d (.int .i64 0),.nil,.d (.int .i64 0),.d (.bool false),.d (.bool v6.held),.d (.bool v6.broken),.own 0 (zA ac v7),.d (.int .i64 y10.X),.d (.int .i64 y10.Y),.d (.int .i64 y10.Z)],(cA y9.1)],[(69,v7.length)]⟩) h23 rfl ?_ ?_
 simp only[zE,zH,nS,nA,Tryz.ntmps49,SV]
 refine .block (Mir.loop (λv8:Int=>([.ptr 2 0]++us 32)) (λv8=>⟨[[.d (.int .i64 0),.d (.int .i64 0),.d (.int .i64 0),.d (.int .i64 500),.d (.int .i64 (-200)),.d (.int .i64 0),.d (.int .i64 40000),.d (.int .i64 2),.d (.int .i64 0)],[.d (.int .i64 100),.d (.int .i64 50),.d (.int .i64 60)],[.d (.list (zA ac v6.motions)),.d (.int .i64 v6.limits.Speed),.d (.int .i64 v6.limits.Accel),.d (.int .i64 v6.limits.Jerk),.d (.int .i64 v8),.d (.int .i64 0),.nil,.d (.int .i64 0),.d (.bool false),.d (.bool v6.held),.d (.bool v6.broken),.own 0 (zA ac v7),.d (.int .i64 y10.X),.d (.int .i64 y10.Y),.d (.int .i64 y10.Z)],(cA y9.1)],[(69,v7.length)]⟩) (λ_=>rfl) (by simp only[seval,FMW]) (by simp only[seval,FMW]) λv8=>.seqK (.seqK (Mir.joinO (λv9:Bool=>([.ptr 2 0,U,U,U,U,U,U,U,U,U,U,U,U,U,U,U,U,U,U,U,U,U,U,U,U,.d (.bool v9)]++us 7)) (λv9=>⟨[[.d (.int .i64 0),.d (.int .i64 0),.d (.int .i64 0),.d (.int .i64 500),.d (.int .i64 (-200)),.d (.int .i64 0),.d (.int .i64 40000),.d (.int .i64 2),.d (.int .i64 0)],[.d (.int .i64 100),.d (.int .i64 50),.d (.int .i64 60)],[.d (.list (zA ac v6.motions)),.d (.int .i64 v6.limits.Speed),.d (.int .i64 v6.limits.Accel),.d (.int .i64 v6.limits.Jerk),.d (.int .i64 v8),.d (.int .i64 0),.nil,.d (.int .i64 0),.d (.bool false),.d (.bool v6.held),.d (.bool v6.broken),.own 0 (zA ac v7),.d (.int .i64 y10.X),.d (.int .i64 y10.Y),.d (.int .i64 y10.Z)],(cA y9.1)],[(69,v7.length)]⟩) (λ_=>rfl) ?_ ?_)))
 refine .ite (λh24=>?_) (λh24=>?_)
 refine .bind λe4 q5=>?_
 replace q5:=gt_ok q5
 refine .bind λy12 h25=>.regionD [] (by kernel_rfl) λe h=>?_
 simp only[seval,EMW,SB,q5,h24]
 refine Spec.by (dW h25) (by simp only[seval,FMW,h24]) ?_
 simp only[seval,EMW,SB,h24]
 cases h
 simp only[seval,FMW,h24]
 refine .regionD [] (by kernel_rfl) λe h=>?_
 simp only[seval,EMW,SB,h24]
 cases h
 simp only[seval,FMW,h24]
 intro v9
 refine Mir.toK (.cond rfl (λh26=>?_) (λh26=>?_))
 refine .skip (Mir.toK (.block (.rW)))
 refine .exit QW
 simp only[seval,EMW]
 cases h
 simp only[seval,FMW]
 refine .skip QW
 simp only[seval,EMW]
 cases h
 simp only[seval,FMW]
 refine .skip QW
 intro v12
 refine Mir.toK (.sW ?_)
 refine .ret QW
 simp only[seval,EMW]
 refine mU e (.cond rfl (λh27=>?_) (λh27=>?_)) h
 refine .skip (Mir.toK (.block (.sW ?_)))
 refine .sW ?_
 refine .cond rfl (λh28=>?_) (λh28=>?_)
 refine .sW ?_
 refine .ret QW
 refine .skip QW
 refine .exit QW
 intro v14
 refine Mir.toK (.seqK (.bind λv17 h29=>.region λe h=>WW ?_))
 refine SpecS.inl Tryz.func15 rfl (by kernel_rfl) (by kernel_rfl) (λv17:(List ah)=>.own 1 (zA ac v17)) (λv17=>⟨[[.d (.int .i64 0),.d (.int .i64 0),.d (.int .i64 0),.d (.int .i64 500),.d (.int .i64 (-200)),.d (.int .i64 0),.d (.int .i64 40000),.d (.int .i64 2),.d (.int .i64 0)],[.d (.int .i64 100),.d (.int .i64 50),.d (.int .i64 60)],[.d (.list (zA ac v14.2.motions)),.d (.int .i64 v14.2.limits.Speed),.d (.int .i64 v14.2.limits.Accel),.d (.int .i64 v14.2.limits.Jerk),.d (.int .i64 v14.2.index),.d (.int .i64 v14.2.part),.d (.list (zA (eInt .i64) v14.2.plan)),.d (.int .i64 v14.2.at_),.d (.bool v14.2.braking),.d (.bool v14.2.held),.d (.bool v14.2.broken),.own 0 (zA ac v14.2.pieces),.d (.int .i64 v14.2.last.X),.d (.int .i64 v14.2.last.Y),.d (.int .i64 v14.2.last.Z)]],[(69,v14.2.pieces.length),(69,v17.length)]⟩) h29 rfl ?_ ?_
 simp only[zE,zH,nS,nA,Tryz.ntmps15,SV]
 refine .sW ?_
 refine .seqK (.bind λy13 h30=>.region λe h=>WW ?_)
 refine SpecO.toS (dj h30) (by simp only[seval,FMW]) ?_
 simp only[seval,EMW]
 refine mU e (.seqK (.seqK (.bind λy14 h31=>.region λe h=>WW ?_))) h
 refine SpecS.byP (eu h31) rfl (by simp only[seval,FMW]) (.two (.cons (.int _ _) (.cons (.int _ _) (.cons (.int _ _) (.cons (.int _ _) (.cons (.int _ _) (.cons (.int _ _) (.cons (.int _ _) (.cons (.int _ _) (.cons (.int _ _) .nil))))))))) (.bool _)) ?_
 simp only[seval,EMW]
 refine mU e (.seqK (Mir.joinO (λv15:Bool=>([U,U,U,.own 1 (zA ac y13),.ptr 3 0,U,U,U,U,U,U,U,U,U,U,U,U,U,U,U,U,.d (.bool v15)]++us 5)) (λv15=>⟨[[.d (.int .i64 0),.d (.int .i64 0),.d (.int .i64 0),.d (.int .i64 500),.d (.int .i64 (-200)),.d (.int .i64 0),.d (.int .i64 40000),.d (.int .i64 2),.d (.int .i64 0)],[.d (.int .i64 100),.d (.int .i64 50),.d (.int .i64 60)],[.d (.list (zA ac v14.2.motions)),.d (.int .i64 v14.2.limits.Speed),.d (.int .i64 v14.2.limits.Accel),.d (.int .i64 v14.2.limits.Jerk),.d (.int .i64 v14.2.index),.d (.int .i64 v14.2.part),.d (.list (zA (eInt .i64) v14.2.plan)),.d (.int .i64 v14.2.at_),.d (.bool v14.2.braking),.d (.bool v14.2.held),.d (.bool v14.2.broken),.own 0 (zA ac v14.2.pieces),.d (.int .i64 v14.2.last.X),.d (.int .i64 v14.2.last.Y),.d (.int .i64 v14.2.last.Z)],(cA y14.1)],[(69,v14.2.pieces.length),(69,y13.length)]⟩) (λ_=>rfl) ?_ ?_)) h
 refine .ite (λh32=>?_) (λh32=>?_)
 refine .bind λy15 h33=>.region λe h=>?_
 simp only[seval,EMW,h32]
 refine SpecS.byP (cb h33) rfl (by simp only[seval,FMW]) (.bool _) ?_
 simp only[seval,EMW,h32]
 cases h
 simp only[seval,FMW,h32]
 refine .region λe h=>?_
 simp only[seval,EMW,h32]
 cases h
 simp only[seval,FMW,h32]
 intro v15
 refine Mir.toK (Mir.joinO (λv16:(List ah)=>([U,U,U,.own 1 (zA ac v16)]++us 23)) (λv16=>⟨[[.d (.int .i64 0),.d (.int .i64 0),.d (.int .i64 0),.d (.int .i64 500),.d (.int .i64 (-200)),.d (.int .i64 0),.d (.int .i64 40000),.d (.int .i64 2),.d (.int .i64 0)],[.d (.int .i64 100),.d (.int .i64 50),.d (.int .i64 60)],[.d (.list (zA ac v14.2.motions)),.d (.int .i64 v14.2.limits.Speed),.d (.int .i64 v14.2.limits.Accel),.d (.int .i64 v14.2.limits.Jerk),.d (.int .i64 v14.2.index),.d (.int .i64 v14.2.part),.d (.list (zA (eInt .i64) v14.2.plan)),.d (.int .i64 v14.2.at_),.d (.bool v14.2.braking),.d (.bool v14.2.held),.d (.bool v14.2.broken),.own 0 (zA ac v14.2.pieces),.d (.int .i64 v14.2.last.X),.d (.int .i64 v14.2.last.Y),.d (.int .i64 v14.2.last.Z)],(cA y14.1)],[(69,v14.2.pieces.length),(69,v16.length)]⟩) (λ_=>rfl) ?_ ?_)
 refine .cond rfl (λh34=>?_) (λh34=>?_)
 refine .guard λq6=>.region λe h=>?_
 simp only[seval,EMW,(oL 9),q6]
 cases h
 simp only[seval,FMW]
 refine .skip QW
 intro v16
 refine Mir.toK (.sW ?_)
 refine .ret QW
 simp only[seval,EMW]
 refine mU e (.seqK (Mir.joinO (λv18:Bool=>([.d (.bool v18)]++us 45)) (λv18=>⟨[[.d (.int .i64 0),.d (.int .i64 0),.d (.int .i64 0),.d (.int .i64 500),.d (.int .i64 (-200)),.d (.int .i64 0),.d (.int .i64 40000),.d (.int .i64 2),.d (.int .i64 0)],[.d (.int .i64 100),.d (.int .i64 50),.d (.int .i64 60)],[.d (.list (zA ac v14.2.motions)),.d (.int .i64 v14.2.limits.Speed),.d (.int .i64 v14.2.limits.Accel),.d (.int .i64 v14.2.limits.Jerk),.d (.int .i64 v14.2.index),.d (.int .i64 v14.2.part),.d (.list (zA (eInt .i64) v14.2.plan)),.d (.int .i64 v14.2.at_),.d (.bool v14.2.braking),.d (.bool v14.2.held),.d (.bool v14.2.broken),.own 0 (zA ac v14.2.pieces),.d (.int .i64 v14.2.last.X),.d (.int .i64 v14.2.last.Y),.d (.int .i64 v14.2.last.Z)]],[(69,v14.2.pieces.length),(69,v17.length)]⟩) (λ_=>rfl) ?_ ?_)) h
 refine .ite (λh35=>?_) (λh35=>?_)
 refine .ite (λh36=>?_) (λh36=>?_)
 refine .bind λe5 q7=>?_
 replace q7:=gt_ok q7
 simp only[Int.reduceToNat,Int.reduceLT,Nat.sub_zero,dp0]at q7
 refine .ite (λh37=>?_) (λh37=>?_)
 refine .bind λy16 h38=>Mir.regionA 15 [] [.d (.bool ((y16.X==500)&&((y16.Y==(-200))&&(y16.Z==0)))),.ptr 0 0,.ptr 2 0,U,.d (.int .i64 v14.1),.own 1 (zA ac v17),U,U,U,U,U,U,U,U,U,U,U,U,U,U,U,U,U,.ptr 2 0,.own 1 (zA ac v17),.d (.int .i64 v14.1),.d (.bool (decide (v14.1>0))),.d (.bool (decide (v14.1>0))),.own 1 (zA ac v17),.d (.int .i64 (v17.length:Int)),.d (.bool ((v17.length:Int)==1)),.d (.bool ((v17.length:Int)==1)),.d (.bool ((v17.length:Int)==1)),.own 1 (zA ac v17),.iptr [.int .i64 e5.From.X,.int .i64 e5.From.Y,.int .i64 e5.From.Z,.int .i64 e5.To.X,.int .i64 e5.To.Y,.int .i64 e5.To.Z,.int .i64 e5.Rate,.int .i64 e5.Tool,.int .i64 e5.Block] 0,.agg (cA e5),.agg [.d (.int .i64 0),.d (.int .i64 0),.d (.int .i64 0),.d (.int .i64 500),.d (.int .i64 (-200)),.d (.int .i64 0),.d (.int .i64 40000),.d (.int .i64 2),.d (.int .i64 0)],.d (.bool ((e5.From.X==0)&&((e5.From.Y==0)&&((e5.From.Z==0)&&((e5.To.X==500)&&((e5.To.Y==(-200))&&((e5.To.Z==0)&&((e5.Rate==40000)&&((e5.Tool==2)&&(e5.Block==0)))))))))),.d (.bool ((e5.From.X==0)&&((e5.From.Y==0)&&((e5.From.Z==0)&&((e5.To.X==500)&&((e5.To.Y==(-200))&&((e5.To.Z==0)&&((e5.Rate==40000)&&((e5.Tool==2)&&(e5.Block==0)))))))))),.d (.bool ((e5.From.X==0)&&((e5.From.Y==0)&&((e5.From.Z==0)&&((e5.To.X==500)&&((e5.To.Y==(-200))&&((e5.To.Z==0)&&((e5.Rate==40000)&&((e5.Tool==2)&&(e5.Block==0)))))))))),.ptr 2 0,.agg (cH y16),.ptr 0 3,.agg [.d (.int .i64 500),.d (.int .i64 (-200)),.d (.int .i64 0)],.d (.bool ((y16.X==500)&&((y16.Y==(-200))&&(y16.Z==0)))),.d (.bool ((y16.X==500)&&((y16.Y==(-200))&&(y16.Z==0))))] ⟨[[.d (.int .i64 0),.d (.int .i64 0),.d (.int .i64 0),.d (.int .i64 500),.d (.int .i64 (-200)),.d (.int .i64 0),.d (.int .i64 40000),.d (.int .i64 2),.d (.int .i64 0)],[.d (.int .i64 100),.d (.int .i64 50),.d (.int .i64 60)],[.d (.list (zA ac v14.2.motions)),.d (.int .i64 v14.2.limits.Speed),.d (.int .i64 v14.2.limits.Accel),.d (.int .i64 v14.2.limits.Jerk),.d (.int .i64 v14.2.index),.d (.int .i64 v14.2.part),.d (.list (zA (eInt .i64) v14.2.plan)),.d (.int .i64 v14.2.at_),.d (.bool v14.2.braking),.d (.bool v14.2.held),.d (.bool v14.2.broken),.own 0 (zA ac v14.2.pieces),.d (.int .i64 v14.2.last.X),.d (.int .i64 v14.2.last.Y),.d (.int .i64 v14.2.last.Z)]],[(69,v14.2.pieces.length),(69,v17.length)]⟩ (by kernel_rfl) (λe h=>?_) (λe h=>?_)
 simp only[seval,EMW,SB,q7,gE_69,h35,h36,h37]
 refine regA.two (j:=15) (k:=17) (by kernel_rfl) rfl rfl ?_ ?_
 refine regW.of ?_
 simp only[seval,EMW,h35,h36,h37]
 refine regA.two (j:=16) (k:=17) (by kernel_rfl) rfl rfl ?_ ?_
 refine regW.of ?_
 simp only[seval,EMW,h35,h36,h37]
 refine SpecS.byP (aR h38) rfl (by simp only[seval,FMW]) (.cons (.int _ _) (.cons (.int _ _) (.cons (.int _ _) .nil))) ?_
 simp only[seval,EMW,h35,h36,h37]
 refine regA.one (j:=17) (by kernel_rfl) rfl (regW.of ?_)
 simp only[seval,EMW,h35,h36,h37]
 refine regA.one (j:=18) (by kernel_rfl) rfl (regW.of ?_)
 simp only[seval,EMW,h35,h36,h37]
 refine regA.one (j:=19) (by kernel_rfl) rfl (regW.of ?_)
 simp only[seval,EMW,gE_23,h35,h36,h37]
 refine regA.one (j:=20) (by kernel_rfl) rfl (regW.of ?_)
 simp only[seval,EMW,h35,h36,h37]
 refine regA.pureB (j:=21) (d:=0) (by kernel_rfl) rfl rfl (by kernel_rfl) rfl rfl (zD rfl) ?_
 simp only[seval,EMW,h35,h36,h37]
 refine⟨rfl,?_⟩
 exact regA.nil (by kernel_rfl) ⟨by first | rfl | simp only[seval,FMW,eInt,aP,xMA,xLA],by first | rfl | simp only[seval,FMW,eInt,aP,xMA,xLA]⟩
 refine regW.of ?_
 simp only[seval,EMW,h35,h36,h37]
 refine regA.two (j:=16) (k:=18) (by kernel_rfl) rfl rfl ?_ ?_
 refine regW.of ?_
 simp only[seval,EMW,h35,h36,h37]
 refine SpecS.byP (aR h38) rfl (by simp only[seval,FMW]) (.cons (.int _ _) (.cons (.int _ _) (.cons (.int _ _) .nil))) ?_
 simp only[seval,EMW,h35,h36,h37]
 refine regA.one (j:=18) (by kernel_rfl) rfl (regW.of ?_)
 simp only[seval,EMW,h35,h36,h37]
 refine regA.one (j:=19) (by kernel_rfl) rfl (regW.of ?_)
 simp only[seval,EMW,gE_23,h35,h36,h37]
 refine regA.one (j:=20) (by kernel_rfl) rfl (regW.of ?_)
 simp only[seval,EMW,h35,h36,h37]
 refine regA.pureB (j:=21) (d:=0) (by kernel_rfl) rfl rfl (by kernel_rfl) rfl rfl (zD rfl) ?_
 simp only[seval,EMW,h35,h36,h37]
 refine⟨rfl,?_⟩
 exact regA.nil (by kernel_rfl) ⟨by first | rfl | simp only[seval,FMW,eInt,aP,xMA,xLA],by first | rfl | simp only[seval,FMW,eInt,aP,xMA,xLA]⟩
 refine regW.of ?_
 simp only[seval,EMW,h35,h36,h37]
 refine regA.one (j:=16) (by kernel_rfl) rfl (regW.of ?_)
 simp only[seval,EMW,h35,h36,h37]
 refine SpecS.byP (aR h38) rfl (by simp only[seval,FMW]) (.cons (.int _ _) (.cons (.int _ _) (.cons (.int _ _) .nil))) ?_
 simp only[seval,EMW,h35,h36,h37]
 refine regA.one (j:=19) (by kernel_rfl) rfl (regW.of ?_)
 simp only[seval,EMW,gE_23,h35,h36,h37]
 refine regA.one (j:=20) (by kernel_rfl) rfl (regW.of ?_)
 simp only[seval,EMW,h35,h36,h37]
 refine regA.pureB (j:=21) (d:=0) (by kernel_rfl) rfl rfl (by kernel_rfl) rfl rfl (zD rfl) ?_
 simp only[seval,EMW,h35,h36,h37]
 refine⟨rfl,?_⟩
 exact regA.nil (by kernel_rfl) ⟨by first | rfl | simp only[seval,FMW,eInt,aP,xMA,xLA],by first | rfl | simp only[seval,FMW,eInt,aP,xMA,xLA]⟩
 refine regW.of ?_
 simp only[seval,EMW,h35,h36,h37]
 refine regA.two (j:=15) (k:=18) (by kernel_rfl) rfl rfl ?_ ?_
 refine regW.of ?_
 simp only[seval,EMW,h35,h36,h37]
 refine regA.two (j:=16) (k:=18) (by kernel_rfl) rfl rfl ?_ ?_
 refine regW.of ?_
 simp only[seval,EMW,h35,h36,h37]
 refine SpecS.byP (aR h38) rfl (by simp only[seval,FMW]) (.cons (.int _ _) (.cons (.int _ _) (.cons (.int _ _) .nil))) ?_
 simp only[seval,EMW,h35,h36,h37]
 refine regA.one (j:=18) (by kernel_rfl) rfl (regW.of ?_)
 simp only[seval,EMW,h35,h36,h37]
 refine regA.one (j:=19) (by kernel_rfl) rfl (regW.of ?_)
 simp only[seval,EMW,gE_23,h35,h36,h37]
 refine regA.one (j:=20) (by kernel_rfl) rfl (regW.of ?_)
 simp only[seval,EMW,h35,h36,h37]
 refine regA.pureB (j:=21) (d:=0) (by kernel_rfl) rfl rfl (by kernel_rfl) rfl rfl (zD rfl) ?_
 simp only[seval,EMW,h35,h36,h37]
 refine⟨rfl,?_⟩
 exact regA.nil (by kernel_rfl) ⟨by first | rfl | simp only[seval,FMW,eInt,aP,xMA,xLA],by first | rfl | simp only[seval,FMW,eInt,aP,xMA,xLA]⟩
 refine regW.of ?_
 simp only[seval,EMW,h35,h36,h37]
 refine regA.one (j:=16) (by kernel_rfl) rfl (regW.of ?_)
 simp only[seval,EMW,h35,h36,h37]
 refine SpecS.byP (aR h38) rfl (by simp only[seval,FMW]) (.cons (.int _ _) (.cons (.int _ _) (.cons (.int _ _) .nil))) ?_
 simp only[seval,EMW,h35,h36,h37]
 refine regA.one (j:=19) (by kernel_rfl) rfl (regW.of ?_)
 simp only[seval,EMW,gE_23,h35,h36,h37]
 refine regA.one (j:=20) (by kernel_rfl) rfl (regW.of ?_)
 simp only[seval,EMW,h35,h36,h37]
 refine regA.pureB (j:=21) (d:=0) (by kernel_rfl) rfl rfl (by kernel_rfl) rfl rfl (zD rfl) ?_
 simp only[seval,EMW,h35,h36,h37]
 refine⟨rfl,?_⟩
 exact regA.nil (by kernel_rfl) ⟨by first | rfl | simp only[seval,FMW,eInt,aP,xMA,xLA],by first | rfl | simp only[seval,FMW,eInt,aP,xMA,xLA]⟩
 refine regW.of ?_
 simp only[seval,EMW,h35,h36,h37]
 refine regA.one (j:=15) (by kernel_rfl) rfl (regW.of ?_)
 simp only[seval,EMW,h35,h36,h37]
 refine regA.one (j:=16) (by kernel_rfl) rfl (regW.of ?_)
 simp only[seval,EMW,h35,h36,h37]
 refine SpecS.byP (aR h38) rfl (by simp only[seval,FMW]) (.cons (.int _ _) (.cons (.int _ _) (.cons (.int _ _) .nil))) ?_
 simp only[seval,EMW,h35,h36,h37]
 refine regA.one (j:=19) (by kernel_rfl) rfl (regW.of ?_)
 simp only[seval,EMW,gE_23,h35,h36,h37]
 refine regA.one (j:=20) (by kernel_rfl) rfl (regW.of ?_)
 simp only[seval,EMW,h35,h36,h37]
 refine regA.pureB (j:=21) (d:=0) (by kernel_rfl) rfl rfl (by kernel_rfl) rfl rfl (zD rfl) ?_
 simp only[seval,EMW,h35,h36,h37]
 refine⟨rfl,?_⟩
 exact regA.nil (by kernel_rfl) ⟨by first | rfl | simp only[seval,FMW,eInt,aP,xMA,xLA],by first | rfl | simp only[seval,FMW,eInt,aP,xMA,xLA]⟩
 cases h
 simp only[seval,FMW,h35,h36,h37]
 refine Mir.regionA 15 [] [.d (.bool false),.ptr 0 0,.ptr 2 0,U,.d (.int .i64 v14.1),.own 1 (zA ac v17),U,U,U,U,U,U,U,U,U,U,U,U,U,U,U,U,U,.ptr 2 0,.own 1 (zA ac v17),.d (.int .i64 v14.1),.d (.bool (decide (v14.1>0))),.d (.bool (decide (v14.1>0))),.own 1 (zA ac v17),.d (.int .i64 (v17.length:Int)),.d (.bool ((v17.length:Int)==1)),.d (.bool ((v17.length:Int)==1)),.d (.bool ((v17.length:Int)==1)),.own 1 (zA ac v17),.iptr [.int .i64 e5.From.X,.int .i64 e5.From.Y,.int .i64 e5.From.Z,.int .i64 e5.To.X,.int .i64 e5.To.Y,.int .i64 e5.To.Z,.int .i64 e5.Rate,.int .i64 e5.Tool,.int .i64 e5.Block] 0,.agg (cA e5),.agg [.d (.int .i64 0),.d (.int .i64 0),.d (.int .i64 0),.d (.int .i64 500),.d (.int .i64 (-200)),.d (.int .i64 0),.d (.int .i64 40000),.d (.int .i64 2),.d (.int .i64 0)],.d (.bool ((e5.From.X==0)&&((e5.From.Y==0)&&((e5.From.Z==0)&&((e5.To.X==500)&&((e5.To.Y==(-200))&&((e5.To.Z==0)&&((e5.Rate==40000)&&((e5.Tool==2)&&(e5.Block==0)))))))))),.d (.bool ((e5.From.X==0)&&((e5.From.Y==0)&&((e5.From.Z==0)&&((e5.To.X==500)&&((e5.To.Y==(-200))&&((e5.To.Z==0)&&((e5.Rate==40000)&&((e5.Tool==2)&&(e5.Block==0)))))))))),.d (.bool ((e5.From.X==0)&&((e5.From.Y==0)&&((e5.From.Z==0)&&((e5.To.X==500)&&((e5.To.Y==(-200))&&((e5.To.Z==0)&&((e5.Rate==40000)&&((e5.Tool==2)&&(e5.Block==0)))))))))),.skip,.skip,.skip,.skip,.skip,.d (.bool false)] ⟨[[.d (.int .i64 0),.d (.int .i64 0),.d (.int .i64 0),.d (.int .i64 500),.d (.int .i64 (-200)),.d (.int .i64 0),.d (.int .i64 40000),.d (.int .i64 2),.d (.int .i64 0)],[.d (.int .i64 100),.d (.int .i64 50),.d (.int .i64 60)],[.d (.list (zA ac v14.2.motions)),.d (.int .i64 v14.2.limits.Speed),.d (.int .i64 v14.2.limits.Accel),.d (.int .i64 v14.2.limits.Jerk),.d (.int .i64 v14.2.index),.d (.int .i64 v14.2.part),.d (.list (zA (eInt .i64) v14.2.plan)),.d (.int .i64 v14.2.at_),.d (.bool v14.2.braking),.d (.bool v14.2.held),.d (.bool v14.2.broken),.own 0 (zA ac v14.2.pieces),.d (.int .i64 v14.2.last.X),.d (.int .i64 v14.2.last.Y),.d (.int .i64 v14.2.last.Z)]],[(69,v14.2.pieces.length),(69,v17.length)]⟩ (by kernel_rfl) (λe h=>?_) (λe h=>?_)
 simp only[seval,EMW,SB,q7,gE_69,h35,h36,h37]
 refine regA.two (j:=15) (k:=17) (by kernel_rfl) rfl rfl ?_ ?_
 refine regW.of ?_
 simp only[seval,EMW,h35,h36,h37]
 refine regA.two (j:=16) (k:=17) (by kernel_rfl) rfl rfl ?_ ?_
 refine regW.of ?_
 simp only[seval,EMW,h35,h36,h37]
 refine regA.one (j:=17) (by kernel_rfl) rfl (regW.of ?_)
 simp only[seval,EMW,h35,h36,h37]
 refine regA.one (j:=18) (by kernel_rfl) rfl (regW.of ?_)
 simp only[seval,EMW,h35,h36,h37]
 refine regA.one (j:=19) (by kernel_rfl) rfl (regW.of ?_)
 simp only[seval,EMW,h35,h36,h37]
 refine regA.one (j:=20) (by kernel_rfl) rfl (regW.of ?_)
 simp only[seval,EMW,h35,h36,h37]
 refine regA.pureB (j:=21) (d:=0) (by kernel_rfl) rfl rfl (by kernel_rfl) rfl rfl (zD rfl) ?_
 simp only[seval,EMW,h35,h36,h37]
 refine⟨rfl,?_⟩
 exact regA.nil (by kernel_rfl) ⟨by first | rfl | simp only[seval,FMW,eInt,aP,xMA,xLA],by first | rfl | simp only[seval,FMW,eInt,aP,xMA,xLA]⟩
 refine regW.of ?_
 simp only[seval,EMW,h35,h36,h37]
 refine regA.two (j:=16) (k:=18) (by kernel_rfl) rfl rfl ?_ ?_
 refine regW.of ?_
 simp only[seval,EMW,h35,h36,h37]
 refine regA.one (j:=18) (by kernel_rfl) rfl (regW.of ?_)
 simp only[seval,EMW,h35,h36,h37]
 refine regA.one (j:=19) (by kernel_rfl) rfl (regW.of ?_)
 simp only[seval,EMW,h35,h36,h37]
 refine regA.one (j:=20) (by kernel_rfl) rfl (regW.of ?_)
 simp only[seval,EMW,h35,h36,h37]
 refine regA.pureB (j:=21) (d:=0) (by kernel_rfl) rfl rfl (by kernel_rfl) rfl rfl (zD rfl) ?_
 simp only[seval,EMW,h35,h36,h37]
 refine⟨rfl,?_⟩
 exact regA.nil (by kernel_rfl) ⟨by first | rfl | simp only[seval,FMW,eInt,aP,xMA,xLA],by first | rfl | simp only[seval,FMW,eInt,aP,xMA,xLA]⟩
 refine regW.of ?_
 simp only[seval,EMW,h35,h36,h37]
 refine regA.one (j:=16) (by kernel_rfl) rfl (regW.of ?_)
 simp only[seval,EMW,h35,h36,h37]
 refine regA.one (j:=19) (by kernel_rfl) rfl (regW.of ?_)
 simp only[seval,EMW,h35,h36,h37]
 refine regA.one (j:=20) (by kernel_rfl) rfl (regW.of ?_)
 simp only[seval,EMW,h35,h36,h37]
 refine regA.pureB (j:=21) (d:=0) (by kernel_rfl) rfl rfl (by kernel_rfl) rfl rfl (zD rfl) ?_
 simp only[seval,EMW,h35,h36,h37]
 refine⟨rfl,?_⟩
 exact regA.nil (by kernel_rfl) ⟨by first | rfl | simp only[seval,FMW,eInt,aP,xMA,xLA],by first | rfl | simp only[seval,FMW,eInt,aP,xMA,xLA]⟩
 refine regW.of ?_
 simp only[seval,EMW,h35,h36,h37]
 refine regA.two (j:=15) (k:=18) (by kernel_rfl) rfl rfl ?_ ?_
 refine regW.of ?_
 simp only[seval,EMW,h35,h36,h37]
 refine regA.two (j:=16) (k:=18) (by kernel_rfl) rfl rfl ?_ ?_
 refine regW.of ?_
 simp only[seval,EMW,h35,h36,h37]
 refine regA.one (j:=18) (by kernel_rfl) rfl (regW.of ?_)
 simp only[seval,EMW,h35,h36,h37]
 refine regA.one (j:=19) (by kernel_rfl) rfl (regW.of ?_)
 simp only[seval,EMW,h35,h36,h37]
 refine regA.one (j:=20) (by kernel_rfl) rfl (regW.of ?_)
 simp only[seval,EMW,h35,h36,h37]
 refine regA.pureB (j:=21) (d:=0) (by kernel_rfl) rfl rfl (by kernel_rfl) rfl rfl (zD rfl) ?_
 simp only[seval,EMW,h35,h36,h37]
 refine⟨rfl,?_⟩
 exact regA.nil (by kernel_rfl) ⟨by first | rfl | simp only[seval,FMW,eInt,aP,xMA,xLA],by first | rfl | simp only[seval,FMW,eInt,aP,xMA,xLA]⟩
 refine regW.of ?_
 simp only[seval,EMW,h35,h36,h37]
 refine regA.one (j:=16) (by kernel_rfl) rfl (regW.of ?_)
 simp only[seval,EMW,h35,h36,h37]
 refine regA.one (j:=19) (by kernel_rfl) rfl (regW.of ?_)
 simp only[seval,EMW,h35,h36,h37]
 refine regA.one (j:=20) (by kernel_rfl) rfl (regW.of ?_)
 simp only[seval,EMW,h35,h36,h37]
 refine regA.pureB (j:=21) (d:=0) (by kernel_rfl) rfl rfl (by kernel_rfl) rfl rfl (zD rfl) ?_
 simp only[seval,EMW,h35,h36,h37]
 refine⟨rfl,?_⟩
 exact regA.nil (by kernel_rfl) ⟨by first | rfl | simp only[seval,FMW,eInt,aP,xMA,xLA],by first | rfl | simp only[seval,FMW,eInt,aP,xMA,xLA]⟩
 refine regW.of ?_
 simp only[seval,EMW,h35,h36,h37]
 refine regA.one (j:=15) (by kernel_rfl) rfl (regW.of ?_)
 simp only[seval,EMW,h35,h36,h37]
 refine regA.one (j:=16) (by kernel_rfl) rfl (regW.of ?_)
 simp only[seval,EMW,h35,h36,h37]
 refine regA.one (j:=19) (by kernel_rfl) rfl (regW.of ?_)
 simp only[seval,EMW,h35,h36,h37]
 refine regA.one (j:=20) (by kernel_rfl) rfl (regW.of ?_)
 simp only[seval,EMW,h35,h36,h37]
 refine regA.pureB (j:=21) (d:=0) (by kernel_rfl) rfl rfl (by kernel_rfl) rfl rfl (zD rfl) ?_
 simp only[seval,EMW,h35,h36,h37]
 refine⟨rfl,?_⟩
 exact regA.nil (by kernel_rfl) ⟨by first | rfl | simp only[seval,FMW,eInt,aP,xMA,xLA],by first | rfl | simp only[seval,FMW,eInt,aP,xMA,xLA]⟩
 cases h
 simp only[seval,FMW,h35,h36,h37]
 refine Mir.regionA 15 [] [.d (.bool false),.ptr 0 0,.ptr 2 0,U,.d (.int .i64 v14.1),.own 1 (zA ac v17),U,U,U,U,U,U,U,U,U,U,U,U,U,U,U,U,U,.ptr 2 0,.own 1 (zA ac v17),.d (.int .i64 v14.1),.d (.bool (decide (v14.1>0))),.d (.bool (decide (v14.1>0))),.own 1 (zA ac v17),.d (.int .i64 (v17.length:Int)),.d (.bool ((v17.length:Int)==1)),.d (.bool ((v17.length:Int)==1)),.d (.bool ((v17.length:Int)==1)),.skip,.skip,.skip,.skip,.skip,.d (.bool false),.d (.bool false),.skip,.skip,.skip,.skip,.skip,.d (.bool false)] ⟨[[.d (.int .i64 0),.d (.int .i64 0),.d (.int .i64 0),.d (.int .i64 500),.d (.int .i64 (-200)),.d (.int .i64 0),.d (.int .i64 40000),.d (.int .i64 2),.d (.int .i64 0)],[.d (.int .i64 100),.d (.int .i64 50),.d (.int .i64 60)],[.d (.list (zA ac v14.2.motions)),.d (.int .i64 v14.2.limits.Speed),.d (.int .i64 v14.2.limits.Accel),.d (.int .i64 v14.2.limits.Jerk),.d (.int .i64 v14.2.index),.d (.int .i64 v14.2.part),.d (.list (zA (eInt .i64) v14.2.plan)),.d (.int .i64 v14.2.at_),.d (.bool v14.2.braking),.d (.bool v14.2.held),.d (.bool v14.2.broken),.own 0 (zA ac v14.2.pieces),.d (.int .i64 v14.2.last.X),.d (.int .i64 v14.2.last.Y),.d (.int .i64 v14.2.last.Z)]],[(69,v14.2.pieces.length),(69,v17.length)]⟩ (by kernel_rfl) (λe h=>?_) (λe h=>?_)
 simp only[seval,EMW,SB,h35,h36]
 refine regA.two (j:=15) (k:=17) (by kernel_rfl) rfl rfl ?_ ?_
 refine regW.of ?_
 simp only[seval,EMW,h35,h36]
 refine regA.two (j:=16) (k:=17) (by kernel_rfl) rfl rfl ?_ ?_
 refine regW.of ?_
 simp only[seval,EMW,h35,h36]
 refine regA.one (j:=17) (by kernel_rfl) rfl (regW.of ?_)
 simp only[seval,EMW,h35,h36]
 refine regA.one (j:=18) (by kernel_rfl) rfl (regW.of ?_)
 simp only[seval,EMW,h35,h36]
 refine regA.one (j:=19) (by kernel_rfl) rfl (regW.of ?_)
 simp only[seval,EMW,h35,h36]
 refine regA.one (j:=20) (by kernel_rfl) rfl (regW.of ?_)
 simp only[seval,EMW,h35,h36]
 refine regA.pureB (j:=21) (d:=0) (by kernel_rfl) rfl rfl (by kernel_rfl) rfl rfl (zD rfl) ?_
 simp only[seval,EMW,h35,h36]
 refine⟨rfl,?_⟩
 exact regA.nil (by kernel_rfl) ⟨by first | rfl | simp only[seval,FMW,eInt,aP,xMA,xLA],by first | rfl | simp only[seval,FMW,eInt,aP,xMA,xLA]⟩
 refine regW.of ?_
 simp only[seval,EMW,h35,h36]
 refine regA.two (j:=16) (k:=18) (by kernel_rfl) rfl rfl ?_ ?_
 refine regW.of ?_
 simp only[seval,EMW,h35,h36]
 refine regA.one (j:=18) (by kernel_rfl) rfl (regW.of ?_)
 simp only[seval,EMW,h35,h36]
 refine regA.one (j:=19) (by kernel_rfl) rfl (regW.of ?_)
 simp only[seval,EMW,h35,h36]
 refine regA.one (j:=20) (by kernel_rfl) rfl (regW.of ?_)
 simp only[seval,EMW,h35,h36]
 refine regA.pureB (j:=21) (d:=0) (by kernel_rfl) rfl rfl (by kernel_rfl) rfl rfl (zD rfl) ?_
 simp only[seval,EMW,h35,h36]
 refine⟨rfl,?_⟩
 exact regA.nil (by kernel_rfl) ⟨by first | rfl | simp only[seval,FMW,eInt,aP,xMA,xLA],by first | rfl | simp only[seval,FMW,eInt,aP,xMA,xLA]⟩
 refine regW.of ?_
 simp only[seval,EMW,h35,h36]
 refine regA.one (j:=16) (by kernel_rfl) rfl (regW.of ?_)
 simp only[seval,EMW,h35,h36]
 refine regA.one (j:=19) (by kernel_rfl) rfl (regW.of ?_)
 simp only[seval,EMW,h35,h36]
 refine regA.one (j:=20) (by kernel_rfl) rfl (regW.of ?_)
 simp only[seval,EMW,h35,h36]
 refine regA.pureB (j:=21) (d:=0) (by kernel_rfl) rfl rfl (by kernel_rfl) rfl rfl (zD rfl) ?_
 simp only[seval,EMW,h35,h36]
 refine⟨rfl,?_⟩
 exact regA.nil (by kernel_rfl) ⟨by first | rfl | simp only[seval,FMW,eInt,aP,xMA,xLA],by first | rfl | simp only[seval,FMW,eInt,aP,xMA,xLA]⟩
 refine regW.of ?_
 simp only[seval,EMW,h35,h36]
 refine regA.two (j:=15) (k:=18) (by kernel_rfl) rfl rfl ?_ ?_
 refine regW.of ?_
 simp only[seval,EMW,h35,h36]
 refine regA.two (j:=16) (k:=18) (by kernel_rfl) rfl rfl ?_ ?_
 refine regW.of ?_
 simp only[seval,EMW,h35,h36]
 refine regA.one (j:=18) (by kernel_rfl) rfl (regW.of ?_)
 simp only[seval,EMW,h35,h36]
 refine regA.one (j:=19) (by kernel_rfl) rfl (regW.of ?_)
 simp only[seval,EMW,h35,h36]
 refine regA.one (j:=20) (by kernel_rfl) rfl (regW.of ?_)
 simp only[seval,EMW,h35,h36]
 refine regA.pureB (j:=21) (d:=0) (by kernel_rfl) rfl rfl (by kernel_rfl) rfl rfl (zD rfl) ?_
 simp only[seval,EMW,h35,h36]
 refine⟨rfl,?_⟩
 exact regA.nil (by kernel_rfl) ⟨by first | rfl | simp only[seval,FMW,eInt,aP,xMA,xLA],by first | rfl | simp only[seval,FMW,eInt,aP,xMA,xLA]⟩
 refine regW.of ?_
 simp only[seval,EMW,h35,h36]
 refine regA.one (j:=16) (by kernel_rfl) rfl (regW.of ?_)
 simp only[seval,EMW,h35,h36]
 refine regA.one (j:=19) (by kernel_rfl) rfl (regW.of ?_)
 simp only[seval,EMW,h35,h36]
 refine regA.one (j:=20) (by kernel_rfl) rfl (regW.of ?_)
 simp only[seval,EMW,h35,h36]
 refine regA.pureB (j:=21) (d:=0) (by kernel_rfl) rfl rfl (by kernel_rfl) rfl rfl (zD rfl) ?_
 simp only[seval,EMW,h35,h36]
 refine⟨rfl,?_⟩
 exact regA.nil (by kernel_rfl) ⟨by first | rfl | simp only[seval,FMW,eInt,aP,xMA,xLA],by first | rfl | simp only[seval,FMW,eInt,aP,xMA,xLA]⟩
 refine regW.of ?_
 simp only[seval,EMW,h35,h36]
 refine regA.one (j:=15) (by kernel_rfl) rfl (regW.of ?_)
 simp only[seval,EMW,h35,h36]
 refine regA.one (j:=16) (by kernel_rfl) rfl (regW.of ?_)
 simp only[seval,EMW,h35,h36]
 refine regA.one (j:=19) (by kernel_rfl) rfl (regW.of ?_)
 simp only[seval,EMW,h35,h36]
 refine regA.one (j:=20) (by kernel_rfl) rfl (regW.of ?_)
 simp only[seval,EMW,h35,h36]
 refine regA.pureB (j:=21) (d:=0) (by kernel_rfl) rfl rfl (by kernel_rfl) rfl rfl (zD rfl) ?_
 simp only[seval,EMW,h35,h36]
 refine⟨rfl,?_⟩
 exact regA.nil (by kernel_rfl) ⟨by first | rfl | simp only[seval,FMW,eInt,aP,xMA,xLA],by first | rfl | simp only[seval,FMW,eInt,aP,xMA,xLA]⟩
 cases h
 simp only[seval,FMW,h35,h36]
 refine Mir.regionA 15 [] [.d (.bool false),.ptr 0 0,.ptr 2 0,U,.d (.int .i64 v14.1),.own 1 (zA ac v17),U,U,U,U,U,U,U,U,U,U,U,U,U,U,U,U,U,.ptr 2 0,.own 1 (zA ac v17),.d (.int .i64 v14.1),.d (.bool (decide (v14.1>0))),.d (.bool (decide (v14.1>0))),.skip,.skip,.skip,.d (.bool false),.d (.bool false),.skip,.skip,.skip,.skip,.skip,.d (.bool false),.d (.bool false),.skip,.skip,.skip,.skip,.skip,.d (.bool false)] ⟨[[.d (.int .i64 0),.d (.int .i64 0),.d (.int .i64 0),.d (.int .i64 500),.d (.int .i64 (-200)),.d (.int .i64 0),.d (.int .i64 40000),.d (.int .i64 2),.d (.int .i64 0)],[.d (.int .i64 100),.d (.int .i64 50),.d (.int .i64 60)],[.d (.list (zA ac v14.2.motions)),.d (.int .i64 v14.2.limits.Speed),.d (.int .i64 v14.2.limits.Accel),.d (.int .i64 v14.2.limits.Jerk),.d (.int .i64 v14.2.index),.d (.int .i64 v14.2.part),.d (.list (zA (eInt .i64) v14.2.plan)),.d (.int .i64 v14.2.at_),.d (.bool v14.2.braking),.d (.bool v14.2.held),.d (.bool v14.2.broken),.own 0 (zA ac v14.2.pieces),.d (.int .i64 v14.2.last.X),.d (.int .i64 v14.2.last.Y),.d (.int .i64 v14.2.last.Z)]],[(69,v14.2.pieces.length),(69,v17.length)]⟩ (by kernel_rfl) (λe h=>?_) (λe h=>?_)
 simp only[seval,EMW,SB,h35]
 refine regA.two (j:=15) (k:=17) (by kernel_rfl) rfl rfl ?_ ?_
 refine regW.of ?_
 simp only[seval,EMW,h35]
 refine regA.two (j:=16) (k:=17) (by kernel_rfl) rfl rfl ?_ ?_
 refine regW.of ?_
 simp only[seval,EMW,h35]
 refine regA.one (j:=17) (by kernel_rfl) rfl (regW.of ?_)
 simp only[seval,EMW,h35]
 refine regA.one (j:=18) (by kernel_rfl) rfl (regW.of ?_)
 simp only[seval,EMW,h35]
 refine regA.one (j:=19) (by kernel_rfl) rfl (regW.of ?_)
 simp only[seval,EMW,h35]
 refine regA.one (j:=20) (by kernel_rfl) rfl (regW.of ?_)
 simp only[seval,EMW,h35]
 refine regA.pureB (j:=21) (d:=0) (by kernel_rfl) rfl rfl (by kernel_rfl) rfl rfl (zD rfl) ?_
 simp only[seval,EMW,h35]
 refine⟨rfl,?_⟩
 exact regA.nil (by kernel_rfl) ⟨by first | rfl | simp only[seval,FMW,eInt,aP,xMA,xLA],by first | rfl | simp only[seval,FMW,eInt,aP,xMA,xLA]⟩
 refine regW.of ?_
 simp only[seval,EMW,h35]
 refine regA.two (j:=16) (k:=18) (by kernel_rfl) rfl rfl ?_ ?_
 refine regW.of ?_
 simp only[seval,EMW,h35]
 refine regA.one (j:=18) (by kernel_rfl) rfl (regW.of ?_)
 simp only[seval,EMW,h35]
 refine regA.one (j:=19) (by kernel_rfl) rfl (regW.of ?_)
 simp only[seval,EMW,h35]
 refine regA.one (j:=20) (by kernel_rfl) rfl (regW.of ?_)
 simp only[seval,EMW,h35]
 refine regA.pureB (j:=21) (d:=0) (by kernel_rfl) rfl rfl (by kernel_rfl) rfl rfl (zD rfl) ?_
 simp only[seval,EMW,h35]
 refine⟨rfl,?_⟩
 exact regA.nil (by kernel_rfl) ⟨by first | rfl | simp only[seval,FMW,eInt,aP,xMA,xLA],by first | rfl | simp only[seval,FMW,eInt,aP,xMA,xLA]⟩
 refine regW.of ?_
 simp only[seval,EMW,h35]
 refine regA.one (j:=16) (by kernel_rfl) rfl (regW.of ?_)
 simp only[seval,EMW,h35]
 refine regA.one (j:=19) (by kernel_rfl) rfl (regW.of ?_)
 simp only[seval,EMW,h35]
 refine regA.one (j:=20) (by kernel_rfl) rfl (regW.of ?_)
 simp only[seval,EMW,h35]
 refine regA.pureB (j:=21) (d:=0) (by kernel_rfl) rfl rfl (by kernel_rfl) rfl rfl (zD rfl) ?_
 simp only[seval,EMW,h35]
 refine⟨rfl,?_⟩
 exact regA.nil (by kernel_rfl) ⟨by first | rfl | simp only[seval,FMW,eInt,aP,xMA,xLA],by first | rfl | simp only[seval,FMW,eInt,aP,xMA,xLA]⟩
 refine regW.of ?_
 simp only[seval,EMW,h35]
 refine regA.two (j:=15) (k:=18) (by kernel_rfl) rfl rfl ?_ ?_
 refine regW.of ?_
 simp only[seval,EMW,h35]
 refine regA.two (j:=16) (k:=18) (by kernel_rfl) rfl rfl ?_ ?_
 refine regW.of ?_
 simp only[seval,EMW,h35]
 refine regA.one (j:=18) (by kernel_rfl) rfl (regW.of ?_)
 simp only[seval,EMW,h35]
 refine regA.one (j:=19) (by kernel_rfl) rfl (regW.of ?_)
 simp only[seval,EMW,h35]
 refine regA.one (j:=20) (by kernel_rfl) rfl (regW.of ?_)
 simp only[seval,EMW,h35]
 refine regA.pureB (j:=21) (d:=0) (by kernel_rfl) rfl rfl (by kernel_rfl) rfl rfl (zD rfl) ?_
 simp only[seval,EMW,h35]
 refine⟨rfl,?_⟩
 exact regA.nil (by kernel_rfl) ⟨by first | rfl | simp only[seval,FMW,eInt,aP,xMA,xLA],by first | rfl | simp only[seval,FMW,eInt,aP,xMA,xLA]⟩
 refine regW.of ?_
 simp only[seval,EMW,h35]
 refine regA.one (j:=16) (by kernel_rfl) rfl (regW.of ?_)
 simp only[seval,EMW,h35]
 refine regA.one (j:=19) (by kernel_rfl) rfl (regW.of ?_)
 simp only[seval,EMW,h35]
 refine regA.one (j:=20) (by kernel_rfl) rfl (regW.of ?_)
 simp only[seval,EMW,h35]
 refine regA.pureB (j:=21) (d:=0) (by kernel_rfl) rfl rfl (by kernel_rfl) rfl rfl (zD rfl) ?_
 simp only[seval,EMW,h35]
 refine⟨rfl,?_⟩
 exact regA.nil (by kernel_rfl) ⟨by first | rfl | simp only[seval,FMW,eInt,aP,xMA,xLA],by first | rfl | simp only[seval,FMW,eInt,aP,xMA,xLA]⟩
 refine regW.of ?_
 simp only[seval,EMW,h35]
 refine regA.one (j:=15) (by kernel_rfl) rfl (regW.of ?_)
 simp only[seval,EMW,h35]
 refine regA.one (j:=16) (by kernel_rfl) rfl (regW.of ?_)
 simp only[seval,EMW,h35]
 refine regA.one (j:=19) (by kernel_rfl) rfl (regW.of ?_)
 simp only[seval,EMW,h35]
 refine regA.one (j:=20) (by kernel_rfl) rfl (regW.of ?_)
 simp only[seval,EMW,h35]
 refine regA.pureB (j:=21) (d:=0) (by kernel_rfl) rfl rfl (by kernel_rfl) rfl rfl (zD rfl) ?_
 simp only[seval,EMW,h35]
 refine⟨rfl,?_⟩
 exact regA.nil (by kernel_rfl) ⟨by first | rfl | simp only[seval,FMW,eInt,aP,xMA,xLA],by first | rfl | simp only[seval,FMW,eInt,aP,xMA,xLA]⟩
 cases h
 simp only[seval,FMW,h35]
 intro v18
 refine Mir.toK (.ret QW)
end Go.Proofs.YtgbafiejgciilaaGreatDoor
