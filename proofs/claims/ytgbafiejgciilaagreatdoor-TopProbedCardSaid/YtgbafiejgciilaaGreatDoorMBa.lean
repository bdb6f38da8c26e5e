import Derived.Test.YtgbafiejgciilaaGreatDoorG1
import Derived.Test.YtgbafiejgciilaaGreatDoorTy
import Derived.Test.YtgbafiejgciilaaGreatDoorGz
import Derived.Test.YtgbafiejgciilaaGreatDoorSzz
import Derived.Test.YtgbafiejgciilaaGreatDoorMI
import Derived.Test.YtgbafiejgciilaaGreatDoorMQ
open And renaming intro → zA
open List renaming map → zB,replicate → zF,length → zG,all_eq_true → zI
open Bool renaming eq_false_or_eq_true → zD
open Int renaming toNat_natCast → zE,tdiv → zH,tmod → zJ
open Go.IntKind renaming i64 → zK,u64 → zL
namespace Go.Proofs.YtgbafiejgciilaaGreatDoor
set_option linter.defProp false
open Go.RowKit
open Nat renaming reduceAdd → nA,reduceSub → nS,reduceMul → nM,reduceEqDiff → nE,reduceLeDiff → nL,reduceLT → nT,reduceBEq → nB
open Int renaming reduceLT → iT,reduceToNat → iN,reduceEq → iE
set_option linter.unusedVariables false
set_option linter.unusedSimpArgs false
set_option maxRecDepth 100000
set_option maxHeartbeats 8000000
structure aN where
 Letter:Int
 Value:Int
 deriving DecidableEq
def bz(x:aN):List D:=[.int .u8 x.Letter,.int .i64 x.Value]
abbrev cK(x:aN):List V:=[.d (.int .u8 x.Letter),.d (.int .i64 x.Value)]
structure au where
 Skip:Bool
 Words:(List aN)
 Comment:(List UInt8)
 deriving DecidableEq
def aU(x:au):List D:=[.bool x.Skip,.list (zB bz x.Words),.str x.Comment]
abbrev cG(x:au):List V:=[.d (.bool x.Skip),.d (.list (zB bz x.Words)),.d (.str x.Comment)]
theorem al_ApiBlock{l:List au}:(zB aU l).all (λx=>x.length==3)=true:=by simp[zI,aU]
structure aG where
 Number:Int
 Length:Int
 deriving DecidableEq
def ag(x:aG):List D:=[.int .i64 x.Number,.int .i64 x.Length]
abbrev cL(x:aG):List V:=[.d (.int .i64 x.Number),.d (.int .i64 x.Length)]
theorem al_TableLength{l:List aG}:(zB ag l).all (λx=>x.length==2)=true:=by simp[zI,ag]
structure aa where
 X:Int
 Y:Int
 Z:Int
 deriving DecidableEq
def bH(x:aa):List D:=[.int .i64 x.X,.int .i64 x.Y,.int .i64 x.Z]
abbrev cH(x:aa):List V:=[.d (.int .i64 x.X),.d (.int .i64 x.Y),.d (.int .i64 x.Z)]
theorem al_ApiPos{l:List aa}:(zB bH l).all (λx=>x.length==3)=true:=by simp[zI,bH]
structure aZ where
 e0:aa
 e1:aa
 e2:aa
 e3:aa
 e4:aa
 e5:aa
 deriving DecidableEq
abbrev w6(W:aZ)(r:List V):List V:=.d (.int .i64 W.e0.X)::.d (.int .i64 W.e0.Y)::.d (.int .i64 W.e0.Z)::.d (.int .i64 W.e1.X)::.d (.int .i64 W.e1.Y)::.d (.int .i64 W.e1.Z)::.d (.int .i64 W.e2.X)::.d (.int .i64 W.e2.Y)::.d (.int .i64 W.e2.Z)::.d (.int .i64 W.e3.X)::.d (.int .i64 W.e3.Y)::.d (.int .i64 W.e3.Z)::.d (.int .i64 W.e4.X)::.d (.int .i64 W.e4.Y)::.d (.int .i64 W.e4.Z)::.d (.int .i64 W.e5.X)::.d (.int .i64 W.e5.Y)::.d (.int .i64 W.e5.Z)::r
def encArr6ApiPos(x:aZ):List D:=[.int .i64 x.e0.X,.int .i64 x.e0.Y,.int .i64 x.e0.Z,.int .i64 x.e1.X,.int .i64 x.e1.Y,.int .i64 x.e1.Z,.int .i64 x.e2.X,.int .i64 x.e2.Y,.int .i64 x.e2.Z,.int .i64 x.e3.X,.int .i64 x.e3.Y,.int .i64 x.e3.Z,.int .i64 x.e4.X,.int .i64 x.e4.Y,.int .i64 x.e4.Z,.int .i64 x.e5.X,.int .i64 x.e5.Y,.int .i64 x.e5.Z]
structure al where
 Work:aZ
 Lengths:(List aG)
 deriving DecidableEq
def encTableTable(x:al):List D:=[.int .i64 x.Work.e0.X,.int .i64 x.Work.e0.Y,.int .i64 x.Work.e0.Z,.int .i64 x.Work.e1.X,.int .i64 x.Work.e1.Y,.int .i64 x.Work.e1.Z,.int .i64 x.Work.e2.X,.int .i64 x.Work.e2.Y,.int .i64 x.Work.e2.Z,.int .i64 x.Work.e3.X,.int .i64 x.Work.e3.Y,.int .i64 x.Work.e3.Z,.int .i64 x.Work.e4.X,.int .i64 x.Work.e4.Y,.int .i64 x.Work.e4.Z,.int .i64 x.Work.e5.X,.int .i64 x.Work.e5.Y,.int .i64 x.Work.e5.Z,.list (zB ag x.Lengths)]
structure aW where
 Block:Int
 Code:Int
 deriving DecidableEq
def k9(x:aW):List D:=[.int .i64 x.Block,.int .i64 x.Code]
abbrev cM(x:aW):List V:=[.d (.int .i64 x.Block),.d (.int .i64 x.Code)]
structure am where
 Motion:Int
 Distance:Int
 Work:Int
 Length:Int
 Return:Int
 Feed:Int
 Tool:Int
 Offset:Int
 deriving DecidableEq
def encModalState(x:am):List D:=[.int .i64 x.Motion,.int .i64 x.Distance,.int .i64 x.Work,.int .i64 x.Length,.int .i64 x.Return,.int .i64 x.Feed,.int .i64 x.Tool,.int .i64 x.Offset]
abbrev cB(x:am):List V:=[.d (.int .i64 x.Motion),.d (.int .i64 x.Distance),.d (.int .i64 x.Work),.d (.int .i64 x.Length),.d (.int .i64 x.Return),.d (.int .i64 x.Feed),.d (.int .i64 x.Tool),.d (.int .i64 x.Offset)]
structure ap where
 Code:Int
 R:Int
 Z:Int
 Q:Int
 Rate:Int
 Initial:Int
 High:Bool
 deriving DecidableEq
def encCycleCycle(x:ap):List D:=[.int .i64 x.Code,.int .i64 x.R,.int .i64 x.Z,.int .i64 x.Q,.int .i64 x.Rate,.int .i64 x.Initial,.bool x.High]
abbrev cC(x:ap):List V:=[.d (.int .i64 x.Code),.d (.int .i64 x.R),.d (.int .i64 x.Z),.d (.int .i64 x.Q),.d (.int .i64 x.Rate),.d (.int .i64 x.Initial),.d (.bool x.High)]
structure aw where
 at_:aa
 rate:Int
 deriving DecidableEq
def aQ(x:aw):List D:=[.int .i64 x.at_.X,.int .i64 x.at_.Y,.int .i64 x.at_.Z,.int .i64 x.rate]
theorem jH{l:List aw}:(zB aQ l).all (λx=>x.length==4)=true:=by simp[zI,aQ]
structure be where
 X:Int
 Y:Int
 deriving DecidableEq
def encApiGrid2(x:be):List D:=[.int .i64 x.X,.int .i64 x.Y]
abbrev cN(x:be):List V:=[.d (.int .i64 x.X),.d (.int .i64 x.Y)]
structure aV where
 Kind:Int
 To:aa
 Center:be
 Rate:Int
 deriving DecidableEq
def encApiMove(x:aV):List D:=[.int .i64 x.Kind,.int .i64 x.To.X,.int .i64 x.To.Y,.int .i64 x.To.Z,.int .i64 x.Center.X,.int .i64 x.Center.Y,.int .i64 x.Rate]
abbrev cD(x:aV):List V:=[.d (.int .i64 x.Kind),.d (.int .i64 x.To.X),.d (.int .i64 x.To.Y),.d (.int .i64 x.To.Z),.d (.int .i64 x.Center.X),.d (.int .i64 x.Center.Y),.d (.int .i64 x.Rate)]
structure ah where
 From:aa
 To:aa
 Rate:Int
 Tool:Int
 Block:Int
 deriving DecidableEq
def ac(x:ah):List D:=[.int .i64 x.From.X,.int .i64 x.From.Y,.int .i64 x.From.Z,.int .i64 x.To.X,.int .i64 x.To.Y,.int .i64 x.To.Z,.int .i64 x.Rate,.int .i64 x.Tool,.int .i64 x.Block]
abbrev cA(x:ah):List V:=[.d (.int .i64 x.From.X),.d (.int .i64 x.From.Y),.d (.int .i64 x.From.Z),.d (.int .i64 x.To.X),.d (.int .i64 x.To.Y),.d (.int .i64 x.To.Z),.d (.int .i64 x.Rate),.d (.int .i64 x.Tool),.d (.int .i64 x.Block)]
theorem jI{l:List ah}:(zB ac l).all (λx=>x.length==9)=true:=by simp[zI,ac]
def ENMB:=zA @bz.eq_1<|zA @aU.eq_1<|zA @ag.eq_1<|zA @bH.eq_1<|zA @encArr6ApiPos.eq_1<|zA @encTableTable.eq_1<|zA @k9.eq_1<|zA @encModalState.eq_1<|zA @encCycleCycle.eq_1<|zA @aQ.eq_1<|zA @encApiGrid2.eq_1<|zA @encApiMove.eq_1<|@ac.eq_1
def TMB:=zA @Tryz.ntmps112<|zA @Tryz.ntmps113<|zA @Tryz.ntmps114<|zA @Tryz.ntmps115<|zA @Tryz.ntmps116<|zA @Tryz.ntmps117<|zA @Tryz.ntmps118<|zA @Tryz.ntmps119<|zA @Tryz.ntmps12<|zA @Tryz.ntmps121<|zA @Tryz.ntmps130<|zA @Tryz.ntmps133<|zA @Tryz.ntmps134<|zA @Tryz.ntmps139<|zA @Tryz.ntmps145<|zA @Tryz.ntmps146<|zA @Tryz.ntmps147<|zA @Tryz.ntmps148<|zA @Tryz.ntmps149<|zA @Tryz.ntmps152<|zA @Tryz.ntmps153<|zA @Tryz.ntmps154<|zA @Tryz.ntmps155<|zA @Tryz.ntmps156<|zA @Tryz.ntmps157<|zA @Tryz.ntmps158<|zA @Tryz.ntmps38<|zA @Tryz.ntmps41<|zA @Tryz.ntmps42<|zA @Tryz.ntmps44<|zA @Tryz.ntmps45<|zA @Tryz.ntmps46<|zA @Tryz.ntmps73<|zA @Tryz.ntmps74<|zA @Tryz.ntmps75<|zA @Tryz.ntmps77<|zA @Tryz.ntmps79<|zA @Tryz.ntmps80<|zA @Tryz.ntmps81<|zA @Tryz.ntmps82<|zA @Tryz.ntmps83<|zA @Tryz.ntmps84<|zA @Tryz.ntmps85<|zA @Tryz.ntmps86<|zA @Tryz.ntmps87<|zA @Tryz.ntmps88<|zA @Tryz.results109<|zA @Tryz.results111<|zA @Tryz.results112<|zA @Tryz.results113<|zA @Tryz.results114<|zA @Tryz.results115<|zA @Tryz.results116<|zA @Tryz.results117<|zA @Tryz.results118<|zA @Tryz.results119<|zA @Tryz.results12<|zA @Tryz.results121<|zA @Tryz.results129<|zA @Tryz.results130<|zA @Tryz.results133<|zA @Tryz.results134<|zA @Tryz.results139<|zA @Tryz.results145<|zA @Tryz.results146<|zA @Tryz.results147<|zA @Tryz.results148<|zA @Tryz.results149<|zA @Tryz.results151<|zA @Tryz.results152<|zA @Tryz.results153<|zA @Tryz.results154<|zA @Tryz.results155<|zA @Tryz.results156<|zA @Tryz.results157<|zA @Tryz.results158<|zA @Tryz.results38<|zA @Tryz.results41<|zA @Tryz.results42<|zA @Tryz.results43<|zA @Tryz.results44<|zA @Tryz.results45<|zA @Tryz.results46<|zA @Tryz.results72<|zA @Tryz.results73<|zA @Tryz.results74<|zA @Tryz.results75<|zA @Tryz.results77<|zA @Tryz.results78<|zA @Tryz.results79<|zA @Tryz.results80<|zA @Tryz.results81<|zA @Tryz.results82<|zA @Tryz.results83<|zA @Tryz.results84<|zA @Tryz.results85<|zA @Tryz.results86<|zA @Tryz.results87<|zA @Tryz.results88<|zA @ag_104<|zA @ag_107<|zA @ag_110<|zA @ag_115<|zA @ag_157<|zA @ag_2<|zA @ag_201<|zA @ag_210<|zA @ag_23<|zA @ag_3<|zA @ag_45<|zA @ag_48<|zA @ag_5<|zA @ag_50<|zA @ag_56<|zA @ag_57<|zA @ag_59<|zA @ag_65<|zA @ag_85<|zA @ag_9<|zA @jI<|zA @al_ApiPos<|zA @jH<|zA @app_115<|zA @app_153<|zA @app_61<|zA @app_63<|zA @fld_104_0<|zA @fld_104_1<|zA @fld_107_0<|zA @fld_107_1<|zA @fld_107_2<|zA @fld_107_3<|zA @fld_107_4<|zA @fld_107_5<|zA @fld_107_6<|zA @fld_107_7<|zA @fld_157_0<|zA @fld_157_1<|zA @fld_201_0<|zA @fld_201_1<|zA @fld_210_0<|zA @fld_210_1<|zA @fld_210_2<|zA @fld_210_3<|zA @fld_23_0<|zA @fld_23_1<|zA @fld_23_2<|zA @fld_45_0<|zA @fld_45_1<|zA @fld_50_0<|zA @fld_50_1<|zA @fld_56_0<|zA @fld_56_1<|zA @fld_59_1<|zA @fld_59_2<|zA @fld_69_1<|zA @fld_69_4<|zA @pl_107<|zA @pl_110<|zA @pl_157<|zA @pl_201<|zA @pl_210<|zA @pl_23<|zA @pl_45<|zA @pl_65<|zA @pl_69<|zA @sz_104<|zA @sz_107<|zA @sz_110<|zA @sz_115<|zA @sz_157<|zA @sz_2<|zA @sz_201<|zA @sz_210<|zA @sz_23<|zA @sz_24<|zA @sz_3<|zA @sz_45<|zA @sz_48<|zA @sz_5<|zA @sz_50<|zA @sz_56<|zA @sz_57<|zA @sz_59<|zA @sz_65<|zA @sz_69<|zA @sz_85<|zA @sz_9<|zA @und_115<|zA @und_133<|zA @und_153<|zA @und_176<|zA @und_202<|zA @und_235<|zA @und_24<|zA @und_3<|zA @und_48<|zA @und_5<|zA @und_57<|zA @und_60<|zA @und_61<|zA @und_63<|zA @und_9<|zA @zero_104<|zA @zero_107<|zA @zero_110<|zA @zero_157<|zA @zero_2<|zA @zero_201<|zA @zero_210<|zA @zero_23<|zA @zero_45<|zA @zero_56<|zA @zero_59<|zA @zero_65<|zA @zero_69<|@zero_85
def EMB:=zA @EMQ<|zA @ENMB<|@TMB
def FMB:=zA @FMQ<|zA @ENMB<|@TMB
theorem QB{α:Type}{x:α}{p:α→Prop}(e:p x:=by simp only[seval,FMB]):∀y,some x=some y→p y:=λ_ i=>Option.some.inj i▸e
theorem WB{p q:Prop}(h:q)(e:p=q:=by simp only[seval,EMB];rfl):p:=Eq.mpr e h
theorem mB{P:Program}{g:Pg P}{fr:Fr}{s:Sg}{ε:Type}{Φ:ε→SQ}{m:Option ε}{c:Code}{e:ε}{p:Prop}(h:Mir g c fr s m Φ)(i:m=some e)(w:p=SWs g c (Φ e) fr s:=by simp only[seval,EMB];rfl):p:=Eq.mpr w (h e i)
theorem Mir.sB{P:Program}{g g':Pg P}{fr fr':Fr}{s s':Sg}{ε:Type}{Φ:ε→SQ}{m:Option ε}{id:Nat}{ops:Array Oper}{k c:Code}(h:Mir g' c fr' s' m Φ)(e:∀e,regS g false ops ops.toList fr s (kQ g k Φ e .normal)=SWs g' c (Φ e) fr' s':=by intro e;simp only[seval,EMB];rfl):Mir g (.seq (.region id ops false) k) fr s m Φ:=Mir.sR λy i=>Eq.mpr (e y) (h y i)
theorem Mir.rB{P:Program}{g:Pg P}{fr:Fr}{s:Sg}{ε:Type}{Φ:ε→SQ}{x:ε}{id:Nat}{ops:Array Oper}(e:regS g false ops ops.toList fr s (Φ x .normal):=by simp only[seval,EMB];simp only[seval,FMB]):Mir g (.region id ops false) fr s (some x) Φ:=Mir.region λ_ i=>Option.some.inj i▸e
theorem SpecS.byB{P:Program}{g:Pg P}{f:FuncId}{args:List V}{s:Sg}{R:V→Sg→Prop}{r:V}{args':List V}(h:Spec g f args' r)(hR:R r s)(ha:args.map V.clean=args':=by simp only[seval,FMB]):SpecS g f args s R:=SpecS.by h ha hR
theorem auB{P:Program}{g:Pg P}{f:FuncId}{fn:Func}{c:Code}(hf:P.funcs[f]? = some fn){args:List V}{ρ:Type}(en:ρ→V){m:Option ρ}{fr:Fr}(h:Mir g c fr ⟨[],[]⟩ m (fnQ g fn.results.toList en)){y:ρ}(hy:m=some y)(hb:fn.body=some c:=by rfl)(he:bj P f=true:=by kernel_rfl)(hd:bP c=true:=by kernel_rfl)(e:args++List.replicate (fn.ntmps-args.length) .undef=fr:=by simp only[List.replicate,List.length,nS,nA,SV,TMB];rfl):Spec g f args (en y):=d4 hf hb he hd en (e▸h) hy
def gW(a0:aa):Option Bool:=some ((decide ((mmI true (mmI true a0.X a0.Y) a0.Z)>10000000))||(decide ((mmI false (mmI false a0.X a0.Y) a0.Z)<(-10000000))))
theorem cv{a0:aa}{y:Bool}(h:gW a0=some y):Spec gP 73 [.agg (cH a0)] (.d (.bool y)):=by
 refine auB Tryz.func73 (λy:Bool=>.d (.bool y)) ?_ h
 unfold gW
 refine .sB ?_
 refine .sB ?_
 refine .sB ?_
 refine .seqK (.joinV ([U,U,.d (.bool ((decide ((mmI true (mmI true a0.X a0.Y) a0.Z)>10000000))||(decide ((mmI false (mmI false a0.X a0.Y) a0.Z)<(-10000000)))))]++us 22) ⟨[(cH a0)],[]⟩ rfl ?_ ?_)
 refine SWs.region ?_
 rcases zD (decide ((mmI true (mmI true a0.X a0.Y) a0.Z)>10000000))with hb1 | hb1
 simp only[seval,EMB,SL,PB,hb1]
 simp only[seval,EMB,SL,PB,hb1]
 refine Mir.toK (.ret QB)
def jM(a0:aG):Option Bool:=some ((decide (a0.Number≥1))&&((decide (a0.Number≤999))&&((decide (a0.Length≥0))&&(decide (a0.Length≤10000000)))))
theorem iz{a0:aG}{y:Bool}(h:jM a0=some y):Spec gP 74 [.agg (cL a0)] (.d (.bool y)):=by
 refine auB Tryz.func74 (λy:Bool=>.d (.bool y)) ?_ h
 unfold jM
 refine .sB ?_
 refine .seqK (.joinV ([U,U,.d (.bool ((decide (a0.Number≥1))&&((decide (a0.Number≤999))&&((decide (a0.Length≥0))&&(decide (a0.Length≤10000000))))))]++us 18) ⟨[(cL a0)],[]⟩ rfl ?_ ?_)
 refine SWs.region ?_
 rcases zD (decide (a0.Number≥1))with hb1 | hb1
 rcases zD (decide (a0.Number≤999))with hb2 | hb2
 rcases zD (decide (a0.Length≥0))with hb3 | hb3
 simp only[seval,EMB,SL,PB,hb1,hb2,hb3]
 simp only[seval,EMB,SL,PB,hb1,hb2,hb3]
 simp only[seval,EMB,SL,PB,hb1,hb2]
 simp only[seval,EMB,SL,PB,hb1]
 refine Mir.toK (.ret QB)
def br(a0:al):Option Int:=bindO (bindO (bindX (bindO (gW a0.Work.e0) λ(y1:Bool)=>if y1=true then some (.ret 0)else bindO (gW a0.Work.e1) λ(y2:Bool)=>if y2=true then some (.ret 1)else bindO (gW a0.Work.e2) λ(y3:Bool)=>if y3=true then some (.ret 2)else bindO (gW a0.Work.e3) λ(y4:Bool)=>if y4=true then some (.ret 3)else bindO (gW a0.Work.e4) λ(y5:Bool)=>if y5=true then some (.ret 4)else bindO (gW a0.Work.e5) λ(y6:Bool)=>if y6=true then some (.ret 5)else some (.go ())) λ(v1:Unit)=>some (-1)) λ(v2:Int)=>some (decide (v2≥0))) λ(v3:Bool)=>if v3=true then some 1 else bindX (aB (okIdx a0.Lengths) ( aS (λ(i1:Nat) (e1:aG) (v4:Unit)=>bindO (bindO (jM e1) λ(y7:Bool)=>if y7=true then if (decide ((i1:Int)>0))=true then bindO (gt a0.Lengths (zK.wrap ((i1:Int)-1))) λ(e2:aG)=>some (decide (e2.Number≥e1.Number))else some false else some true) λ(v5:Bool)=>if v5=true then some (.ret (.ret 1))else some (.go ())) (λ(v4:Unit)=>some (.go ())) a0.Lengths 0 ())) λ(v6:Unit)=>some 0
theorem ey{a0:al}{y:Int}(h:br a0=some y):Spec gP 38 [.agg (w6 a0.Work [.d (.list (zB ag a0.Lengths))])] (.d (.int .i64 y)):=by
 refine auB Tryz.func38 (λy:Int=>.d (.int .i64 y)) ?_ h
 unfold br
 refine .sB ?_
 refine .seqK (.seqK (.bind λv3 hv62=>.region λe h=>WB ?_))
 refine SpecS.inl Tryz.func72 rfl (by kernel_rfl) (by kernel_rfl) (λv3:Bool=>.d (.bool v3)) (λv3=>⟨[(w6 a0.Work [.d (.list (zB ag a0.Lengths))])],[]⟩) hv62 rfl ?_ ?_
 simp only[zF,zG,nS,nA,Tryz.ntmps72,SV]
 refine .sB ?_
 refine .seqK (.bind λv2 h1=>.region λe h=>WB ?_)
 refine SpecS.inl Tryz.func109 rfl (by kernel_rfl) (by kernel_rfl) (λv2:Int=>.d (.int .i64 v2)) (λv2=>⟨[(w6 a0.Work [.d (.list (zB ag a0.Lengths))])],[]⟩) h1 rfl ?_ ?_
 simp only[zF,zG,nS,nA,Tryz.ntmps109,SV]
 refine .sB ?_
 refine .seqK (.sR λe h=>?_)
 simp only[seval,EMB,(nr rfl:((6:Nat):Int)=6)]
 refine mU e (Mir.join (λv1:Unit=>(us 19)) (λv1=>⟨[(w6 a0.Work [.d (.list (zB ag a0.Lengths))])],[]⟩) (λ_=>rfl) ?_ ?_) h
 refine .block (.loopR 15 (.sB ?_))
 refine .seqK (.condT rfl (.skip (Mir.toK (.seqK (.block (.sB ?_))))))
 refine .seqK (.bind λy1 h2=>.region λe h=>WB ?_)
 refine .byB (cv h2) (mB ?_ h)
 refine .cond rfl (λh3=>?_) (λh3=>?_)
 refine .sB ?_
 refine .ret QB
 refine .skip (Mir.toB (Mir.toK (.region λe h=>?_)))
 simp only[seval,EMB,(nr rfl:zK.wrap 1=1)]
 refine Mir.useN (e:=e) ?_ h
 refine .sB ?_
 refine .seqK (.condT rfl (.skip (Mir.toK (.seqK (.block (.sB ?_))))))
 refine .seqK (.bind λy2 h4=>.region λe h=>WB ?_)
 refine .byB (cv h4) (mB ?_ h)
 refine .cond rfl (λh5=>?_) (λh5=>?_)
 refine .sB ?_
 refine .ret QB
 refine .skip (Mir.toB (Mir.toK (.region λe h=>?_)))
 simp only[seval,EMB,(nr rfl:zK.wrap 2=2)]
 refine Mir.useN (e:=e) ?_ h
 refine .sB ?_
 refine .seqK (.condT rfl (.skip (Mir.toK (.seqK (.block (.sB ?_))))))
 refine .seqK (.bind λy3 h6=>.region λe h=>WB ?_)
 refine .byB (cv h6) (mB ?_ h)
 refine .cond rfl (λh7=>?_) (λh7=>?_)
 refine .sB ?_
 refine .ret QB
 refine .skip (Mir.toB (Mir.toK (.region λe h=>?_)))
 simp only[seval,EMB,(nr rfl:zK.wrap 3=3)]
 refine Mir.useN (e:=e) ?_ h
 refine .sB ?_
 refine .seqK (.condT rfl (.skip (Mir.toK (.seqK (.block (.sB ?_))))))
 refine .seqK (.bind λy4 h8=>.region λe h=>WB ?_)
 refine .byB (cv h8) (mB ?_ h)
 refine .cond rfl (λh9=>?_) (λh9=>?_)
 refine .sB ?_
 refine .ret QB
 refine .skip (Mir.toB (Mir.toK (.region λe h=>?_)))
 simp only[seval,EMB,(nr rfl:zK.wrap 4=4)]
 refine Mir.useN (e:=e) ?_ h
 refine .sB ?_
 refine .seqK (.condT rfl (.skip (Mir.toK (.seqK (.block (.sB ?_))))))
 refine .seqK (.bind λy5 h10=>.region λe h=>WB ?_)
 refine .byB (cv h10) (mB ?_ h)
 refine .cond rfl (λh11=>?_) (λh11=>?_)
 refine .sB ?_
 refine .ret QB
 refine .skip (Mir.toB (Mir.toK (.region λe h=>?_)))
 simp only[seval,EMB,(nr rfl:zK.wrap 5=5)]
 refine Mir.useN (e:=e) ?_ h
 refine .sB ?_
 refine .seqK (.condT rfl (.skip (Mir.toK (.seqK (.block (.sB ?_))))))
 refine .seqK (.bind λy6 h12=>.region λe h=>WB ?_)
 refine .byB (cv h12) (mB ?_ h)
 refine .cond rfl (λh13=>?_) (λh13=>?_)
 refine .sB ?_
 refine .ret QB
 refine .skip (Mir.toB (Mir.toK (.region λe h=>?_)))
 simp only[seval,EMB,(nr rfl:zK.wrap 6=6)]
 refine Mir.useN (e:=e) ?_ h
 refine .sB ?_
 refine .seqK (.condF rfl (.exit QB))
 intro v1
 refine Mir.toK (.sB ?_)
 refine .ret QB
 simp only[seval,EMB]
 refine mU e (.ret QB) h
 simp only[seval,EMB]
 refine mU e (.cond rfl (λh14=>?_) (λh14=>?_)) h
 refine .sB ?_
 refine .ret QB
 refine .skip (Mir.toK (.seqK (.sB ?_)))
 refine Mir.join (λv6:Unit=>(us 36)) (λv6=>⟨[(w6 a0.Work [.d (.list (zB ag a0.Lengths))])],[]⟩) (λ_=>rfl) ?_ ?_
 refine .block (.guard λq1=>Mir.range (λ(i1:Nat) (v4:Unit)=>([U,.ptr 0 0,U,U,U,U,U,U,U,.d (.list (zB ag a0.Lengths)),.d (.int .i64 (a0.Lengths.length:Int)),.d (.int .i64 (i1:Int))]++us 24)) (λi1 v4=>⟨[(w6 a0.Work [.d (.list (zB ag a0.Lengths))])],[]⟩) q1 (λ_ _=>rfl) (by simp only[seval,FMB,zNI]) (by simp only[seval,FMB,zNI]) ?_ ?_)
 intro i1 e1 v4 q2
 refine .sR λe h=>?_
 simp only[seval,EMB,q2]
 refine mU e (.seqK (.condT rfl (.skip (Mir.toK (.seqK (.block (.sR λe h=>?_))))))) h
 simp only[seval,EMB,q2,zE]
 refine mU e (.seqK (Mir.joinO (λv5:Bool=>[U,.ptr 0 0,U,U,U,U,U,U,U,.d (.list (zB ag a0.Lengths)),.d (.int .i64 (a0.Lengths.length:Int)),.d (.int .i64 (i1:Int)),U,U,U,U,U,U,U,U,U,U,U,U,U,U,U,U,U,U,U,U,U,U,.d (.bool v5),U]) (λv5=>⟨[(w6 a0.Work [.d (.list (zB ag a0.Lengths))]),(cL e1)],[]⟩) (λ_=>rfl) ?_ ?_)) h
 refine .bind λy7 h15=>.ite (λh16=>?_) (λh16=>?_)
 refine .ite (λh17=>?_) (λh17=>?_)
 refine .bind λe2 q3=>?_
 replace q3:=gt_ok q3
 refine .regionD [] (by kernel_rfl) λe h=>?_
 simp only[seval,EMB,SB,h16,h17]
 refine Spec.by (iz h15) (by simp only[seval,FMB,h16,h17]) ?_
 simp only[seval,EMB,SB,q3,h16,h17]
 cases h
 simp only[seval,FMB,h16,h17]
 refine .regionD [] (by kernel_rfl) λe h=>?_
 simp only[seval,EMB,SB,h16,h17]
 refine Spec.by (iz h15) (by simp only[seval,FMB,h16,h17]) ?_
 simp only[seval,EMB,SB,h16,h17]
 cases h
 simp only[seval,FMB,h16,h17]
 refine .regionD [] (by kernel_rfl) λe h=>?_
 simp only[seval,EMB,SB,h16]
 refine Spec.by (iz h15) (by simp only[seval,FMB,h16]) ?_
 simp only[seval,EMB,SB,h16]
 cases h
 simp only[seval,FMB,h16]
 intro v5
 refine Mir.toK (.cond rfl (λh18=>?_) (λh18=>?_))
 refine .sB ?_
 refine .ret QB
 refine .skip (Mir.toB (Mir.toK (.region λe h=>?_)))
 simp only[seval,EMB]
 cases h
 simp only[seval,FMB,q2]
 intro v4 q4
 refine .sR λe h=>?_
 simp only[seval,EMB,q4]
 refine mU e (.seqK (.condF rfl (.exit QB))) h
 intro v6
 refine Mir.toK (.sB ?_)
 refine .ret QB
def dD(a0:Int):Option Bool:=some ((decide (a0<(-10000000)))||(decide (a0>10000000)))
theorem eI{a0:Int}{y:Bool}(h:dD a0=some y):Spec gP 112 [.d (.int .i64 a0)] (.d (.bool y)):=by
 refine auB Tryz.func112 (λy:Bool=>.d (.bool y)) ?_ h
 unfold dD
 refine .sB ?_
 refine .seqK (.joinV ([U,U,.d (.bool ((decide (a0<(-10000000)))||(decide (a0>10000000))))]++us 6) ⟨[],[]⟩ rfl ?_ ?_)
 refine SWs.region ?_
 rcases zD (decide (a0<(-10000000)))with hb1 | hb1
 simp only[seval,EMB,SL,PB,hb1]
 simp only[seval,EMB,SL,PB,hb1]
 refine Mir.toK (.ret QB)
def ip(a0:aa):Option Bool:=bindO (bindO (bindX (bindO (dD a0.X) λ(y1:Bool)=>if y1=true then some (.ret 0)else bindO (dD a0.Y) λ(y2:Bool)=>if y2=true then some (.ret 1)else bindO (dD a0.Z) λ(y3:Bool)=>if y3=true then some (.ret 2)else some (.go ())) λ(v1:Unit)=>some (-1)) λ(v2:Int)=>some (decide (v2≥0))) λ(v3:Bool)=>some (!v3)
theorem inp_inside_spec{a0:aa}{y:Bool}(h:ip a0=some y):Spec gP 77 [.agg (cH a0)] (.d (.bool y)):=by
 refine auB Tryz.func77 (λy:Bool=>.d (.bool y)) ?_ h
 unfold ip
 refine .sB ?_
 refine .seqK (.bind λv3 hv32=>.region λe h=>?_)
 simp only[seval,EMB,(oL 3)]
 refine SpecS.inl Tryz.func111 rfl (by kernel_rfl) (by kernel_rfl) (λv3:Bool=>.d (.bool v3)) (λv3=>⟨[(cH a0)],[]⟩) hv32 rfl ?_ ?_
 simp only[zF,zG,nS,nA,Tryz.ntmps111,SV]
 refine .sB ?_
 refine .seqK (.bind λv2 hv63=>.region λe h=>WB ?_)
 refine SpecS.inl Tryz.func129 rfl (by kernel_rfl) (by kernel_rfl) (λv2:Int=>.d (.int .i64 v2)) (λv2=>⟨[(cH a0)],[]⟩) hv63 rfl ?_ ?_
 simp only[zF,zG,nS,nA,Tryz.ntmps129,SV]
 refine .sB ?_
 refine .seqK (.sR λe h=>?_)
 simp only[seval,EMB,(nr rfl:((3:Nat):Int)=3)]
 refine mU e (Mir.join (λv1:Unit=>(us 19)) (λv1=>⟨[(cH a0)],[]⟩) (λ_=>rfl) ?_ ?_) h
 refine .block (.loopR 15 (.sB ?_))
 refine .seqK (.condT rfl (.skip (Mir.toK (.seqK (.block (.sB ?_))))))
 refine .seqK (.bind λy1 hy81=>.region λe h=>WB ?_)
 refine .byB (eI hy81) (mB ?_ h)
 refine .cond rfl (λhb83=>?_) (λhb83=>?_)
 refine .sB ?_
 refine .ret QB
 refine .skip (Mir.toB (Mir.toK (.region λe h=>?_)))
 simp only[seval,EMB,(nr rfl:zK.wrap 1=1)]
 refine Mir.useN (e:=e) ?_ h
 refine .sB ?_
 refine .seqK (.condT rfl (.skip (Mir.toK (.seqK (.block (.sB ?_))))))
 refine .seqK (.bind λy2 hy86=>.region λe h=>WB ?_)
 refine .byB (eI hy86) (mB ?_ h)
 refine .cond rfl (λhb88=>?_) (λhb88=>?_)
 refine .sB ?_
 refine .ret QB
 refine .skip (Mir.toB (Mir.toK (.region λe h=>?_)))
 simp only[seval,EMB,(nr rfl:zK.wrap 2=2)]
 refine Mir.useN (e:=e) ?_ h
 refine .sB ?_
 refine .seqK (.condT rfl (.skip (Mir.toK (.seqK (.block (.sB ?_))))))
 refine .seqK (.bind λy3 hy91=>.region λe h=>WB ?_)
 refine .byB (eI hy91) (mB ?_ h)
 refine .cond rfl (λhb93=>?_) (λhb93=>?_)
 refine .sB ?_
 refine .ret QB
 refine .skip (Mir.toB (Mir.toK (.region λe h=>?_)))
 simp only[seval,EMB,(nr rfl:zK.wrap 3=3)]
 refine Mir.useN (e:=e) ?_ h
 refine .sB ?_
 refine .seqK (.condF rfl (.exit QB))
 intro v1
 refine Mir.toK (.sB ?_)
 refine .ret QB
 simp only[seval,EMB]
 refine mU e (.ret QB) h
 simp only[seval,EMB]
 refine mU e (.ret QB) h
def bU(a0:al)(a1:aa):Option Int:=bindO (br (al.mk a0.Work a0.Lengths)) λ(y1:Int)=>if (y1 != 0)=true then some 1 else bindO (ip a1) λ(y2:Bool)=>if (!y2)=true then some 11 else some 0
theorem je{a0:al}{a1:aa}{y:Int}(h:bU a0 a1=some y):Spec gP 41 [.agg (w6 a0.Work [.d (.list (zB ag a0.Lengths))]),.agg (cH a1)] (.d (.int .i64 y)):=by
 refine auB Tryz.func41 (λy:Int=>.d (.int .i64 y)) ?_ h
 unfold bU
 refine .sB ?_
 refine .seqK (.block (.seqK (.bind λy1 hy5=>.region λe h=>WB ?_)))
 refine .byB (ey hy5) (mB ?_ h)
 refine .cond rfl (λhb9=>?_) (λhb9=>?_)
 refine .sB ?_
 refine .ret QB
 refine .seqK (.bind λy2 hy10=>.region λe h=>WB ?_)
 refine .byB (inp_inside_spec hy10) (mB ?_ h)
 refine .cond rfl (λhb12=>?_) (λhb12=>?_)
 refine .sB ?_
 refine .ret QB
 refine .skip (Mir.toB (Mir.toK (.sB ?_)))
 refine .ret QB
def md_New :Option am:=some (am.mk 0 90000 54000 49000 98000 0 0 0)
theorem md_New_spec {y:am}(h:md_New=some y):Spec gP 42 [] (.agg [.d (.int .i64 y.Motion),.d (.int .i64 y.Distance),.d (.int .i64 y.Work),.d (.int .i64 y.Length),.d (.int .i64 y.Return),.d (.int .i64 y.Feed),.d (.int .i64 y.Tool),.d (.int .i64 y.Offset)]):=by
 refine auB Tryz.func42 (λy:am=>.agg [.d (.int .i64 y.Motion),.d (.int .i64 y.Distance),.d (.int .i64 y.Work),.d (.int .i64 y.Length),.d (.int .i64 y.Return),.d (.int .i64 y.Feed),.d (.int .i64 y.Tool),.d (.int .i64 y.Offset)]) ?_ h
 unfold md_New
 refine .sB ?_
 refine .sB ?_
 refine .ret QB
def gG(a0:Int):Option Bool:=some ((decide (a0≥32))&&((decide (a0≤126))&&((a0 != 40)&&(a0 != 41))))
theorem bk_printable_spec{a0:Int}{y:Bool}(h:gG a0=some y):Spec gP 113 [.d (.int .u8 a0)] (.d (.bool y)):=by
 refine auB Tryz.func113 (λy:Bool=>.d (.bool y)) ?_ h
 unfold gG
 refine .sB ?_
 refine .seqK (.joinV ([U,U,.d (.bool ((decide (a0≥32))&&((decide (a0≤126))&&((a0 != 40)&&(a0 != 41)))))]++us 14) ⟨[],[]⟩ rfl ?_ ?_)
 refine SWs.region ?_
 rcases zD (decide (a0≥32))with hb1 | hb1
 rcases zD (decide (a0≤126))with hb2 | hb2
 rcases zD (a0 != 40)with hb3 | hb3
 simp only[seval,EMB,SL,PB,hb1,hb2,hb3]
 simp only[seval,EMB,SL,PB,hb1,hb2,hb3]
 simp only[seval,EMB,SL,PB,hb1,hb2]
 simp only[seval,EMB,SL,PB,hb1]
 refine Mir.toK (.ret QB)
def kf(a0:au):Option Int:=if ((decide ((a0.Words.length:Int)>16))||(decide ((a0.Comment.length:Int)>100)))=true then some 1 else bindX (aB (okIdx a0.Words) ( aS (λ(i1:Nat) (e1:aN) (v1:Unit)=>if ((decide (e1.Letter<65))||((decide (e1.Letter>90))||((decide (e1.Value>1000000000000))||(decide (e1.Value<(-1000000000000))))))=true then some (.ret (.ret 1))else some (.go ())) (λ(v1:Unit)=>some (.go ())) a0.Words 0 ())) λ(v2:Unit)=>bindX (aB (okIdx (bytesI a0.Comment)) ( aS (λ(i2:Nat) (e2:Int) (v3:Unit)=>bindO (gG e2) λ(y1:Bool)=>if (!y1)=true then some (.ret (.ret 1))else some (.go ())) (λ(v3:Unit)=>some (.go ())) (bytesI a0.Comment) 0 ())) λ(v4:Unit)=>some 0
theorem i8{a0:au}{y:Int}(h:kf a0=some y):Spec gP 79 [.agg (cG a0)] (.d (.int .i64 y)):=by
 refine auB Tryz.func79 (λy:Int=>.d (.int .i64 y)) ?_ h
 unfold kf
 refine .sB ?_
 refine .seqK (.seqK (.joinV ([U,.ptr 0 0,U,U,U,U,U,U,U,U,U,U,U,U,U,U,.d (.bool ((decide ((a0.Words.length:Int)>16))||(decide ((a0.Comment.length:Int)>100))))]++us 38) ⟨[(cG a0)],[]⟩ rfl ?_ ?_))
 refine SWs.region ?_
 rcases zD (decide ((a0.Words.length:Int)>16))with hb1 | hb1
 simp only[seval,EMB,SL,PB,hb1]
 simp only[seval,EMB,SL,PB,hb1]
 refine Mir.toK (.cond rfl (λhb3=>?_) (λhb3=>?_))
 refine .sB ?_
 refine .ret QB
 refine .skip (Mir.toK (.seqK (.sB ?_)))
 refine Mir.join (λv2:Unit=>([U,.ptr 0 0]++us 53)) (λv2=>⟨[(cG a0)],[]⟩) (λ_=>rfl) ?_ ?_
 refine .block (.guard λqg96=>Mir.range (λ(i1:Nat) (v1:Unit)=>([U,.ptr 0 0,U,U,U,U,U,U,U,U,U,U,U,U,U,U,U,U,.d (.list (zB bz a0.Words)),.d (.int .i64 (a0.Words.length:Int)),.d (.int .i64 (i1:Int))]++us 34)) (λi1 v1=>⟨[(cG a0)],[]⟩) qg96 (λ_ _=>rfl) (by simp only[seval,FMB,zNI]) (by simp only[seval,FMB,zNI]) ?_ ?_)
 intro i1 e1 v1 qr94
 refine .sR λe h=>?_
 simp only[seval,EMB,qr94]
 refine mU e (.seqK (.condT rfl (.skip (Mir.toK (.seqK (.block (.sR λe h=>?_))))))) h
 simp only[seval,EMB,qr94,zE]
 refine mU e (.seqK (.joinV ([U,.ptr 0 0,U,U,U,U,U,U,U,U,U,U,U,U,U,U,U,U,.d (.list (zB bz a0.Words)),.d (.int .i64 (a0.Words.length:Int)),.d (.int .i64 (i1:Int)),U,U,U,U,U,U,U,U,U,U,U,U,U,U,U,U,U,U,U,U,.d (.bool ((decide (e1.Letter<65))||((decide (e1.Letter>90))||((decide (e1.Value>1000000000000))||(decide (e1.Value<(-1000000000000)))))))]++us 13) ⟨[(cG a0),(cK e1)],[]⟩ rfl ?_ ?_)) h
 refine SWs.region ?_
 rcases zD (decide (e1.Letter<65))with h1 | h1
 simp only[seval,EMB,SL,PB,h1]
 rcases zD (decide (e1.Letter>90))with h2 | h2
 simp only[seval,EMB,SL,PB,h1,h2]
 rcases zD (decide (e1.Value>1000000000000))with h3 | h3
 simp only[seval,EMB,SL,PB,h1,h2,h3]
 simp only[seval,EMB,SL,PB,h1,h2,h3]
 refine Mir.toK (.cond rfl (λh4=>?_) (λh4=>?_))
 refine .sB ?_
 refine .ret QB
 refine .skip (Mir.toB (Mir.toK (.region λe h=>?_)))
 simp only[seval,EMB]
 cases h
 simp only[seval,FMB,qr94]
 intro v1 qd95
 refine .sR λe h=>?_
 simp only[seval,EMB,qd95]
 refine mU e (.seqK (.condF rfl (.exit QB))) h
 intro v2
 refine Mir.toK (.seqK (.sR λe h=>?_))
 simp only[seval,EMB,bytes_enc]
 refine mU e (Mir.join (λv4:Unit=>(us 55)) (λv4=>⟨[(cG a0)],[]⟩) (λ_=>rfl) ?_ ?_) h
 refine .block (.guard λq1=>Mir.range (λ(i2:Nat) (v3:Unit)=>([U,U,U,U,U,U,U,U,U,U,U,U,U,U,U,U,U,U,U,U,U,U,U,U,U,U,U,U,U,U,U,U,U,U,U,U,U,U,U,U,U,U,U,U,U,.d (.list (zB (eInt .u8) (bytesI a0.Comment))),.d (.int .i64 ((bytesI a0.Comment).length:Int)),.d (.int .i64 (i2:Int))]++us 7)) (λi2 v3=>⟨[(cG a0)],[]⟩) q1 (λ_ _=>rfl) (by simp only[seval,FMB,zNI]) (by simp only[seval,FMB,zNI]) ?_ ?_)
 intro i2 e2 v3 q2
 refine .sR λe h=>?_
 simp only[seval,EMB,q2]
 refine mU e (.seqK (.condT rfl (.skip (Mir.toK (.seqK (.block (.sR λe h=>?_))))))) h
 simp only[seval,EMB,q2,zE]
 refine mU e (.seqK (.bind λy1 h5=>.region λe h=>WB ?_)) h
 refine .byB (bk_printable_spec h5) (mB ?_ h)
 refine .cond rfl (λh6=>?_) (λh6=>?_)
 refine .sB ?_
 refine .ret QB
 refine .skip (Mir.toB (Mir.toK (.region λe h=>?_)))
 simp only[seval,EMB]
 cases h
 simp only[seval,FMB,q2]
 intro v3 q3
 refine .sR λe h=>?_
 simp only[seval,EMB,q3]
 refine mU e (.seqK (.condF rfl (.exit QB))) h
 intro v4
 refine Mir.toK (.sB ?_)
 refine .ret QB
def jV(a0:Int):Option Int:=bindO (if (a0==0)=true then some (a0==0)else if (a0==1000)=true then some (a0==1000)else if (a0==2000)=true then some (a0==2000)else if (a0==3000)=true then some (a0==3000)else if (a0==80000)=true then some (a0==80000)else if (a0==81000)=true then some (a0==81000)else if (a0==82000)=true then some (a0==82000)else some (a0==83000)) λ(v1:Bool)=>if v1=true then some 1 else bindO (if (a0==90000)=true then some (a0==90000)else some (a0==91000)) λ(v2:Bool)=>if v2=true then some 2 else bindO (if (a0==54000)=true then some (a0==54000)else if (a0==55000)=true then some (a0==55000)else if (a0==56000)=true then some (a0==56000)else if (a0==57000)=true then some (a0==57000)else if (a0==58000)=true then some (a0==58000)else some (a0==59000)) λ(v3:Bool)=>if v3=true then some 3 else bindO (if (a0==43000)=true then some (a0==43000)else some (a0==49000)) λ(v4:Bool)=>if v4=true then some 4 else bindO (if (a0==98000)=true then some (a0==98000)else some (a0==99000)) λ(v5:Bool)=>if v5=true then some 5 else some 0
theorem dA{a0:Int}{y:Int}(h:jV a0=some y):Spec gP 114 [.d (.int .i64 a0)] (.d (.int .i64 y)):=by
 refine auB Tryz.func114 (λy:Int=>.d (.int .i64 y)) ?_ h
 unfold jV
 refine .sB ?_
 refine .seqK (.sB ?_)
 refine .block (.seqK (.sB ?_))
 refine Mir.joinO (λv1:Bool=>([U,U,U,.d (.int .i64 a0),.d (.bool v1)]++us 24)) (λv1=>⟨[],[]⟩) (λ_=>rfl) ?_ ?_
 refine .cond rfl (λ_=>.skip QB) (λhb43=>?_)
 refine .sB ?_
 refine .cond rfl (λ_=>.skip QB) (λhb44=>?_)
 refine .sB ?_
 refine .cond rfl (λ_=>.skip QB) (λhb45=>?_)
 refine .sB ?_
 refine .cond rfl (λ_=>.skip QB) (λhb46=>?_)
 refine .sB ?_
 refine .cond rfl (λ_=>.skip QB) (λhb47=>?_)
 refine .sB ?_
 refine .cond rfl (λ_=>.skip QB) (λhb48=>?_)
 refine .sB ?_
 refine .cond rfl (λ_=>.skip QB) (λ_=>.rB)
 intro v1
 refine Mir.toK (.cond rfl (λhb71=>?_) (λhb71=>?_))
 refine .sB ?_
 refine .ret QB
 refine .seqK (.sB ?_)
 refine Mir.joinO (λv2:Bool=>([U,U,U,.d (.int .i64 a0),U,U,U,U,U,U,U,U,U,.d (.bool v2)]++us 15)) (λv2=>⟨[],[]⟩) (λ_=>rfl) ?_ ?_
 refine .cond rfl (λ_=>.skip QB) (λ_=>.rB)
 intro v2
 refine Mir.toK (.cond rfl (λhb92=>?_) (λhb92=>?_))
 refine .sB ?_
 refine .ret QB
 refine .seqK (.sB ?_)
 refine Mir.joinO (λv3:Bool=>([U,U,U,.d (.int .i64 a0),U,U,U,U,U,U,U,U,U,U,U,U,.d (.bool v3)]++us 12)) (λv3=>⟨[],[]⟩) (λ_=>rfl) ?_ ?_
 refine .cond rfl (λ_=>.skip QB) (λhb98=>?_)
 refine .sB ?_
 refine .cond rfl (λ_=>.skip QB) (λhb99=>?_)
 refine .sB ?_
 refine .cond rfl (λ_=>.skip QB) (λh1=>?_)
 refine .sB ?_
 refine .cond rfl (λ_=>.skip QB) (λh2=>?_)
 refine .sB ?_
 refine .cond rfl (λ_=>.skip QB) (λ_=>.rB)
 intro v3
 refine Mir.toK (.cond rfl (λh4=>?_) (λh4=>?_))
 refine .sB ?_
 refine .ret QB
 refine .seqK (.sB ?_)
 refine Mir.joinO (λv4:Bool=>([U,U,U,.d (.int .i64 a0),U,U,U,U,U,U,U,U,U,U,U,U,U,U,U,U,U,U,U,.d (.bool v4)]++us 5)) (λv4=>⟨[],[]⟩) (λ_=>rfl) ?_ ?_
 refine .cond rfl (λ_=>.skip QB) (λ_=>.rB)
 intro v4
 refine Mir.toK (.cond rfl (λh6=>?_) (λh6=>?_))
 refine .sB ?_
 refine .ret QB
 refine .seqK (.sB ?_)
 refine Mir.joinO (λv5:Bool=>[U,U,U,U,U,U,U,U,U,U,U,U,U,U,U,U,U,U,U,U,U,U,U,U,U,U,.d (.bool v5),U,U]) (λv5=>⟨[],[]⟩) (λ_=>rfl) ?_ ?_
 refine .cond rfl (λ_=>.skip QB) (λ_=>.rB)
 intro v5
 refine Mir.toK (.cond rfl (λh8=>?_) (λh8=>?_))
 refine .sB ?_
 refine .ret QB
 refine .skip (Mir.toB (Mir.toK (.sB ?_)))
 refine .ret QB
def iM(a0:au):Option Int:=bindX (aB (okIdx a0.Words) ( aS (λ(i1:Nat) (e1:aN) (v1:(List (Int×Bool))×(List (Int×Bool)))=>bindX (bindX (if (e1.Letter==71)=true then bindO (jV e1.Value) λ(y1:Int)=>bindO (if (y1==0)=true then some true else some ((mget v1.2 y1).getD false)) λ(v2:Bool)=>if v2=true then some (.ret (.ret (.ret (.ret 1))))else some (.ret (.go (v1.1,mput v1.2 y1 true)))else if (e1.Letter==70)=true then if (decide (e1.Value<0))=true then some (.ret (.ret (.ret (.ret 1))))else some (.go ())else bindO (if (e1.Letter==84)=true then some (e1.Letter==84)else some (e1.Letter==72)) λ(v3:Bool)=>if v3=true then if ((decide (e1.Value<0))||((zJ e1.Value 1000) != 0))=true then some (.ret (.ret (.ret (.ret 1))))else some (.go ())else some (.go ())) λ(v4:Unit)=>if ((mget v1.1 e1.Letter).getD false)=true then some (.ret (.ret (.ret 1)))else some (.go (mput v1.1 e1.Letter true,v1.2))) λ(v5:(List (Int×Bool))×(List (Int×Bool)))=>some (.go (v5.1,v5.2))) (λ(v1:(List (Int×Bool))×(List (Int×Bool)))=>some (.go (v1.1,v1.2))) a0.Words 0 ([],[]))) λ(v6:(List (Int×Bool))×(List (Int×Bool)))=>some 0
theorem iL{a0:au}{y:Int}(h:iM a0=some y):Spec gP 80 [.agg (cG a0)] (.d (.int .i64 y)):=by
 refine auB Tryz.func80 (λy:Int=>.d (.int .i64 y)) ?_ h
 unfold iM
 refine .sB ?_
 refine .seqK (.regionW λe h=>regW.alt 0 rfl ?_)
 simp only[seval,EMB]
 refine alt_makeMap .u8 (regW.of ?_)
 simp only[seval,EMB,xMN]
 refine mU e (.seqK (.regionW λe h=>regW.alt 0 rfl ?_)) h
 simp only[seval,EMB]
 refine alt_makeMap .i64 (regW.of ?_)
 simp only[seval,EMB,xMN]
 refine mU e (.seqK (.sB ?_)) h
 refine Mir.join (λv6:(List (Int×Bool))×(List (Int×Bool))=>(us 58)) (λv6=>⟨[(cG a0),[.mapc .u8 (zB (ekv evB) v6.1)],[.mapc .i64 (zB (ekv evB) v6.2)]],[]⟩) (λ_=>rfl) ?_ ?_
 refine .block (.guard λq1=>Mir.range (λ(i1:Nat) (v1:(List (Int×Bool))×(List (Int×Bool)))=>([U,U,U,.mp 1,.mp 2,U,U,U,U,U,U,.d (.list (zB bz a0.Words)),.d (.int .i64 (a0.Words.length:Int)),.d (.int .i64 (i1:Int))]++us 44)) (λi1 v1=>⟨[(cG a0),[.mapc .u8 (zB (ekv evB) v1.1)],[.mapc .i64 (zB (ekv evB) v1.2)]],[]⟩) q1 (λ_ _=>rfl) (by simp only[seval,FMB,zNI]) (by simp only[seval,FMB,zNI]) ?_ ?_)
 intro i1 e1 v1 q2
 refine .sR λe h=>?_
 simp only[seval,EMB,q2]
 refine mU e (.seqK (.condT rfl (.skip (Mir.toK (.seqK (Mir.join (λv5:(List (Int×Bool))×(List (Int×Bool))=>([U,U,U,.mp 1,.mp 2,U,U,U,U,U,U,.d (.list (zB bz a0.Words)),.d (.int .i64 (a0.Words.length:Int)),.d (.int .i64 (i1:Int))]++us 44)) (λv5=>⟨[(cG a0),[.mapc .u8 (zB (ekv evB) v5.1)],[.mapc .i64 (zB (ekv evB) v5.2)]],[]⟩) (λ_=>rfl) ?_ ?_)))))) h
 refine .block (.sR λe h=>?_)
 simp only[seval,EMB,q2,zE]
 refine mU e (.seqK (.sB ?_)) h
 refine Mir.join (λv4:Unit=>([U,U,U,.mp 1,.mp 2,U,.ptr 3 0,U,U,U,U,.d (.list (zB bz a0.Words)),.d (.int .i64 (a0.Words.length:Int)),.d (.int .i64 (i1:Int))]++us 44)) (λv4=>⟨[(cG a0),[.mapc .u8 (zB (ekv evB) v1.1)],[.mapc .i64 (zB (ekv evB) v1.2)],(cK e1)],[]⟩) (λ_=>rfl) ?_ ?_
 refine .block (.sB ?_)
 refine .cond rfl (λh1=>?_) (λh1=>?_)
 refine .seqK (.bind λy1 h2=>.region λe h=>WB ?_)
 refine .byB (dA h2) (mB ?_ h)
 refine .seqK (.seqK (Mir.joinO (λv2:Bool=>([U,U,U,.mp 1,.mp 2,U,U,.d (.int .i64 y1),U,U,U,.d (.list (zB bz a0.Words)),.d (.int .i64 (a0.Words.length:Int)),.d (.int .i64 (i1:Int)),U,U,U,U,U,U,U,U,U,U,U,U,U,U,U,U,.d (.bool v2)]++us 27)) (λv2=>⟨[(cG a0),[.mapc .u8 (zB (ekv evB) v1.1)],[.mapc .i64 (zB (ekv evB) v1.2)],(cK e1)],[]⟩) (λ_=>rfl) ?_ ?_))
 refine .ite (λh3=>?_) (λh3=>?_)
 refine .region λe h=>?_
 simp only[seval,EMB,h3]
 cases h
 simp only[seval,FMB,h3]
 refine .regionW λe h=>regW.alt 5 rfl ?_
 simp only[seval,EMB,h3]
 refine alt_lookup rfl rfl rfl (by simp only[mapT,und_179,und_3]) zero_4 rfl (regW.of ?_)
 simp only[seval,EMB,mg_B,h3]
 cases h
 simp only[seval,FMB,h3]
 intro v2
 refine Mir.toK (.cond rfl (λh4=>?_) (λh4=>?_))
 refine .sB ?_
 refine .ret QB
 refine .skip (Mir.toK (.seqK (.regionW λe h=>regW.alt 2 rfl ?_)))
 simp only[seval,EMB]
 refine alt_mapUpdate (et:=4) rfl rfl rfl rfl (by simp only[mapT,und_179,und_3]) (regW.of ?_)
 simp only[seval,EMB,mp_B]
 refine mU e (.exit QB) h
 refine .sB ?_
 refine .cond rfl (λh5=>?_) (λh5=>?_)
 refine .sB ?_
 refine .cond rfl (λh6=>?_) (λh6=>?_)
 refine .sB ?_
 refine .ret QB
 refine .skip QB
 refine .seqK (.sB ?_)
 refine Mir.joinO (λv3:Bool=>([U,U,U,.mp 1,.mp 2,U,.ptr 3 0,U,U,U,U,.d (.list (zB bz a0.Words)),.d (.int .i64 (a0.Words.length:Int)),.d (.int .i64 (i1:Int)),U,U,U,U,U,U,U,U,U,U,U,U,U,U,U,U,U,U,U,U,U,U,U,U,.d (.bool v3)]++us 19)) (λv3=>⟨[(cG a0),[.mapc .u8 (zB (ekv evB) v1.1)],[.mapc .i64 (zB (ekv evB) v1.2)],(cK e1)],[]⟩) (λ_=>rfl) ?_ ?_
 refine .cond rfl (λ_=>.skip QB) (λ_=>.rB)
 intro v3
 refine Mir.toK (.cond rfl (λh8=>?_) (λh8=>?_))
 refine .seqK (.joinV ([U,U,U,.mp 1,.mp 2,U,.ptr 3 0,U,U,U,U,.d (.list (zB bz a0.Words)),.d (.int .i64 (a0.Words.length:Int)),.d (.int .i64 (i1:Int)),U,U,U,U,U,U,U,U,U,U,U,U,U,U,U,U,U,U,U,U,U,U,U,U,U,U,U,U,U,U,U,U,U,U,U,.d (.bool ((decide (e1.Value<0))||((zJ e1.Value 1000) != 0)))]++us 8) ⟨[(cG a0),[.mapc .u8 (zB (ekv evB) v1.1)],[.mapc .i64 (zB (ekv evB) v1.2)],(cK e1)],[]⟩ rfl ?_ ?_)
 refine SWs.region ?_
 rcases zD (decide (e1.Value<0))with h9 | h9
 simp only[seval,EMB,SL,PB,h9]
 simp only[seval,EMB,SL,PB,h9]
 refine Mir.toK (.cond rfl (λh10=>?_) (λh10=>?_))
 refine .sB ?_
 refine .ret QB
 refine .skip QB
 refine .skip QB
 intro v4
 refine Mir.toK (.seqK (.seqK (.regionW λe h=>regW.alt 3 rfl ?_)))
 simp only[seval,EMB]
 refine alt_lookup rfl rfl rfl (by simp only[mapT,und_178,und_5]) zero_4 rfl (regW.of ?_)
 simp only[seval,EMB,mg_B]
 refine mU e (.cond rfl (λh11=>?_) (λh11=>?_)) h
 refine .sB ?_
 refine .ret QB
 refine .skip (Mir.toK (.regionW λe h=>regW.alt 3 rfl ?_))
 simp only[seval,EMB]
 refine alt_mapUpdate (et:=4) rfl rfl rfl rfl (by simp only[mapT,und_178,und_5]) (regW.of ?_)
 simp only[seval,EMB,mp_B]
 cases h
 simp only[seval,FMB]
 intro v5
 refine Mir.toK (.region λe h=>?_)
 simp only[seval,EMB]
 cases h
 simp only[seval,FMB,q2]
 intro v1 q3
 refine .sR λe h=>?_
 simp only[seval,EMB,q3]
 refine mU e (.seqK (.condF rfl (.exit QB))) h
 intro v6
 refine Mir.toK (.sB ?_)
 refine .ret QB
def bS(a0:(List Int))(a1:Int):Option Int:=bindX (aB (okIdx a0) ( aS (λ(i1:Nat) (e1:Int) (v1:Unit)=>if (a1==e1)=true then some (.ret (.ret (i1:Int)))else some (.go ())) (λ(v1:Unit)=>some (.go ())) a0 0 ())) λ(v2:Unit)=>some (-1)
theorem fg{a0:(List Int)}{a1:Int}{y:Int}(h:bS a0 a1=some y):Spec gP 88 [.d (.list (zB (eInt .i64) a0)),.d (.int .i64 a1)] (.d (.int .i64 y)):=by
 refine auB Tryz.func88 (λy:Int=>.d (.int .i64 y)) ?_ h
 unfold bS
 refine .sB ?_
 refine .seqK (.sB ?_)
 refine Mir.join (λv2:Unit=>(us 19)) (λv2=>⟨[],[]⟩) (λ_=>rfl) ?_ ?_
 refine .block (.guard λqg51=>Mir.range (λ(i1:Nat) (v1:Unit)=>([.d (.list (zB (eInt .i64) a0)),.d (.int .i64 a1),U,U,U,U,U,.d (.int .i64 (a0.length:Int)),.d (.int .i64 (i1:Int))]++us 10)) (λi1 v1=>⟨[],[]⟩) qg51 (λ_ _=>rfl) (by simp only[seval,FMB,zNI]) (by simp only[seval,FMB,zNI]) ?_ ?_)
 intro i1 e1 v1 qr49
 refine .sR λe h=>?_
 simp only[seval,EMB,qr49]
 refine mU e (.seqK (.condT rfl (.skip (Mir.toK (.seqK (.block (.sB ?_))))))) h
 refine .sR λe h=>?_
 simp only[seval,EMB,qr49,zE]
 refine mU e (.cond rfl (λhb54=>?_) (λhb54=>?_)) h
 refine .sB ?_
 refine .ret QB
 refine .skip (Mir.toB (Mir.toK (.region λe h=>?_)))
 simp only[seval,EMB]
 cases h
 simp only[seval,FMB,qr49]
 intro v1 qd50
 refine .sR λe h=>?_
 simp only[seval,EMB,qd50]
 refine mU e (.seqK (.condF rfl (.exit QB))) h
 intro v2
 refine Mir.toK (.sB ?_)
 refine .ret QB
def aM(a0:(List Int))(a1:Int):Option Bool:=bindO (bS a0 a1) λ(y1:Int)=>some (decide (y1≥0))
theorem cj{a0:(List Int)}{a1:Int}{y:Bool}(h:aM a0 a1=some y):Spec gP 45 [.d (.list (zB (eInt .i64) a0)),.d (.int .i64 a1)] (.d (.bool y)):=by
 refine auB Tryz.func45 (λy:Bool=>.d (.bool y)) ?_ h
 unfold aM
 refine .sB ?_
 refine .seqK (.bind λy1 hy1=>.region λe h=>WB ?_)
 refine .byB (fg hy1) (mB ?_ h)
 refine .ret QB
def io(a0:au):Option Bool:=bindX (aB (okIdx a0.Words) ( aS (λ(i1:Nat) (e1:aN) (v1:Unit)=>bindX (bindO (if (e1.Letter==71)=true then some (e1.Letter==71)else if (e1.Letter==84)=true then some (e1.Letter==84)else if (e1.Letter==70)=true then some (e1.Letter==70)else if (e1.Letter==72)=true then some (e1.Letter==72)else if (e1.Letter==78)=true then some (e1.Letter==78)else if (e1.Letter==88)=true then some (e1.Letter==88)else if (e1.Letter==89)=true then some (e1.Letter==89)else if (e1.Letter==90)=true then some (e1.Letter==90)else if (e1.Letter==73)=true then some (e1.Letter==73)else if (e1.Letter==74)=true then some (e1.Letter==74)else if (e1.Letter==81)=true then some (e1.Letter==81)else some (e1.Letter==82)) λ(v2:Bool)=>if v2=true then some (.go ())else if (e1.Letter==77)=true then bindO (aM [0,1000,3000,4000,5000,6000,8000,9000,30000] e1.Value) λ(y1:Bool)=>if (!y1)=true then some (.ret (.ret (.ret false)))else some (.go ())else if (e1.Letter==83)=true then if (decide (e1.Value<0))=true then some (.ret (.ret (.ret false)))else some (.go ())else some (.ret (.ret (.ret false)))) λ(v3:Unit)=>some (.go ())) (λ(v1:Unit)=>some (.go ())) a0.Words 0 ())) λ(v4:Unit)=>some true
theorem inp_known_spec{a0:au}{y:Bool}(h:io a0=some y):Spec gP 81 [.agg (cG a0)] (.d (.bool y)):=by
 refine auB Tryz.func81 (λy:Bool=>.d (.bool y)) ?_ h
 unfold io
 refine .sB ?_
 refine .seqK (.sB ?_)
 refine Mir.join (λv4:Unit=>(us 40)) (λv4=>⟨[(cG a0)],[]⟩) (λ_=>rfl) ?_ ?_
 refine .block (.guard λq1=>Mir.range (λ(i1:Nat) (v1:Unit)=>([U,U,U,U,U,U,.d (.list (zB bz a0.Words)),.d (.int .i64 (a0.Words.length:Int)),.d (.int .i64 (i1:Int))]++us 31)) (λi1 v1=>⟨[(cG a0)],[]⟩) q1 (λ_ _=>rfl) (by simp only[seval,FMB,zNI]) (by simp only[seval,FMB,zNI]) ?_ ?_)
 intro i1 e1 v1 q2
 refine .sR λe h=>?_
 simp only[seval,EMB,q2]
 refine mU e (.seqK (.condT rfl (.skip (Mir.toK (.seqK (Mir.join (λv3:Unit=>([U,U,U,U,U,U,.d (.list (zB bz a0.Words)),.d (.int .i64 (a0.Words.length:Int)),.d (.int .i64 (i1:Int))]++us 31)) (λv3=>⟨[(cG a0)],[]⟩) (λ_=>rfl) ?_ ?_)))))) h
 refine .block (.sR λe h=>?_)
 simp only[seval,EMB,q2,zE]
 refine mU e (.sB ?_) h
 refine .block (.seqK (.sB ?_))
 refine Mir.joinO (λv2:Bool=>([U,U,U,U,.ptr 1 0,U,.d (.list (zB bz a0.Words)),.d (.int .i64 (a0.Words.length:Int)),.d (.int .i64 (i1:Int)),U,U,U,U,.d (.int .u8 e1.Letter),.d (.bool v2)]++us 25)) (λv2=>⟨[(cG a0),(cK e1)],[]⟩) (λ_=>rfl) ?_ ?_
 refine .cond rfl (λ_=>.skip QB) (λh1=>?_)
 refine .sB ?_
 refine .cond rfl (λ_=>.skip QB) (λh2=>?_)
 refine .sB ?_
 refine .cond rfl (λ_=>.skip QB) (λh3=>?_)
 refine .sB ?_
 refine .cond rfl (λ_=>.skip QB) (λh4=>?_)
 refine .sB ?_
 refine .cond rfl (λ_=>.skip QB) (λh5=>?_)
 refine .sB ?_
 refine .cond rfl (λ_=>.skip QB) (λh6=>?_)
 refine .sB ?_
 refine .cond rfl (λ_=>.skip QB) (λh7=>?_)
 refine .sB ?_
 refine .cond rfl (λ_=>.skip QB) (λh8=>?_)
 refine .sB ?_
 refine .cond rfl (λ_=>.skip QB) (λh9=>?_)
 refine .sB ?_
 refine .cond rfl (λ_=>.skip QB) (λh10=>?_)
 refine .sB ?_
 refine .cond rfl (λ_=>.skip QB) (λ_=>.rB)
 intro v2
 refine Mir.toK (.cond rfl (λ_=>.skip QB) (λh12=>?_))
 refine .sB ?_
 refine .cond rfl (λh13=>?_) (λh13=>?_)
 refine .seqK (.bind λy1 h14=>.region λe h=>?_)
 simp only[seval,EMB,glT]
 refine .byB (cj h14) (mB ?_ h)
 refine .cond rfl (λh15=>?_) (λh15=>?_)
 refine .sB ?_
 refine .ret QB
 refine .skip QB
 refine .sB ?_
 refine .cond rfl (λh16=>?_) (λh16=>?_)
 refine .sB ?_
 refine .cond rfl (λh17=>?_) (λh17=>?_)
 refine .sB ?_
 refine .ret QB
 refine .skip QB
 refine .sB ?_
 refine .ret QB
 intro v3
 refine Mir.toK (.region λe h=>?_)
 simp only[seval,EMB]
 cases h
 simp only[seval,FMB,q2]
 intro v1 q3
 refine .sR λe h=>?_
 simp only[seval,EMB,q3]
 refine mU e (.seqK (.condF rfl (.exit QB))) h
 intro v4
 refine Mir.toK (.sB ?_)
 refine .ret QB
def md_put(a0:am)(a1:aN):Option am:=bindO (if (a1.Letter==71)=true then bindO (bindO (jV a1.Value) λ(y1:Int)=>aB (decide (0≤(zK.wrap (y1-1))∧(zK.wrap (y1-1))<5)) ( if ((zK.wrap (y1-1))==0)=true then some (am.mk a1.Value a0.Distance a0.Work a0.Length a0.Return a0.Feed a0.Tool a0.Offset)else if ((zK.wrap (y1-1))==1)=true then some (am.mk a0.Motion a1.Value a0.Work a0.Length a0.Return a0.Feed a0.Tool a0.Offset)else if ((zK.wrap (y1-1))==2)=true then some (am.mk a0.Motion a0.Distance a1.Value a0.Length a0.Return a0.Feed a0.Tool a0.Offset)else if ((zK.wrap (y1-1))==3)=true then some (am.mk a0.Motion a0.Distance a0.Work a1.Value a0.Return a0.Feed a0.Tool a0.Offset)else some (am.mk a0.Motion a0.Distance a0.Work a0.Length a1.Value a0.Feed a0.Tool a0.Offset))) λ(v1:am)=>some v1 else if (a1.Letter==70)=true then some (am.mk a0.Motion a0.Distance a0.Work a0.Length a0.Return a1.Value a0.Tool a0.Offset)else if (a1.Letter==84)=true then some (am.mk a0.Motion a0.Distance a0.Work a0.Length a0.Return a0.Feed a1.Value a0.Offset)else if (a1.Letter==72)=true then some (am.mk a0.Motion a0.Distance a0.Work a0.Length a0.Return a0.Feed a0.Tool a1.Value)else some a0) λ(v2:am)=>some v2
theorem md_put_spec{a0:am}{a1:aN}{y:am}(h:md_put a0 a1=some y):Spec gP 115 [.agg (cB a0),.agg (cK a1)] (.agg [.d (.int .i64 y.Motion),.d (.int .i64 y.Distance),.d (.int .i64 y.Work),.d (.int .i64 y.Length),.d (.int .i64 y.Return),.d (.int .i64 y.Feed),.d (.int .i64 y.Tool),.d (.int .i64 y.Offset)]):=by
 refine auB Tryz.func115 (λy:am=>.agg [.d (.int .i64 y.Motion),.d (.int .i64 y.Distance),.d (.int .i64 y.Work),.d (.int .i64 y.Length),.d (.int .i64 y.Return),.d (.int .i64 y.Feed),.d (.int .i64 y.Tool),.d (.int .i64 y.Offset)]) ?_ h
 unfold md_put
 refine .sB ?_
 refine .seqK (.sB ?_)
 refine Mir.joinO (λv2:am=>([U,U,.ptr 0 0,U,.ptr 2 0]++us 37)) (λv2=>⟨[(cB v2),(cK a1),[.d (.int .i64 0),.d (.int .i64 0),.d (.int .i64 0),.d (.int .i64 0),.d (.int .i64 0),.d (.int .i64 0),.d (.int .i64 0),.d (.int .i64 0)]],[]⟩) (λ_=>rfl) ?_ ?_
 refine .block (.sB ?_)
 refine .cond rfl (λhb12=>?_) (λhb12=>?_)
 refine .sR λe h=>?_
 simp only[seval,EMB,(oL 5)]
 refine mU e (Mir.joinO (λv1:am=>([U,U,.ptr 0 0,U,.ptr 2 0]++us 37)) (λv1=>⟨[(cB v1),(cK a1),[.d (.int .i64 0),.d (.int .i64 0),.d (.int .i64 0),.d (.int .i64 0),.d (.int .i64 0),.d (.int .i64 0),.d (.int .i64 0),.d (.int .i64 0)],[.ptr 0 0,.ptr 0 1,.ptr 0 2,.ptr 0 3,.ptr 0 4]],[]⟩) (λ_=>rfl) ?_ ?_) h
 refine .bind λy1 hy13=>.guard λqi14=>.ite (λhb15=>?_) (λhb15=>?_)
 refine .regionD [] (by kernel_rfl) λe h=>?_
 simp only[seval,EMB,SB,hb15]
 refine Spec.by (dA hy13) (by simp only[seval,FMB,hb15]) ?_
 simp only[seval,EMB,SB,(eq_of_beq hb15),hb15]
 cases h
 simp only[seval,FMB,hb15]
 refine .ite (λhb16=>?_) (λhb16=>?_)
 refine .regionD [] (by kernel_rfl) λe h=>?_
 simp only[seval,EMB,SB,hb15,hb16]
 refine Spec.by (dA hy13) (by simp only[seval,FMB,hb15,hb16]) ?_
 simp only[seval,EMB,SB,(eq_of_beq hb16),hb15,hb16]
 cases h
 simp only[seval,FMB,hb15,hb16]
 refine .ite (λhb17=>?_) (λhb17=>?_)
 refine .regionD [] (by kernel_rfl) λe h=>?_
 simp only[seval,EMB,SB,hb15,hb16,hb17]
 refine Spec.by (dA hy13) (by simp only[seval,FMB,hb15,hb16,hb17]) ?_
 simp only[seval,EMB,SB,(eq_of_beq hb17),hb15,hb16,hb17]
 cases h
 simp only[seval,FMB,hb15,hb16,hb17]
 refine .ite (λhb18=>?_) (λhb18=>?_)
 refine .regionD [] (by kernel_rfl) λe h=>?_
 simp only[seval,EMB,SB,hb15,hb16,hb17,hb18]
 refine Spec.by (dA hy13) (by simp only[seval,FMB,hb15,hb16,hb17,hb18]) ?_
 simp only[seval,EMB,SB,(eq_of_beq hb18),hb15,hb16,hb17,hb18]
 cases h
 simp only[seval,FMB,hb15,hb16,hb17,hb18]
 have hz19:zK.wrap (y1-1)=4:=by have h0:=of_decide_eq_true qi14;have h1:=aE hb15;have h2:=aE hb16;have h3:=aE hb17;have h4:=aE hb18;omega
 refine .regionD [] (by kernel_rfl) λe h=>?_
 simp only[seval,EMB,SB,hb15,hb16,hb17,hb18]
 refine Spec.by (dA hy13) (by simp only[seval,FMB,hb15,hb16,hb17,hb18]) ?_
 simp only[seval,EMB,SB,hz19,hb15,hb16,hb17,hb18]
 cases h
 simp only[seval,FMB,hb15,hb16,hb17,hb18]
 intro v1
 intro e h
 cases h
 simp only[seval,FMB]
 refine .sB ?_
 refine .cond rfl (λ_=>.rB) (λhb20=>?_)
 refine .sB ?_
 refine .cond rfl (λ_=>.rB) (λhb21=>?_)
 refine .sB ?_
 refine .cond rfl (λ_=>.rB) (λ_=>.skip QB)
 intro v2
 refine Mir.toK (.sB ?_)
 refine .ret QB
def md_Apply(a0:am)(a1:au):Option (am×Int):=bindO (iM a1) λ(y1:Int)=>if (y1 != 0)=true then some (am.mk 0 0 0 0 0 0 0 0,y1)else bindO (aB (okIdx a1.Words) ( aS (λ(i1:Nat) (e1:aN) (v1:am)=>bindO (md_put v1 e1) λ(y2:am)=>some (.go y2)) (λ(v1:am)=>some v1) a1.Words 0 a0)) λ(v2:am)=>some (v2,0)
theorem md_Apply_spec{a0:am}{a1:au}{y:am×Int}(h:md_Apply a0 a1=some y):Spec gP 82 [.agg (cB a0),.agg (cG a1)] (.tuple [.agg [.d (.int .i64 y.1.Motion),.d (.int .i64 y.1.Distance),.d (.int .i64 y.1.Work),.d (.int .i64 y.1.Length),.d (.int .i64 y.1.Return),.d (.int .i64 y.1.Feed),.d (.int .i64 y.1.Tool),.d (.int .i64 y.1.Offset)],.d (.int .i64 y.2)]):=by
 refine auB Tryz.func82 (λy:am×Int=>.tuple [.agg [.d (.int .i64 y.1.Motion),.d (.int .i64 y.1.Distance),.d (.int .i64 y.1.Work),.d (.int .i64 y.1.Length),.d (.int .i64 y.1.Return),.d (.int .i64 y.1.Feed),.d (.int .i64 y.1.Tool),.d (.int .i64 y.1.Offset)],.d (.int .i64 y.2)]) ?_ h
 unfold md_Apply
 refine .sB ?_
 refine .seqK (.seqK (.bind λy1 hy1=>.region λe h=>WB ?_))
 refine .byB (iL hy1) (mB ?_ h)
 refine .sB ?_
 refine .cond rfl (λhb3=>?_) (λhb3=>?_)
 refine .sB ?_
 refine .ret QB
 refine .skip (Mir.toK (.seqK (.sB ?_)))
 refine Mir.joinO (λv2:am=>([U,U,.ptr 0 0,U,.ptr 2 0]++us 22)) (λv2=>⟨[(cB v2),(cG a1),[.d (.int .i64 0),.d (.int .i64 0),.d (.int .i64 0),.d (.int .i64 0),.d (.int .i64 0),.d (.int .i64 0),.d (.int .i64 0),.d (.int .i64 0)]],[]⟩) (λ_=>rfl) ?_ ?_
 refine .block (.guard λqg47=>Mir.range (λ(i1:Nat) (v1:am)=>([U,U,.ptr 0 0,U,.ptr 2 0,U,U,U,U,U,U,U,U,U,U,U,.d (.list (zB bz a1.Words)),.d (.int .i64 (a1.Words.length:Int)),.d (.int .i64 (i1:Int))]++us 8)) (λi1 v1=>⟨[(cB v1),(cG a1),[.d (.int .i64 0),.d (.int .i64 0),.d (.int .i64 0),.d (.int .i64 0),.d (.int .i64 0),.d (.int .i64 0),.d (.int .i64 0),.d (.int .i64 0)]],[]⟩) qg47 (λ_ _=>rfl) (by simp only[seval,FMB,zNI]) (by simp only[seval,FMB,zNI]) ?_ ?_)
 intro i1 e1 v1 qr45
 refine .sR λe h=>?_
 simp only[seval,EMB,qr45]
 refine mU e (.seqK (.condT rfl (.skip (Mir.toK (.seqK (.block (.sR λe h=>?_))))))) h
 simp only[seval,EMB,qr45,zE]
 refine mU e (.bind λy2 hy49=>.region λe h=>WB ?_) h
 refine .byB (md_put_spec hy49) (mB ?_ h)
 refine .region λe h=>?_
 simp only[seval,EMB]
 cases h
 simp only[seval,FMB,qr45]
 intro v1 qd46
 refine .sR λe h=>?_
 simp only[seval,EMB,qd46]
 refine mU e (.seqK (.condF rfl (.exit QB))) h
 intro v2
 refine Mir.toK (.sB ?_)
 refine .ret QB
def dE(a0:Int):Option Bool:=some ((a0==81000)||((a0==82000)||(a0==83000)))
theorem dp{a0:Int}{y:Bool}(h:dE a0=some y):Spec gP 83 [.d (.int .i64 a0)] (.d (.bool y)):=by
 refine auB Tryz.func83 (λy:Bool=>.d (.bool y)) ?_ h
 unfold dE
 refine .sB ?_
 refine .seqK (.joinV ([U,U,.d (.bool ((a0==81000)||((a0==82000)||(a0==83000))))]++us 10) ⟨[],[]⟩ rfl ?_ ?_)
 refine SWs.region ?_
 rcases zD (a0==81000)with hb1 | hb1
 simp only[seval,EMB,SL,PB,hb1]
 rcases zD (a0==82000)with hb2 | hb2
 simp only[seval,EMB,SL,PB,hb1,hb2]
 simp only[seval,EMB,SL,PB,hb1,hb2]
 refine Mir.toK (.ret QB)
def gS(a0:au)(a1:Int):Option (Int×Bool):=bindX (aB (okIdx a0.Words) ( aS (λ(i1:Nat) (e1:aN) (v1:Unit)=>if (e1.Letter==a1)=true then some (.ret (.ret (e1.Value,true)))else some (.go ())) (λ(v1:Unit)=>some (.go ())) a0.Words 0 ())) λ(v2:Unit)=>some (0,false)
theorem ff{a0:au}{a1:Int}{y:Int×Bool}(h:gS a0 a1=some y):Spec gP 116 [.agg (cG a0),.d (.int .u8 a1)] (.tuple [.d (.int .i64 y.1),.d (.bool y.2)]):=by
 refine auB Tryz.func116 (λy:Int×Bool=>.tuple [.d (.int .i64 y.1),.d (.bool y.2)]) ?_ h
 unfold gS
 refine .sB ?_
 refine .seqK (.sB ?_)
 refine Mir.join (λv2:Unit=>(us 22)) (λv2=>⟨[(cG a0)],[]⟩) (λ_=>rfl) ?_ ?_
 refine .block (.guard λqg51=>Mir.range (λ(i1:Nat) (v1:Unit)=>([U,.d (.int .u8 a1),U,U,U,U,U,U,U,.d (.list (zB bz a0.Words)),.d (.int .i64 (a0.Words.length:Int)),.d (.int .i64 (i1:Int))]++us 10)) (λi1 v1=>⟨[(cG a0)],[]⟩) qg51 (λ_ _=>rfl) (by simp only[seval,FMB,zNI]) (by simp only[seval,FMB,zNI]) ?_ ?_)
 intro i1 e1 v1 qr49
 refine .sR λe h=>?_
 simp only[seval,EMB,qr49]
 refine mU e (.seqK (.condT rfl (.skip (Mir.toK (.seqK (.block (.sR λe h=>?_))))))) h
 simp only[seval,EMB,qr49,zE]
 refine mU e (.sB ?_) h
 refine .cond rfl (λhb54=>?_) (λhb54=>?_)
 refine .sB ?_
 refine .ret QB
 refine .skip (Mir.toB (Mir.toK (.region λe h=>?_)))
 simp only[seval,EMB]
 cases h
 simp only[seval,FMB,qr49]
 intro v1 qd50
 refine .sR λe h=>?_
 simp only[seval,EMB,qd50]
 refine mU e (.seqK (.condF rfl (.exit QB))) h
 intro v2
 refine Mir.toK (.sB ?_)
 refine .ret QB
def fk(a0:au)(a1:(List UInt8)):Option Bool:=bindX (aB (okIdx a1) ( aS (λ(i1:Nat) (c1:UInt8) (v1:Unit)=>bindO (gS a0 (c1.toNat:Int)) λ(y1:Int×Bool)=>if y1.2=true then some (.ret (.ret true))else some (.go ())) (λ(v1:Unit)=>some (.go ())) a1 0 ())) λ(v2:Unit)=>some false
theorem bx{a0:au}{a1:(List UInt8)}{y:Bool}(h:fk a0 a1=some y):Spec gP 84 [.agg (cG a0),.d (.str a1)] (.d (.bool y)):=by
 refine auB Tryz.func84 (λy:Bool=>.d (.bool y)) ?_ h
 unfold fk
 refine .sB ?_
 refine .seqK (.sB ?_)
 refine Mir.join (λv2:Unit=>(us 23)) (λv2=>⟨[(cG a0)],[]⟩) (λ_=>rfl) ?_ ?_
 refine .block (.guard λqg65=>Mir.range (λ(i1:Nat) (v1:Unit)=>([U,.d (.str a1),.ptr 0 0,U,U,U,U,U,U,.d (.int .i64 (a1.length:Int)),.d (.int .i64 (i1:Int))]++us 12)) (λi1 v1=>⟨[(cG a0)],[]⟩) qg65 (λ_ _=>rfl) (by simp only[seval,FMB,zNI]) (by simp only[seval,FMB,zNI]) ?_ ?_)
 intro i1 c1 v1 qr63
 refine .sR λe h=>?_
 simp only[seval,EMB,qr63]
 refine mU e (.seqK (.condT rfl (.skip (Mir.toK (.seqK (.block (.sB ?_))))))) h
 refine .seqK (.bind λy1 hy68=>.regionD [] (by kernel_rfl) λe h=>?_)
 simp only[seval,EMB,SB,zE,qr63]
 refine Spec.by (ff hy68) (by simp only[seval,FMB]) ?_
 simp only[seval,EMB,SB]
 refine mU e (.sB ?_) h
 refine .cond rfl (λhb70=>?_) (λhb70=>?_)
 refine .sB ?_
 refine .ret QB
 refine .skip (Mir.toB (Mir.toK (.region λe h=>?_)))
 simp only[seval,EMB]
 cases h
 simp only[seval,FMB,qr63]
 intro v1 qd64
 refine .sR λe h=>?_
 simp only[seval,EMB,qd64]
 refine mU e (.seqK (.condF rfl (.exit QB))) h
 intro v2
 refine Mir.toK (.sB ?_)
 refine .ret QB
def kL(a0:Int):Option (Int×Int):=if (((zJ a0 1000) != 0)||((decide (a0<54000))||(decide (a0>59000))))=true then some (0,4)else some (zK.wrap ((zK.wrap (zH a0 1000))-54),0)
theorem tb_slot_spec{a0:Int}{y:Int×Int}(h:kL a0=some y):Spec gP 75 [.d (.int .i64 a0)] (.tuple [.d (.int .i64 y.1),.d (.int .i64 y.2)]):=by
 refine auB Tryz.func75 (λy:Int×Int=>.tuple [.d (.int .i64 y.1),.d (.int .i64 y.2)]) ?_ h
 unfold kL
 refine .sB ?_
 refine .seqK (.seqK (.joinV [.d (.int .i64 a0),U,U,U,U,U,U,U,U,U,U,U,U,U,.d (.bool (((zJ a0 1000) != 0)||((decide (a0<54000))||(decide (a0>59000))))),U,U,U] ⟨[],[]⟩ rfl ?_ ?_))
 refine SWs.region ?_
 rcases zD ((zJ a0 1000) != 0)with hb1 | hb1
 simp only[seval,EMB,SL,PB,hb1]
 rcases zD (decide (a0<54000))with hb2 | hb2
 simp only[seval,EMB,SL,PB,hb1,hb2]
 simp only[seval,EMB,SL,PB,hb1,hb2]
 refine Mir.toK (.cond rfl (λhb4=>?_) (λhb4=>?_))
 refine .sB ?_
 refine .ret QB
 refine .skip (Mir.toK (.sB ?_))
 refine .ret QB
def dt(a0:Int):Option Bool:=some (a0 != a0)
theorem fw{a0:Int}{y:Bool}(h:dt a0=some y):Spec gP 157 [.d (.int .i64 a0)] (.d (.bool y)):=by
 refine auB Tryz.func157 (λy:Bool=>.d (.bool y)) ?_ h
 unfold dt
 refine .sB ?_
 refine .sB ?_
 refine .ret QB
def cr(a0:Int)(a1:Int):Option Int:=bindO (dt a0) λ(y1:Bool)=>bindO (dt a1) λ(y2:Bool)=>if y1=true then if y2=true then some 0 else some (-1)else if y2=true then some 1 else if (decide (a0<a1))=true then some (-1)else if (decide (a0>a1))=true then some 1 else some 0
theorem jh{a0:Int}{a1:Int}{y:Int}(h:cr a0 a1=some y):Spec gP 153 [.d (.int .i64 a0),.d (.int .i64 a1)] (.d (.int .i64 y)):=by
 refine auB Tryz.func153 (λy:Int=>.d (.int .i64 y)) ?_ h
 unfold cr
 refine .sB ?_
 refine .seqK (.bind λy1 hy1=>.region λe h=>WB ?_)
 refine .byB (fw hy1) (mB ?_ h)
 refine .seqK (.bind λy2 hy2=>.region λe h=>WB ?_)
 refine .byB (fw hy2) (mB ?_ h)
 refine .seqK (.sB ?_)
 refine .cond rfl (λhb6=>?_) (λhb6=>?_)
 refine .seqK (.sB ?_)
 refine .cond rfl (λhb8=>?_) (λhb8=>?_)
 refine .sB ?_
 refine .ret QB
 refine .skip (Mir.toK (.sB ?_))
 refine .ret QB
 refine .skip (Mir.toK (.seqK (.sB ?_)))
 refine .cond rfl (λhb10=>?_) (λhb10=>?_)
 refine .sB ?_
 refine .ret QB
 refine .skip (Mir.toK (.seqK (.sB ?_)))
 refine .cond rfl (λhb12=>?_) (λhb12=>?_)
 refine .sB ?_
 refine .ret QB
 refine .skip (Mir.toK (.seqK (.sB ?_)))
 refine .cond rfl (λhb14=>?_) (λhb14=>?_)
 refine .sB ?_
 refine .ret QB
 refine .skip (Mir.toK (.sB ?_))
 refine .ret QB
def fI(a0:aG)(a1:Int):Option Int:=bindO (cr a0.Number a1) λ(y1:Int)=>some y1
theorem jk{a0:aG}{a1:Int}{y:Int}(h:fI a0 a1=some y):Spec gP 152 [.agg (cL a0),.d (.int .i64 a1)] (.d (.int .i64 y)):=by
 refine auB Tryz.func152 (λy:Int=>.d (.int .i64 y)) ?_ h
 unfold fI
 refine .sB ?_
 refine .seqK (.bind λy1 hy1=>.region λe h=>WB ?_)
 refine .byB (jh hy1) (mB ?_ h)
 refine .ret QB
def tb_find(a0:al)(a1:Int):Option (Int×Bool):=bindO (bindO (loopX (λ(v1:Int×Int)=>if (decide (v1.1<v1.2))=true then bindO (gt a0.Lengths (zK.wrap (shrI .u64 (zL.wrap (zK.wrap (v1.1+v1.2))) 1))) λ(e1:aG)=>bindO (fI e1 a1) λ(y1:Int)=>if (decide (y1<0))=true then some (.go (zK.wrap ((zK.wrap (shrI .u64 (zL.wrap (zK.wrap (v1.1+v1.2))) 1))+1),v1.2))else some (.go (v1.1,zK.wrap (shrI .u64 (zL.wrap (zK.wrap (v1.1+v1.2))) 1)))else some (.ret v1.1)) fuel (0,(a0.Lengths.length:Int))) λ(v2:Int)=>bindO (if (decide (v2<(a0.Lengths.length:Int)))=true then bindO (gt a0.Lengths v2) λ(e2:aG)=>bindO (fI e2 a1) λ(y2:Int)=>some (y2==0)else some false) λ(v3:Bool)=>some (v2,v3)) λ(v4:Int×Bool)=>some (v4.1,v4.2)
theorem tb_find_spec{a0:al}{a1:Int}{y:Int×Bool}(h:tb_find a0 a1=some y):Spec gP 139 [.agg (w6 a0.Work [.d (.list (zB ag a0.Lengths))]),.d (.int .i64 a1)] (.tuple [.d (.int .i64 y.1),.d (.bool y.2)]):=by
 refine auB Tryz.func139 (λy:Int×Bool=>.tuple [.d (.int .i64 y.1),.d (.bool y.2)]) ?_ h
 unfold tb_find
 refine .sB ?_
 refine .seqK (.bind λv4 hv34=>.region λe h=>WB ?_)
 refine SpecS.inl Tryz.func151 rfl (by kernel_rfl) (by kernel_rfl) (λv4:Int×Bool=>.tuple [.d (.int .i64 v4.1),.d (.bool v4.2)]) (λv4=>⟨[(w6 a0.Work [.d (.list (zB ag a0.Lengths))])],[]⟩) hv34 rfl ?_ ?_
 simp only[zF,zG,nS,nA,Tryz.ntmps151,SV]
 refine .sB ?_
 refine .sB ?_
 refine .sB ?_
 refine .seqK (Mir.joinO (λv2:Int=>([.d (.list (zB ag a0.Lengths)),.d (.int .i64 a1),.fn 152 [],U,U,U,U,U,.d (.int .i64 (a0.Lengths.length:Int)),.d (.int .i64 v2)]++us 39)) (λv2=>⟨[(w6 a0.Work [.d (.list (zB ag a0.Lengths))])],[]⟩) (λ_=>rfl) ?_ ?_)
 refine .block (Mir.loop (λv1:Int×Int=>([.d (.list (zB ag a0.Lengths)),.d (.int .i64 a1),.fn 152 [],U,U,U,U,U,.d (.int .i64 (a0.Lengths.length:Int)),.d (.int .i64 v1.1),.d (.int .i64 v1.2)]++us 38)) (λv1=>⟨[(w6 a0.Work [.d (.list (zB ag a0.Lengths))])],[]⟩) (λ_=>rfl) (by simp only[seval,FMB]) (by simp only[seval,FMB]) λv1=>.seqK (.sB ?_))
 refine .cond rfl (λhb61=>?_) (λhb61=>?_)
 refine .skip (Mir.toK (.block (.sB ?_)))
 refine .seqK (.bind λe1 q62=>?_)
 replace q62:=gt_ok q62
 refine .bind λy1 hy63=>.region λe h=>?_
 simp only[seval,EMB,q62]
 refine .byB (jk hy63) (mB ?_ h)
 refine .cond rfl (λ_=>.rB) (λ_=>.rB)
 refine .exit QB
 intro v2
 refine Mir.toK (.seqK (Mir.joinO (λv3:Bool=>([U,U,U,U,U,U,.d (.int .i64 v2),.d (.bool v3)]++us 41)) (λv3=>⟨[(w6 a0.Work [.d (.list (zB ag a0.Lengths))])],[]⟩) (λ_=>rfl) ?_ ?_))
 refine .ite (λhb65=>?_) (λhb65=>?_)
 refine .bind λe2 q66=>?_
 replace q66:=gt_ok q66
 refine .bind λy2 hy67=>.region λe h=>?_
 simp only[seval,EMB,q66,hb65]
 refine SpecS.by (jk hy67) (by simp only[seval,FMB,hb65]) ?_
 simp only[seval,EMB,hb65]
 cases h
 simp only[seval,FMB,hb65]
 refine .region λe h=>?_
 simp only[seval,EMB,hb65]
 cases h
 simp only[seval,FMB,hb65]
 intro v3
 refine Mir.toK (.ret QB)
 simp only[seval,EMB]
 refine mU e (.ret QB) h
def gV(a0:al)(a1:Int):Option (Int×Int):=if (a1==0)=true then some (0,0)else bindO (tb_find (al.mk a0.Work a0.Lengths) a1) λ(y1:Int×Bool)=>if (!y1.2)=true then some (0,4)else bindO (gt a0.Lengths y1.1) λ(e1:aG)=>some (e1.Length,0)
theorem tb_length_spec{a0:al}{a1:Int}{y:Int×Int}(h:gV a0 a1=some y):Spec gP 130 [.agg (w6 a0.Work [.d (.list (zB ag a0.Lengths))]),.d (.int .i64 a1)] (.tuple [.d (.int .i64 y.1),.d (.int .i64 y.2)]):=by
 refine auB Tryz.func130 (λy:Int×Int=>.tuple [.d (.int .i64 y.1),.d (.int .i64 y.2)]) ?_ h
 unfold gV
 refine .sB ?_
 refine .seqK (.sB ?_)
 refine .cond rfl (λhb2=>?_) (λhb2=>?_)
 refine .sB ?_
 refine .ret QB
 refine .skip (Mir.toK (.seqK (.bind λy1 hy3=>.region λe h=>WB ?_)))
 refine .byB (tb_find_spec hy3) (mB ?_ h)
 refine .seqK (.sB ?_)
 refine .cond rfl (λhb5=>?_) (λhb5=>?_)
 refine .sB ?_
 refine .ret QB
 refine .skip (Mir.toK (.seqK (.bind λe1 q6=>?_)))
 replace q6:=gt_ok q6
 refine .region λe h=>?_
 simp only[seval,EMB,q6]
 refine mU e (.ret QB) h
def eY(a0:al)(a1:Int)(a2:Int):Option (aa×Int):=bindO (br a0) λ(y1:Int)=>if (y1 != 0)=true then some (aa.mk 0 0 0,y1)else bindO (kL a1) λ(y2:Int×Int)=>bindO (gV (al.mk a0.Work a0.Lengths) a2) λ(y3:Int×Int)=>if ((y2.2 != 0)||(y3.2 != 0))=true then some (aa.mk 0 0 0,4)else bindO (aB (decide (0≤y2.1∧y2.1<6)) ( if (y2.1==0)=true then some a0.Work.e0 else if (y2.1==1)=true then some a0.Work.e1 else if (y2.1==2)=true then some a0.Work.e2 else if (y2.1==3)=true then some a0.Work.e3 else if (y2.1==4)=true then some a0.Work.e4 else some a0.Work.e5)) λ(v1:aa)=>some (aa.mk v1.X v1.Y (zK.wrap (v1.Z+y3.1)),0)
theorem kn{a0:al}{a1:Int}{a2:Int}{y:aa×Int}(h:eY a0 a1 a2=some y):Spec gP 117 [.agg (w6 a0.Work [.d (.list (zB ag a0.Lengths))]),.d (.int .i64 a1),.d (.int .i64 a2)] (.tuple [.agg [.d (.int .i64 y.1.X),.d (.int .i64 y.1.Y),.d (.int .i64 y.1.Z)],.d (.int .i64 y.2)]):=by
 refine auB Tryz.func117 (λy:aa×Int=>.tuple [.agg [.d (.int .i64 y.1.X),.d (.int .i64 y.1.Y),.d (.int .i64 y.1.Z)],.d (.int .i64 y.2)]) ?_ h
 unfold eY
 refine .sB ?_
 refine .seqK (.seqK (.bind λy1 hy1=>.region λe h=>WB ?_))
 refine .byB (ey hy1) (mB ?_ h)
 refine .sB ?_
 refine .cond rfl (λhb3=>?_) (λhb3=>?_)
 refine .sB ?_
 refine .ret QB
 refine .skip (Mir.toK (.seqK (.bind λy2 hy4=>.region λe h=>WB ?_)))
 refine .byB (tb_slot_spec hy4) (mB ?_ h)
 refine .seqK (.bind λy3 hy5=>.region λe h=>WB ?_)
 refine .byB (tb_length_spec hy5) (mB ?_ h)
 refine .seqK (.seqK (.joinV ([U,U,U,.ptr 0 0,U,U,.ptr 1 0,U,U,.d (.int .i64 y2.1),U,.d (.int .i64 y3.1),U,U,U,U,U,U,U,U,U,U,U,U,U,U,U,U,U,U,U,U,U,U,U,U,.d (.bool ((y2.2 != 0)||(y3.2 != 0)))]++us 11) ⟨[(w6 a0.Work [.d (.list (zB ag a0.Lengths))]),[.d (.int .i64 0),.d (.int .i64 0),.d (.int .i64 0)]],[]⟩ rfl ?_ ?_))
 refine SWs.region ?_
 rcases zD (y2.2 != 0)with hb6 | hb6
 simp only[seval,EMB,SL,PB,hb6]
 simp only[seval,EMB,SL,PB,hb6]
 refine Mir.toK (.cond rfl (λhb8=>?_) (λhb8=>?_))
 refine .sB ?_
 refine .ret QB
 refine .skip (Mir.toK (.seqK (Mir.joinO (λv1:aa=>([U,U,U,U,U,U,.ptr 1 0,U,U,U,U,.d (.int .i64 y3.1),U,.ptr 2 0]++us 34)) (λv1=>⟨[(w6 a0.Work [.d (.list (zB ag a0.Lengths))]),[.d (.int .i64 0),.d (.int .i64 0),.d (.int .i64 0)],(cH v1)],[]⟩) (λ_=>rfl) ?_ ?_)))
 refine .guard λqi9=>.ite (λhb10=>?_) (λhb10=>?_)
 refine .region λe h=>?_
 simp only[seval,EMB,(eq_of_beq hb10),hb10]
 cases h
 simp only[seval,FMB,hb10]
 refine .ite (λhb11=>?_) (λhb11=>?_)
 refine .region λe h=>?_
 simp only[seval,EMB,(eq_of_beq hb11),hb10,hb11]
 cases h
 simp only[seval,FMB,hb10,hb11]
 refine .ite (λhb12=>?_) (λhb12=>?_)
 refine .region λe h=>?_
 simp only[seval,EMB,(eq_of_beq hb12),hb10,hb11,hb12]
 cases h
 simp only[seval,FMB,hb10,hb11,hb12]
 refine .ite (λhb13=>?_) (λhb13=>?_)
 refine .region λe h=>?_
 simp only[seval,EMB,(eq_of_beq hb13),hb10,hb11,hb12,hb13]
 cases h
 simp only[seval,FMB,hb10,hb11,hb12,hb13]
 refine .ite (λhb14=>?_) (λhb14=>?_)
 refine .region λe h=>?_
 simp only[seval,EMB,(eq_of_beq hb14),hb10,hb11,hb12,hb13,hb14]
 cases h
 simp only[seval,FMB,hb10,hb11,hb12,hb13,hb14]
 have hz15:y2.1=5:=by have h0:=of_decide_eq_true qi9;have h1:=aE hb10;have h2:=aE hb11;have h3:=aE hb12;have h4:=aE hb13;have h5:=aE hb14;omega
 refine .region λe h=>?_
 simp only[seval,EMB,hz15,hb10,hb11,hb12,hb13,hb14]
 cases h
 simp only[seval,FMB,hb10,hb11,hb12,hb13,hb14]
 intro v1
 refine Mir.toK (.sB ?_)
 refine .sB ?_
 refine .ret QB
def gq(a0:aa)(a1:aa)(a2:Int):Option (aa×Int):=bindO (gW a0) λ(y1:Bool)=>if y1=true then some (aa.mk 0 0 0,11)else bindO (gW (aa.mk (zK.wrap (a0.X+(zK.wrap (a2*a1.X)))) (zK.wrap (a0.Y+(zK.wrap (a2*a1.Y)))) (zK.wrap (a0.Z+(zK.wrap (a2*a1.Z)))))) λ(y2:Bool)=>if y2=true then some (aa.mk 0 0 0,11)else some (aa.mk (zK.wrap (a0.X+(zK.wrap (a2*a1.X)))) (zK.wrap (a0.Y+(zK.wrap (a2*a1.Y)))) (zK.wrap (a0.Z+(zK.wrap (a2*a1.Z)))),0)
theorem tb_moved_spec{a0:aa}{a1:aa}{a2:Int}{y:aa×Int}(h:gq a0 a1 a2=some y):Spec gP 118 [.agg (cH a0),.agg (cH a1),.d (.int .i64 a2)] (.tuple [.agg [.d (.int .i64 y.1.X),.d (.int .i64 y.1.Y),.d (.int .i64 y.1.Z)],.d (.int .i64 y.2)]):=by
 refine auB Tryz.func118 (λy:aa×Int=>.tuple [.agg [.d (.int .i64 y.1.X),.d (.int .i64 y.1.Y),.d (.int .i64 y.1.Z)],.d (.int .i64 y.2)]) ?_ h
 unfold gq
 refine .sB ?_
 refine .seqK (.seqK (.bind λy1 hy1=>.region λe h=>WB ?_))
 refine .byB (cv hy1) (mB ?_ h)
 refine .cond rfl (λhb3=>?_) (λhb3=>?_)
 refine .sB ?_
 refine .ret QB
 refine .skip (Mir.toK (.sB ?_))
 refine .seqK (.seqK (.bind λy2 hy4=>.region λe h=>WB ?_))
 refine .byB (cv hy4) (mB ?_ h)
 refine .cond rfl (λhb6=>?_) (λhb6=>?_)
 refine .sB ?_
 refine .ret QB
 refine .skip (Mir.toK (.sB ?_))
 refine .ret QB
def iA(a0:al)(a1:Int)(a2:Int)(a3:aa):Option (aa×Int):=bindO (eY (al.mk a0.Work a0.Lengths) a1 a2) λ(y1:aa×Int)=>if (y1.2 != 0)=true then some (aa.mk 0 0 0,y1.2)else bindO (gq a3 y1.1 (-1)) λ(y2:aa×Int)=>some (y2.1,y2.2)
theorem tb_Work_spec{a0:al}{a1:Int}{a2:Int}{a3:aa}{y:aa×Int}(h:iA a0 a1 a2 a3=some y):Spec gP 85 [.agg (w6 a0.Work [.d (.list (zB ag a0.Lengths))]),.d (.int .i64 a1),.d (.int .i64 a2),.agg (cH a3)] (.tuple [.agg [.d (.int .i64 y.1.X),.d (.int .i64 y.1.Y),.d (.int .i64 y.1.Z)],.d (.int .i64 y.2)]):=by
 refine auB Tryz.func85 (λy:aa×Int=>.tuple [.agg [.d (.int .i64 y.1.X),.d (.int .i64 y.1.Y),.d (.int .i64 y.1.Z)],.d (.int .i64 y.2)]) ?_ h
 unfold iA
 refine .sB ?_
 refine .seqK (.bind λy1 hy1=>.region λe h=>WB ?_)
 refine .byB (kn hy1) (mB ?_ h)
 refine .seqK (.sB ?_)
 refine .cond rfl (λhb3=>?_) (λhb3=>?_)
 refine .sB ?_
 refine .ret QB
 refine .skip (Mir.toK (.seqK (.bind λy2 hy4=>.region λe h=>WB ?_)))
 refine .byB (tb_moved_spec hy4) (mB ?_ h)
 refine .ret QB
def im(a0:am)(a1:au)(a2:aa):Option aa:=bindO (bindO (bindO (gS a1 88) λ(y1:Int×Bool)=>if (!y1.2)=true then some a2.X else if (a0.Distance==90000)=true then some y1.1 else some (zK.wrap (a2.X+y1.1))) λ(v1:Int)=>bindO (bindO (gS a1 89) λ(y2:Int×Bool)=>if (!y2.2)=true then some a2.Y else if (a0.Distance==90000)=true then some y2.1 else some (zK.wrap (a2.Y+y2.1))) λ(v2:Int)=>bindO (bindO (gS a1 90) λ(y3:Int×Bool)=>if (!y3.2)=true then some a2.Z else if (a0.Distance==90000)=true then some y3.1 else some (zK.wrap (a2.Z+y3.1))) λ(v3:Int)=>some (aa.mk v1 v2 v3)) λ(v4:aa)=>some v4
theorem inp_target_spec{a0:am}{a1:au}{a2:aa}{y:aa}(h:im a0 a1 a2=some y):Spec gP 119 [.agg (cB a0),.agg (cG a1),.agg (cH a2)] (.agg [.d (.int .i64 y.X),.d (.int .i64 y.Y),.d (.int .i64 y.Z)]):=by
 refine auB Tryz.func119 (λy:aa=>.agg [.d (.int .i64 y.X),.d (.int .i64 y.Y),.d (.int .i64 y.Z)]) ?_ h
 unfold im
 refine .sB ?_
 refine .seqK (.sR λe h=>?_)
 simp only[seval,EMB,(oL 6),(nr rfl:((3:Nat):Int)=3)]
 refine mU e (Mir.joinO (λv4:aa=>([U,U,U,U,U,.ptr 2 0,.ptr 3 0]++us 43)) (λv4=>⟨[(cB a0),(cG a1),(cH v4),[.d (.int .i64 0),.d (.int .i64 0),.d (.int .i64 0)],[.d (.int .u8 88),.ptr 2 0,.d (.int .u8 89),.ptr 2 1,.d (.int .u8 90),.ptr 2 2]],[]⟩) (λ_=>rfl) ?_ ?_) h
 refine .block (.loopR 15 (.sB ?_))
 refine .seqK (.condT rfl (.skip (Mir.toK (.seqK (Mir.joinO (λv1:Int=>([U,U,U,.ptr 0 0,.ptr 1 0,.ptr 2 0,.ptr 3 0,U,U,U,U,U,U,U,U,U,U,.sl 4 0 3 3,.d (.int .i64 3),.d (.int .i64 0)]++us 30)) (λv1=>⟨[(cB a0),(cG a1),[.d (.int .i64 v1),.d (.int .i64 a2.Y),.d (.int .i64 a2.Z)],[.d (.int .i64 0),.d (.int .i64 0),.d (.int .i64 0)],[.d (.int .u8 88),.ptr 2 0,.d (.int .u8 89),.ptr 2 1,.d (.int .u8 90),.ptr 2 2]],[]⟩) (λ_=>rfl) ?_ ?_)))))
 refine .block (.sB ?_)
 refine .seqK (.bind λy1 hy22=>.region λe h=>WB ?_)
 refine .byB (ff hy22) (mB ?_ h)
 refine .block (.sB ?_)
 refine .cond rfl (λ_=>.skip QB) (λhb23=>?_)
 refine .sB ?_
 refine .cond rfl (λ_=>.rB) (λ_=>.rB)
 intro v1
 refine Mir.toK (.region λe h=>?_)
 simp only[seval,EMB,(nr rfl:zK.wrap 1=1)]
 refine Mir.useN (e:=e) ?_ h
 refine .sB ?_
 refine .seqK (.condT rfl (.skip (Mir.toK (.seqK (Mir.joinO (λv2:Int=>([U,U,U,.ptr 0 0,.ptr 1 0,.ptr 2 0,.ptr 3 0,U,U,U,U,U,U,U,U,U,U,.sl 4 0 3 3,.d (.int .i64 3),.d (.int .i64 1)]++us 30)) (λv2=>⟨[(cB a0),(cG a1),[.d (.int .i64 v1),.d (.int .i64 v2),.d (.int .i64 a2.Z)],[.d (.int .i64 0),.d (.int .i64 0),.d (.int .i64 0)],[.d (.int .u8 88),.ptr 2 0,.d (.int .u8 89),.ptr 2 1,.d (.int .u8 90),.ptr 2 2]],[]⟩) (λ_=>rfl) ?_ ?_)))))
 refine .block (.sB ?_)
 refine .seqK (.bind λy2 hy28=>.region λe h=>WB ?_)
 refine .byB (ff hy28) (mB ?_ h)
 refine .block (.sB ?_)
 refine .cond rfl (λ_=>.skip QB) (λhb29=>?_)
 refine .sB ?_
 refine .cond rfl (λ_=>.rB) (λ_=>.rB)
 intro v2
 refine Mir.toK (.region λe h=>?_)
 simp only[seval,EMB,(nr rfl:zK.wrap 2=2)]
 refine Mir.useN (e:=e) ?_ h
 refine .sB ?_
 refine .seqK (.condT rfl (.skip (Mir.toK (.seqK (Mir.joinO (λv3:Int=>([U,U,U,.ptr 0 0,.ptr 1 0,.ptr 2 0,.ptr 3 0,U,U,U,U,U,U,U,U,U,U,.sl 4 0 3 3,.d (.int .i64 3),.d (.int .i64 2)]++us 30)) (λv3=>⟨[(cB a0),(cG a1),[.d (.int .i64 v1),.d (.int .i64 v2),.d (.int .i64 v3)],[.d (.int .i64 0),.d (.int .i64 0),.d (.int .i64 0)],[.d (.int .u8 88),.ptr 2 0,.d (.int .u8 89),.ptr 2 1,.d (.int .u8 90),.ptr 2 2]],[]⟩) (λ_=>rfl) ?_ ?_)))))
 refine .block (.sB ?_)
 refine .seqK (.bind λy3 hy34=>.region λe h=>WB ?_)
 refine .byB (ff hy34) (mB ?_ h)
 refine .block (.sB ?_)
 refine .cond rfl (λ_=>.skip QB) (λhb35=>?_)
 refine .sB ?_
 refine .cond rfl (λ_=>.rB) (λ_=>.rB)
 intro v3
 refine Mir.toK (.region λe h=>?_)
 simp only[seval,EMB,(nr rfl:zK.wrap 3=3)]
 refine Mir.useN (e:=e) ?_ h
 refine .sB ?_
 refine .seqK (.condF rfl (.exit QB))
 intro v4
 refine Mir.toK (.sB ?_)
 refine .ret QB
def il(a0:au)(a1:Int):Option Int:=bindO (gS a0 a1) λ(y1:Int×Bool)=>some y1.1
theorem kH{a0:au}{a1:Int}{y:Int}(h:il a0 a1=some y):Spec gP 133 [.agg (cG a0),.d (.int .u8 a1)] (.d (.int .i64 y)):=by
 refine auB Tryz.func133 (λy:Int=>.d (.int .i64 y)) ?_ h
 unfold il
 refine .sB ?_
 refine .seqK (.bind λy1 hy1=>.region λe h=>WB ?_)
 refine .byB (ff hy1) (mB ?_ h)
 refine .sB ?_
 refine .ret QB
def fF(a0:aV):Option Bool:=some ((a0.Kind==3)||(a0.Kind==4))
theorem dC{a0:aV}{y:Bool}(h:fF a0=some y):Spec gP 154 [.agg (cD a0)] (.d (.bool y)):=by
 refine auB Tryz.func154 (λy:Bool=>.d (.bool y)) ?_ h
 unfold fF
 refine .sB ?_
 refine .seqK (.joinV ([U,U,.d (.bool ((a0.Kind==3)||(a0.Kind==4)))]++us 8) ⟨[(cD a0)],[]⟩ rfl ?_ ?_)
 refine SWs.region ?_
 rcases zD (a0.Kind==3)with hb1 | hb1
 simp only[seval,EMB,SL,PB,hb1]
 simp only[seval,EMB,SL,PB,hb1]
 refine Mir.toK (.ret QB)
def cW(a0:Int)(a1:Int):Option Int:=bindO (if (decide (a0<a1))=true then some (a1,a0)else some (a0,a1)) λ(v1:Int×Int)=>some (zL.wrap ((zL.wrap v1.1)-(zL.wrap v1.2)))
theorem cc{a0:Int}{a1:Int}{y:Int}(h:cW a0 a1=some y):Spec gP 156 [.d (.int .i64 a0),.d (.int .i64 a1)] (.d (.int .u64 y)):=by
 refine auB Tryz.func156 (λy:Int=>.d (.int .u64 y)) ?_ h
 unfold cW
 refine .sB ?_
 refine .seqK (.sB ?_)
 refine Mir.joinO (λv1:Int×Int=>([.d (.int .i64 v1.1),.d (.int .i64 v1.2)]++us 13)) (λv1=>⟨[],[]⟩) (λ_=>rfl) ?_ ?_
 refine .cond rfl (λ_=>.rB) (λ_=>.skip QB)
 intro v1
 refine Mir.toK (.sB ?_)
 refine .ret QB
def dc(a0:aa)(a1:be):Option (Int×Int):=if ((a0.Y==a1.Y)&&(decide (a0.X>a1.X)))=true then bindO (cW a0.X a1.X) λ(y1:Int)=>some (0,y1)else if ((a0.X==a1.X)&&(decide (a0.Y>a1.Y)))=true then bindO (cW a0.Y a1.Y) λ(y2:Int)=>some (1,y2)else if ((a0.Y==a1.Y)&&(decide (a0.X<a1.X)))=true then bindO (cW a0.X a1.X) λ(y3:Int)=>some (2,y3)else if ((a0.X==a1.X)&&(decide (a0.Y<a1.Y)))=true then bindO (cW a0.Y a1.Y) λ(y4:Int)=>some (3,y4)else some (0,0)
theorem dB{a0:aa}{a1:be}{y:Int×Int}(h:dc a0 a1=some y):Spec gP 146 [.agg (cH a0),.agg (cN a1)] (.tuple [.d (.int .i64 y.1),.d (.int .u64 y.2)]):=by
 refine auB Tryz.func146 (λy:Int×Int=>.tuple [.d (.int .i64 y.1),.d (.int .u64 y.2)]) ?_ h
 unfold dc
 refine .sB ?_
 refine .seqK (.block (.seqK (.joinV ([U,U,.ptr 0 0,.ptr 1 0,U,U,.d (.bool ((a0.Y==a1.Y)&&(decide (a0.X>a1.X))))]++us 71) ⟨[(cH a0),(cN a1)],[]⟩ rfl ?_ ?_)))
 refine SWs.region ?_
 rcases zD (a0.Y==a1.Y)with hb13 | hb13
 simp only[seval,EMB,SL,PB,hb13]
 simp only[seval,EMB,SL,PB,hb13]
 refine Mir.toK (.cond rfl (λhb25=>?_) (λhb25=>?_))
 refine .seqK (.bind λy1 hy26=>.region λe h=>WB ?_)
 refine .byB (cc hy26) (mB ?_ h)
 refine .ret QB
 refine .seqK (.joinV ([U,U,.ptr 0 0,.ptr 1 0,U,U,U,U,U,U,U,U,U,U,U,U,U,U,U,U,U,U,U,U,.d (.bool ((a0.X==a1.X)&&(decide (a0.Y>a1.Y))))]++us 53) ⟨[(cH a0),(cN a1)],[]⟩ rfl ?_ ?_)
 refine SWs.region ?_
 rcases zD (a0.X==a1.X)with hb27 | hb27
 simp only[seval,EMB,SL,PB,hb27]
 simp only[seval,EMB,SL,PB,hb27]
 refine Mir.toK (.cond rfl (λhb36=>?_) (λhb36=>?_))
 refine .seqK (.bind λy2 hy37=>.region λe h=>WB ?_)
 refine .byB (cc hy37) (mB ?_ h)
 refine .ret QB
 refine .seqK (.joinV ([U,U,.ptr 0 0,.ptr 1 0,U,U,U,U,U,U,U,U,U,U,U,U,U,U,U,U,U,U,U,U,U,U,U,U,U,U,U,U,U,U,U,U,U,U,U,U,U,U,.d (.bool ((a0.Y==a1.Y)&&(decide (a0.X<a1.X))))]++us 35) ⟨[(cH a0),(cN a1)],[]⟩ rfl ?_ ?_)
 refine SWs.region ?_
 rcases zD (a0.Y==a1.Y)with hb38 | hb38
 simp only[seval,EMB,SL,PB,hb38]
 simp only[seval,EMB,SL,PB,hb38]
 refine Mir.toK (.cond rfl (λhb44=>?_) (λhb44=>?_))
 refine .seqK (.bind λy3 hy45=>.region λe h=>WB ?_)
 refine .byB (cc hy45) (mB ?_ h)
 refine .ret QB
 refine .seqK (.joinV ([U,U,.ptr 0 0,.ptr 1 0,U,U,U,U,U,U,U,U,U,U,U,U,U,U,U,U,U,U,U,U,U,U,U,U,U,U,U,U,U,U,U,U,U,U,U,U,U,U,U,U,U,U,U,U,U,U,U,U,U,U,U,U,U,U,U,U,.d (.bool ((a0.X==a1.X)&&(decide (a0.Y<a1.Y))))]++us 17) ⟨[(cH a0),(cN a1)],[]⟩ rfl ?_ ?_)
 refine SWs.region ?_
 rcases zD (a0.X==a1.X)with hb46 | hb46
 simp only[seval,EMB,SL,PB,hb46]
 simp only[seval,EMB,SL,PB,hb46]
 refine Mir.toK (.cond rfl (λhb49=>?_) (λhb49=>?_))
 refine .seqK (.bind λy4 hy50=>.region λe h=>WB ?_)
 refine .byB (cc hy50) (mB ?_ h)
 refine .ret QB
 refine .skip (Mir.toB (Mir.toK (.sB ?_)))
 refine .ret QB
def iU(a0:aa)(a1:aV):Option Bool:=if (a1.Kind==1)=true then some (a1.Rate==0)else if (a1.Kind==2)=true then some (decide (a1.Rate>0))else bindO (dc a0 a1.Center) λ(y1:Int×Int)=>bindO (dc a1.To a1.Center) λ(y2:Int×Int)=>bindO (bindO (fF (aV.mk a1.Kind a1.To a1.Center a1.Rate)) λ(y3:Bool)=>if y3=true then if (decide (a1.Rate>0))=true then if (decide (y1.2>0))=true then some (y1.2==y2.2)else some false else some false else some false) λ(v1:Bool)=>some v1
theorem ip_right_spec{a0:aa}{a1:aV}{y:Bool}(h:iU a0 a1=some y):Spec gP 158 [.agg (cH a0),.agg (cD a1)] (.d (.bool y)):=by
 refine auB Tryz.func158 (λy:Bool=>.d (.bool y)) ?_ h
 unfold iU
 refine .sB ?_
 refine .seqK (.sB ?_)
 refine .block (.sB ?_)
 refine .cond rfl (λhb5=>?_) (λhb5=>?_)
 refine .sB ?_
 refine .ret QB
 refine .sB ?_
 refine .cond rfl (λhb7=>?_) (λhb7=>?_)
 refine .sB ?_
 refine .ret QB
 refine .skip (Mir.toB (Mir.toK (.seqK (.bind λy1 hy8=>.region λe h=>WB ?_))))
 refine .byB (dB hy8) (mB ?_ h)
 refine .seqK (.bind λy2 hy9=>.region λe h=>WB ?_)
 refine .byB (dB hy9) (mB ?_ h)
 refine .seqK (Mir.joinO (λv1:Bool=>([U,U,U,U,.d (.bool v1)]++us 47)) (λv1=>⟨[(cH a0),(cD a1)],[]⟩) (λ_=>rfl) ?_ ?_)
 refine .bind λy3 hy10=>.ite (λhb11=>?_) (λhb11=>?_)
 refine .ite (λhb12=>?_) (λhb12=>?_)
 refine .ite (λhb13=>?_) (λhb13=>?_)
 refine .region λe h=>?_
 simp only[seval,EMB,hb11,hb12,hb13]
 refine SpecS.by (dC hy10) (by simp only[seval,FMB,hb11,hb12,hb13]) ?_
 simp only[seval,EMB,hb11,hb12,hb13]
 cases h
 simp only[seval,FMB,hb11,hb12,hb13]
 refine .region λe h=>?_
 simp only[seval,EMB,hb11,hb12,hb13]
 refine SpecS.by (dC hy10) (by simp only[seval,FMB,hb11,hb12,hb13]) ?_
 simp only[seval,EMB,hb11,hb12,hb13]
 cases h
 simp only[seval,FMB,hb11,hb12,hb13]
 refine .region λe h=>?_
 simp only[seval,EMB,hb11,hb12]
 refine SpecS.by (dC hy10) (by simp only[seval,FMB,hb11,hb12]) ?_
 simp only[seval,EMB,hb11,hb12]
 cases h
 simp only[seval,FMB,hb11,hb12]
 refine .region λe h=>?_
 simp only[seval,EMB,hb11]
 refine SpecS.by (dC hy10) (by simp only[seval,FMB,hb11]) ?_
 simp only[seval,EMB,hb11]
 cases h
 simp only[seval,FMB,hb11]
 intro v1
 refine Mir.toK (.ret QB)
def iV(a0:aa)(a1:aV):Option Int:=bindO (iU a0 (aV.mk a1.Kind a1.To a1.Center a1.Rate)) λ(y1:Bool)=>if (!y1)=true then some 1 else bindO (fF (aV.mk a1.Kind a1.To a1.Center a1.Rate)) λ(y2:Bool)=>bindX (if y2=true then bindO (dc a0 a1.Center) λ(y3:Int×Int)=>bindO (if (decide (y3.2>10000000))=true then some true else bindO (cW a1.Center.X 0) λ(y4:Int)=>if (decide (y4>10000000))=true then some true else bindO (cW a1.Center.Y 0) λ(y5:Int)=>some (decide (y5>10000000))) λ(v1:Bool)=>if v1=true then some (.ret 11)else some (.go [a0.X,a0.Y,a0.Z,a1.To.X,a1.To.Y,a1.To.Z,zK.wrap (a1.Center.X+(zK.wrap y3.2)),zK.wrap (a1.Center.X-(zK.wrap y3.2)),zK.wrap (a1.Center.Y+(zK.wrap y3.2)),zK.wrap (a1.Center.Y-(zK.wrap y3.2))])else some (.go [a0.X,a0.Y,a0.Z,a1.To.X,a1.To.Y,a1.To.Z])) λ(v2:(List Int))=>bindX (aB (okIdx v2) ( aS (λ(i1:Nat) (e1:Int) (v3:Unit)=>bindO (cW e1 0) λ(y6:Int)=>if (decide (y6>10000000))=true then some (.ret (.ret 11))else some (.go ())) (λ(v3:Unit)=>some (.go ())) v2 0 ())) λ(v4:Unit)=>some 0
theorem ip_Valid_spec{a0:aa}{a1:aV}{y:Int}(h:iV a0 a1=some y):Spec gP 155 [.agg (cH a0),.agg (cD a1)] (.d (.int .i64 y)):=by
 refine auB Tryz.func155 (λy:Int=>.d (.int .i64 y)) ?_ h
 unfold iV
 refine .sB ?_
 refine .seqK (.seqK (.bind λy1 hy1=>.region λe h=>WB ?_))
 refine .byB (ip_right_spec hy1) (mB ?_ h)
 refine .cond rfl (λhb3=>?_) (λhb3=>?_)
 refine .sB ?_
 refine .ret QB
 refine .skip (Mir.toK (.sR λe h=>?_))
 simp only[seval,EMB,(oL 6)]
 refine mU e (.seqK (.seqK (.bind λy2 hy4=>.region λe h=>WB ?_))) h
 refine .byB (dC hy4) (mB ?_ h)
 refine Mir.join (λv2:(List Int)=>([U,U,U,U,U,.d (.list (zB (eInt .i64) v2))]++us 85)) (λv2=>⟨[(cH a0),(cD a1)],[]⟩) (λ_=>rfl) ?_ ?_
 refine .cond rfl (λhb13=>?_) (λhb13=>?_)
 refine .seqK (.bind λy3 hy14=>.region λe h=>WB ?_)
 refine .byB (dB hy14) (mB ?_ h)
 refine .seqK (.seqK (Mir.joinO (λv1:Bool=>([U,U,U,.ptr 1 0,U,.full (zB (eInt .i64) [a0.X,a0.Y,a0.Z,a1.To.X,a1.To.Y,a1.To.Z]),U,.d (.int .u64 y3.2),U,U,U,U,U,U,U,U,U,U,U,U,U,U,U,U,U,U,U,U,U,U,U,U,U,U,U,U,U,U,U,U,U,U,U,U,U,U,U,U,U,U,U,U,U,U,U,.d (.bool v1)]++us 35)) (λv1=>⟨[(cH a0),(cD a1)],[]⟩) (λ_=>rfl) ?_ ?_))
 refine .ite (λhb15=>?_) (λhb15=>?_)
 refine .region λe h=>?_
 simp only[seval,EMB,hb15]
 cases h
 simp only[seval,FMB,hb15]
 refine .bind λy4 hy16=>.ite (λhb17=>?_) (λhb17=>?_)
 refine .region λe h=>?_
 simp only[seval,EMB,hb15,hb17]
 refine SpecS.by (cc hy16) (by simp only[seval,FMB,hb15,hb17]) ?_
 simp only[seval,EMB,hb15,hb17]
 cases h
 simp only[seval,FMB,hb15,hb17]
 refine .bind λy5 hy18=>.region λe h=>?_
 simp only[seval,EMB,hb15,hb17]
 refine SpecS.by (cc hy16) (by simp only[seval,FMB,hb15,hb17]) ?_
 simp only[seval,EMB,hb15,hb17]
 refine SpecS.by (cc hy18) (by simp only[seval,FMB,hb15,hb17]) ?_
 simp only[seval,EMB,hb15,hb17]
 cases h
 simp only[seval,FMB,hb15,hb17]
 intro v1
 refine Mir.toK (.cond rfl (λhb20=>?_) (λhb20=>?_))
 refine .sB ?_
 refine .ret QB
 refine .skip (Mir.toK (.sB ?_))
 refine .region λe h=>?_
 simp only[seval,EMB,(oL 4),(oL 10)]
 cases h
 simp only[seval,FMB]
 refine .skip QB
 intro v2
 refine Mir.toK (.seqK (.sB ?_))
 refine Mir.join (λv4:Unit=>(us 91)) (λv4=>⟨[(cH a0),(cD a1)],[]⟩) (λ_=>rfl) ?_ ?_
 refine .block (.guard λqg85=>Mir.range (λ(i1:Nat) (v3:Unit)=>([U,U,U,U,U,U,U,U,U,U,U,U,U,U,U,U,U,U,U,U,U,U,U,U,U,U,U,U,U,U,U,U,U,U,U,U,U,U,U,U,U,U,U,U,U,U,U,U,U,U,U,U,U,U,U,U,U,U,U,U,U,U,U,U,U,U,U,U,U,U,U,U,U,U,U,U,U,U,U,U,U,.d (.list (zB (eInt .i64) v2)),.d (.int .i64 (v2.length:Int)),.d (.int .i64 (i1:Int))]++us 7)) (λi1 v3=>⟨[(cH a0),(cD a1)],[]⟩) qg85 (λ_ _=>rfl) (by simp only[seval,FMB,zNI]) (by simp only[seval,FMB,zNI]) ?_ ?_)
 intro i1 e1 v3 qr83
 refine .sR λe h=>?_
 simp only[seval,EMB,qr83]
 refine mU e (.seqK (.condT rfl (.skip (Mir.toK (.seqK (.block (.sR λe h=>?_))))))) h
 simp only[seval,EMB,qr83,zE]
 refine mU e (.seqK (.bind λy6 hy88=>.region λe h=>WB ?_)) h
 refine .byB (cc hy88) (mB ?_ h)
 refine .cond rfl (λhb90=>?_) (λhb90=>?_)
 refine .sB ?_
 refine .ret QB
 refine .skip (Mir.toB (Mir.toK (.region λe h=>?_)))
 simp only[seval,EMB]
 cases h
 simp only[seval,FMB,qr83]
 intro v3 qd84
 refine .sR λe h=>?_
 simp only[seval,EMB,qd84]
 refine mU e (.seqK (.condF rfl (.exit QB))) h
 intro v4
 refine Mir.toK (.sB ?_)
 refine .ret QB
def cg(a0:aa)(a1:aV):Option (Int×Int):=bindO (fF a1) λ(y1:Bool)=>if (!y1)=true then some (0,1)else bindO (iV a0 (aV.mk a1.Kind a1.To a1.Center a1.Rate)) λ(y2:Int)=>if (y2 != 0)=true then some (0,y2)else bindO (dc a0 a1.Center) λ(y3:Int×Int)=>bindO (dc a1.To a1.Center) λ(y4:Int×Int)=>bindO (if (a1.Kind==3)=true then some (zK.wrap (0-(zK.wrap (y4.1-y3.1))))else some (zK.wrap (y4.1-y3.1))) λ(v1:Int)=>bindO (if (decide (v1≤0))=true then some (zK.wrap (v1+4))else some v1) λ(v2:Int)=>some (v2,0)
theorem ip_Quarters_spec{a0:aa}{a1:aV}{y:Int×Int}(h:cg a0 a1=some y):Spec gP 145 [.agg (cH a0),.agg (cD a1)] (.tuple [.d (.int .i64 y.1),.d (.int .i64 y.2)]):=by
 refine auB Tryz.func145 (λy:Int×Int=>.tuple [.d (.int .i64 y.1),.d (.int .i64 y.2)]) ?_ h
 unfold cg
 refine .sB ?_
 refine .seqK (.seqK (.bind λy1 hy1=>.region λe h=>WB ?_))
 refine .byB (dC hy1) (mB ?_ h)
 refine .cond rfl (λhb3=>?_) (λhb3=>?_)
 refine .sB ?_
 refine .ret QB
 refine .skip (Mir.toK (.seqK (.seqK (.bind λy2 hy4=>.region λe h=>WB ?_))))
 refine .byB (ip_Valid_spec hy4) (mB ?_ h)
 refine .sB ?_
 refine .cond rfl (λhb6=>?_) (λhb6=>?_)
 refine .sB ?_
 refine .ret QB
 refine .skip (Mir.toK (.seqK (.bind λy3 hy7=>.region λe h=>WB ?_)))
 refine .byB (dB hy7) (mB ?_ h)
 refine .seqK (.bind λy4 hy8=>.region λe h=>WB ?_)
 refine .byB (dB hy8) (mB ?_ h)
 refine .sB ?_
 refine .seqK (.sB ?_)
 refine Mir.joinO (λv1:Int=>([U,U,U,U,U,U,U,U,U,U,U,.d (.int .i64 v1)]++us 37)) (λv1=>⟨[(cH a0),(cD a1)],[]⟩) (λ_=>rfl) ?_ ?_
 refine .cond rfl (λ_=>.rB) (λ_=>.skip QB)
 intro v1
 refine Mir.toK (.seqK (.sB ?_))
 refine Mir.joinO (λv2:Int=>([U,U,U,U,U,U,U,U,U,U,U,.d (.int .i64 v2)]++us 37)) (λv2=>⟨[(cH a0),(cD a1)],[]⟩) (λ_=>rfl) ?_ ?_
 refine .cond rfl (λ_=>.rB) (λ_=>.skip QB)
 intro v2
 refine Mir.toK (.sB ?_)
 refine .ret QB
def jA(a0:Int):Option Int:=if (decide (a0≤0))=true then some 0 else bindO (loopX (λ(v1:Int×Int)=>if (decide (v1.1<v1.2))=true then if (decide ((zK.wrap ((zK.wrap (zH (zK.wrap (v1.1+v1.2)) 2))*(zK.wrap (zH (zK.wrap (v1.1+v1.2)) 2))))≥(zK.wrap ((zK.wrap (zH (zK.wrap (a0-1)) 10))+1))))=true then some (.go (v1.1,zK.wrap (zH (zK.wrap (v1.1+v1.2)) 2)))else some (.go (zK.wrap ((zK.wrap (zH (zK.wrap (v1.1+v1.2)) 2))+1),v1.2))else some (.ret v1.1)) fuel (1,1073741824)) λ(v2:Int)=>some v2
theorem ip_Chords_spec{a0:Int}{y:Int}(h:jA a0=some y):Spec gP 147 [.d (.int .i64 a0)] (.d (.int .i64 y)):=by
 refine auB Tryz.func147 (λy:Int=>.d (.int .i64 y)) ?_ h
 unfold jA
 refine .sB ?_
 refine .seqK (.sB ?_)
 refine .cond rfl (λhb2=>?_) (λhb2=>?_)
 refine .sB ?_
 refine .ret QB
 refine .skip (Mir.toK (.sB ?_))
 refine .sB ?_
 refine .seqK (Mir.joinO (λv2:Int=>([U,U,U,U,.d (.int .i64 v2)]++us 24)) (λv2=>⟨[],[]⟩) (λ_=>rfl) ?_ ?_)
 refine .block (Mir.loop (λv1:Int×Int=>([U,U,U,.d (.int .i64 (zK.wrap ((zK.wrap (zH (zK.wrap (a0-1)) 10))+1))),.d (.int .i64 v1.1),.d (.int .i64 v1.2)]++us 23)) (λv1=>⟨[],[]⟩) (λ_=>rfl) (by simp only[seval,FMB]) (by simp only[seval,FMB]) λv1=>.seqK (.sB ?_))
 refine .cond rfl (λh1=>?_) (λh1=>?_)
 refine .skip (Mir.toK (.block (.sB ?_)))
 refine .sB ?_
 refine .cond rfl (λ_=>.rB) (λ_=>.rB)
 refine .exit QB
 intro v2
 refine Mir.toK (.sB ?_)
 refine .ret QB
def ij(a0:Int)(a1:Int)(a2:Int):Option (Int×Int):=bindO (loopX (λ(v1:Int×Int×Int)=>if (decide (v1.2.2<(andI .i64 a2 3)))=true then some (.go (zK.wrap (0-v1.2.1),v1.1,zK.wrap (v1.2.2+1)))else some (.ret (v1.1,v1.2.1))) fuel (a0,a1,0)) λ(v2:Int×Int)=>some (v2.1,v2.2)
theorem kG{a0:Int}{a1:Int}{a2:Int}{y:Int×Int}(h:ij a0 a1 a2=some y):Spec gP 148 [.d (.int .i64 a0),.d (.int .i64 a1),.d (.int .i64 a2)] (.tuple [.d (.int .i64 y.1),.d (.int .i64 y.2)]):=by
 refine auB Tryz.func148 (λy:Int×Int=>.tuple [.d (.int .i64 y.1),.d (.int .i64 y.2)]) ?_ h
 unfold ij
 refine .sB ?_
 refine .seqK (.sB ?_)
 refine Mir.joinO (λv2:Int×Int=>([.d (.int .i64 v2.1),.d (.int .i64 v2.2)]++us 16)) (λv2=>⟨[],[]⟩) (λ_=>rfl) ?_ ?_
 refine .block (Mir.loop (λv1:Int×Int×Int=>([.d (.int .i64 v1.1),.d (.int .i64 v1.2.1),U,U,U,U,U,U,U,.d (.int .i64 (andI .i64 a2 3)),.d (.int .i64 v1.2.2)]++us 7)) (λv1=>⟨[],[]⟩) (λ_=>rfl) (by simp only[seval,FMB]) (by simp only[seval,FMB]) λv1=>.sB ?_)
 refine .seqK (.cond rfl (λhb12=>?_) (λhb12=>?_))
 refine .skip (Mir.toK (.seqK (.block (.region λe h=>WB ?_))))
 refine mU e (.rB) h
 refine .exit QB
 intro v2
 refine Mir.toK (.sB ?_)
 refine .ret QB
def ip_floor(a0:Int)(a1:Int):Option Int:=aB (!(a1==0)) ( aB (!(a1==0)) ( bindO (if (decide ((zJ a0 a1)<0))=true then some (zK.wrap ((zK.wrap (zH a0 a1))-1))else some (zK.wrap (zH a0 a1))) λ(v1:Int)=>some v1))
theorem ip_floor_spec{a0:Int}{a1:Int}{y:Int}(h:ip_floor a0 a1=some y):Spec gP 149 [.d (.int .i64 a0),.d (.int .i64 a1)] (.d (.int .i64 y)):=by
 refine auB Tryz.func149 (λy:Int=>.d (.int .i64 y)) ?_ h
 unfold ip_floor
 refine .sB ?_
 refine .seqK (.guard λq1=>?_)
 replace q1:=ne_of q1
 refine .region λe h=>?_
 simp only[seval,EMB,q1]
 refine mU e (.seqK (.seqK (.guard λq2=>?_))) h
 replace q2:=ne_of q2
 refine .region λe h=>?_
 simp only[seval,EMB,q2]
 refine mU e (Mir.joinO (λv1:Int=>([U,U,U,U,U,.d (.int .i64 v1)]++us 10)) (λv1=>⟨[],[]⟩) (λ_=>rfl) ?_ ?_) h
 refine .cond rfl (λ_=>.rB) (λ_=>.skip QB)
 intro v1
 refine Mir.toK (.sB ?_)
 refine .ret QB
def ip_Arc(a0:aa)(a1:aV):Option ((List aa)×Int):=bindO (cg a0 (aV.mk a1.Kind a1.To a1.Center a1.Rate)) λ(y1:Int×Int)=>if (y1.2 != 0)=true then some ([],y1.2)else bindO (dc a0 a1.Center) λ(y2:Int×Int)=>bindO (jA (zK.wrap y2.2)) λ(y3:Int)=>if (decide ((zK.wrap (y3*y1.1))>20000))=true then some ([],3)else bindO (loopX (λ(v1:(List aa)×Int)=>if (decide (v1.2<y1.1))=true then bindO (loopX (λ(v2:(List aa)×Int)=>if (decide (v2.2≤y3))=true then aB (!((zK.wrap ((zK.wrap (y3*y3))+(zK.wrap (v2.2*v2.2))))==0)) ( aB (!((zK.wrap ((zK.wrap (y3*y3))+(zK.wrap (v2.2*v2.2))))==0)) ( bindO (if (a1.Kind==3)=true then bindO (ij (zK.wrap (zH (zK.wrap ((zK.wrap y2.2)*(zK.wrap ((zK.wrap (y3*y3))-(zK.wrap (v2.2*v2.2)))))) (zK.wrap ((zK.wrap (y3*y3))+(zK.wrap (v2.2*v2.2)))))) (zK.wrap (0-(zK.wrap (zH (zK.wrap ((zK.wrap ((zK.wrap (2*(zK.wrap y2.2)))*v2.2))*y3)) (zK.wrap ((zK.wrap (y3*y3))+(zK.wrap (v2.2*v2.2)))))))) (zK.wrap ((zK.wrap (y2.1-v1.2))+4))) λ(y4:Int×Int)=>some (y4.1,y4.2)else bindO (ij (zK.wrap (zH (zK.wrap ((zK.wrap y2.2)*(zK.wrap ((zK.wrap (y3*y3))-(zK.wrap (v2.2*v2.2)))))) (zK.wrap ((zK.wrap (y3*y3))+(zK.wrap (v2.2*v2.2)))))) (zK.wrap (zH (zK.wrap ((zK.wrap ((zK.wrap (2*(zK.wrap y2.2)))*v2.2))*y3)) (zK.wrap ((zK.wrap (y3*y3))+(zK.wrap (v2.2*v2.2)))))) (zK.wrap (y2.1+v1.2))) λ(y5:Int×Int)=>some (y5.1,y5.2)) λ(v3:Int×Int)=>bindO (ip_floor (zK.wrap ((zK.wrap (a1.To.Z-a0.Z))*(zK.wrap ((v2.1.length:Int)+1)))) (zK.wrap (y3*y1.1))) λ(y6:Int)=>aB (okLen (v2.1.length+1)) ( some (.go (v2.1++[aa.mk (zK.wrap (a1.Center.X+v3.1)) (zK.wrap (a1.Center.Y+v3.2)) (zK.wrap (a0.Z+y6))],zK.wrap (v2.2+1))))))else some (.ret v2.1)) fuel (v1.1,1)) λ(v4:(List aa))=>some (.go (v4,zK.wrap (v1.2+1)))else some (.ret v1.1)) fuel ([],0)) λ(v5:(List aa))=>some (v5,0)
theorem ip_Arc_spec{a0:aa}{a1:aV}{y:(List aa)×Int}(h:ip_Arc a0 a1=some y):Spec gP 134 [.agg (cH a0),.agg (cD a1)] (.tuple [.d (.list (zB bH y.1)),.d (.int .i64 y.2)]):=by
 refine auB Tryz.func134 (λy:(List aa)×Int=>.tuple [.d (.list (zB bH y.1)),.d (.int .i64 y.2)]) ?_ h
 unfold ip_Arc
 refine .sB ?_
 refine .seqK (.bind λy1 hy1=>.region λe h=>WB ?_)
 refine .byB (ip_Quarters_spec hy1) (mB ?_ h)
 refine .seqK (.sB ?_)
 refine .cond rfl (λhb3=>?_) (λhb3=>?_)
 refine .sB ?_
 refine .ret QB
 refine .skip (Mir.toK (.seqK (.bind λy2 hy4=>.region λe h=>WB ?_)))
 refine .byB (dB hy4) (mB ?_ h)
 refine .sB ?_
 refine .seqK (.bind λy3 hy5=>.region λe h=>WB ?_)
 refine .byB (ip_Chords_spec hy5) (mB ?_ h)
 refine .sB ?_
 refine .seqK (.sB ?_)
 refine .cond rfl (λhb7=>?_) (λhb7=>?_)
 refine .sB ?_
 refine .ret QB
 refine .skip (Mir.toK (.sB ?_))
 refine .seqK (.sB ?_)
 refine .gh [.slot 13 23] rfl (Mir.joinO (λv5:(List aa)=>([U,U,U,U,U,U,U,U,U,U,U,U,U,.own 0 (zB bH v5)]++us 125)) (λv5=>⟨[(cH a0),(cD a1)],[(23,v5.length)]⟩) (λ_=>rfl) ?_ ?_)
 refine .block (Mir.loop (λv1:(List aa)×Int=>([U,U,.ptr 0 0,.ptr 1 0,U,U,U,U,.d (.int .i64 y2.1),U,.d (.int .i64 (zK.wrap y2.2)),.d (.int .i64 y3),.d (.int .i64 (zK.wrap (y3*y1.1))),.own 0 (zB bH v1.1),U,U,U,U,U,U,U,U,U,U,U,U,U,U,U,U,U,U,U,U,U,U,U,U,U,U,U,U,U,U,.d (.int .i64 y1.1),.d (.int .i64 v1.2)]++us 93)) (λv1=>⟨[(cH a0),(cD a1)],[(23,v1.1.length)]⟩) (λ_=>rfl) (by simp only[seval,FMB]) (by simp only[seval,FMB]) λv1=>.sB ?_)
 refine .seqK (.cond rfl (λh1=>?_) (λh1=>?_))
 refine .skip (Mir.toK (.seqK (Mir.joinO (λv4:(List aa)=>([U,U,.ptr 0 0,.ptr 1 0,U,U,U,U,.d (.int .i64 y2.1),U,.d (.int .i64 (zK.wrap y2.2)),.d (.int .i64 y3),.d (.int .i64 (zK.wrap (y3*y1.1))),.own 0 (zB bH v4),U,U,U,U,U,U,U,U,U,U,U,U,U,U,U,U,U,U,U,U,U,U,U,U,U,U,U,U,U,U,.d (.int .i64 y1.1),.d (.int .i64 v1.2)]++us 93)) (λv4=>⟨[(cH a0),(cD a1)],[(23,v4.length)]⟩) (λ_=>rfl) ?_ ?_)))
 refine .block (.sB ?_)
 refine .sB ?_
 refine .block (Mir.loop (λv2:(List aa)×Int=>([U,U,.ptr 0 0,.ptr 1 0,U,U,U,U,.d (.int .i64 y2.1),U,.d (.int .i64 (zK.wrap y2.2)),.d (.int .i64 y3),.d (.int .i64 (zK.wrap (y3*y1.1))),.own 0 (zB bH v2.1),.d (.int .i64 v1.2),.d (.int .i64 v2.2),U,U,U,U,U,U,U,U,U,U,U,U,U,U,U,U,U,U,U,U,U,U,U,U,U,U,U,U,.d (.int .i64 y1.1),.d (.int .i64 v1.2)]++us 93)) (λv2=>⟨[(cH a0),(cD a1)],[(23,v2.1.length)]⟩) (λ_=>rfl) (by simp only[seval,FMB]) (by simp only[seval,FMB]) λv2=>.seqK (.sB ?_))
 refine .cond rfl (λh2=>?_) (λh2=>?_)
 refine .skip (Mir.toK (.seqK (.block (.seqK (.guard λq1=>?_)))))
 replace q1:=ne_of q1
 refine .guard λq2=>?_
 replace q2:=ne_of q2
 refine .regionD [] (by kernel_rfl) λe h=>?_
 simp only[seval,EMB,SB,q1,q2]
 refine mU e (.seqK (.sB ?_)) h
 refine Mir.joinO (λv3:Int×Int=>([U,U,.ptr 0 0,.ptr 1 0,U,U,U,U,.d (.int .i64 y2.1),U,.d (.int .i64 (zK.wrap y2.2)),.d (.int .i64 y3),.d (.int .i64 (zK.wrap (y3*y1.1))),.own 0 (zB bH v2.1),.d (.int .i64 v1.2),.d (.int .i64 v2.2),.d (.int .i64 v3.1),.d (.int .i64 v3.2),U,U,U,U,U,U,U,U,U,U,U,U,U,U,U,U,U,U,U,U,U,U,U,U,U,U,.d (.int .i64 y1.1),.d (.int .i64 v1.2)]++us 93)) (λv3=>⟨[(cH a0),(cD a1)],[(23,v2.1.length)]⟩) (λ_=>rfl) ?_ ?_
 refine .cond rfl (λh3=>?_) (λh3=>?_)
 refine .bind λy4 h4=>.region λe h=>WB ?_
 refine .byB (kG h4) ?_
 simp only[seval,EMB]
 cases h
 simp only[seval,FMB]
 refine .bind λy5 h5=>.region λe h=>WB ?_
 refine .byB (kG h5) ?_
 simp only[seval,EMB]
 cases h
 simp only[seval,FMB]
 intro v3
 refine Mir.toK (.sB ?_)
 refine .bind λy6 h6=>.guard λq3=>.regionD [] (by kernel_rfl) λe h=>?_
 simp only[seval,EMB,SB]
 refine Spec.by (ip_floor_spec h6) (by simp only[seval,FMB]) ?_
 simp only[seval,EMB,SB,(oL 3),q3]
 refine mU e (.rB) h
 refine .exit QB
 intro v4
 refine Mir.toK (.rB)
 refine .exit QB
 intro v5
 refine Mir.toK (.sB ?_)
 refine .ret QB
def inp_arc(a0:am)(a1:au)(a2:aa)(a3:aa):Option ((List aw)×Int):=bindO (il a1 73) λ(y1:Int)=>bindO (il a1 74) λ(y2:Int)=>bindO (if (a0.Motion==3000)=true then some 4 else some 3) λ(v1:Int)=>bindO (ip_Arc a2 (aV.mk v1 a3 (be.mk (zK.wrap (a2.X+y1)) (zK.wrap (a2.Y+y2))) a0.Feed)) λ(y3:(List aa)×Int)=>bindO (aB (okIdx y3.1) ( aS (λ(i1:Nat) (e1:aa) (v2:(List aw))=>aB (okLen (v2.length+1)) ( some (.go (v2++[aw.mk e1 a0.Feed])))) (λ(v2:(List aw))=>some v2) y3.1 0 [])) λ(v3:(List aw))=>some (v3,y3.2)
theorem inp_arc_spec{a0:am}{a1:au}{a2:aa}{a3:aa}{y:(List aw)×Int}(h:inp_arc a0 a1 a2 a3=some y):Spec gP 121 [.agg (cB a0),.agg (cG a1),.agg (cH a2),.agg (cH a3)] (.tuple [.d (.list (zB aQ y.1)),.d (.int .i64 y.2)]):=by
 refine auB Tryz.func121 (λy:(List aw)×Int=>.tuple [.d (.list (zB aQ y.1)),.d (.int .i64 y.2)]) ?_ h
 unfold inp_arc
 refine .sB ?_
 refine .seqK (.bind λy1 hy1=>.bind λy2 hy2=>.regionD [] (by kernel_rfl) λe h=>?_)
 simp only[seval,EMB,SB]
 refine Spec.by (kH hy1) (by simp only[seval,FMB]) ?_
 simp only[seval,EMB,SB]
 refine Spec.by (kH hy2) (by simp only[seval,FMB]) ?_
 simp only[seval,EMB,SB]
 refine mU e (.seqK (.sB ?_)) h
 refine Mir.joinO (λv1:Int=>([U,U,U,U,.ptr 0 0,U,.ptr 2 0,U,U,U,.ptr 4 0]++us 46)) (λv1=>⟨[(cB a0),(cG a1),(cH a2),(cH a3),[.d (.int .i64 v1),.d (.int .i64 a3.X),.d (.int .i64 a3.Y),.d (.int .i64 a3.Z),.d (.int .i64 (zK.wrap (a2.X+y1))),.d (.int .i64 (zK.wrap (a2.Y+y2))),.d (.int .i64 a0.Feed)]],[]⟩) (λ_=>rfl) ?_ ?_
 refine .cond rfl (λ_=>.rB) (λ_=>.skip QB)
 intro v1
 refine Mir.toK (.seqK (.bind λy3 hy5=>.region λe h=>WB ?_))
 refine .byB (ip_Arc_spec hy5) (mB ?_ h)
 refine .sB ?_
 refine .seqK (.sB ?_)
 refine .gh [.slot 13 157] rfl (Mir.joinO (λv3:(List aw)=>([U,U,U,U,U,U,U,U,U,U,U,U,.d (.int .i64 y3.2),.own 0 (zB aQ v3)]++us 43)) (λv3=>⟨[(cB a0),(cG a1),(cH a2),(cH a3),[.d (.int .i64 v1),.d (.int .i64 a3.X),.d (.int .i64 a3.Y),.d (.int .i64 a3.Z),.d (.int .i64 (zK.wrap (a2.X+y1))),.d (.int .i64 (zK.wrap (a2.Y+y2))),.d (.int .i64 a0.Feed)]],[(157,v3.length)]⟩) (λ_=>rfl) ?_ ?_)
 refine .block (.guard λqg70=>Mir.range (λ(i1:Nat) (v2:(List aw))=>([U,U,U,U,.ptr 0 0,U,U,U,U,U,U,U,.d (.int .i64 y3.2),.own 0 (zB aQ v2),U,U,U,U,U,U,U,U,U,U,U,U,U,U,U,U,U,U,U,U,U,U,U,U,U,U,U,.d (.list (zB bH y3.1)),.d (.int .i64 (y3.1.length:Int)),.d (.int .i64 (i1:Int))]++us 13)) (λi1 v2=>⟨[(cB a0),(cG a1),(cH a2),(cH a3),[.d (.int .i64 v1),.d (.int .i64 a3.X),.d (.int .i64 a3.Y),.d (.int .i64 a3.Z),.d (.int .i64 (zK.wrap (a2.X+y1))),.d (.int .i64 (zK.wrap (a2.Y+y2))),.d (.int .i64 a0.Feed)]],[(157,v2.length)]⟩) qg70 (λ_ _=>rfl) (by simp only[seval,FMB,zNI]) (by simp only[seval,FMB,zNI]) ?_ ?_)
 intro i1 e1 v2 qr68
 refine .sR λe h=>?_
 simp only[seval,EMB,qr68]
 refine mU e (.seqK (.condT rfl (.skip (Mir.toK (.seqK (.block (.sR λe h=>?_))))))) h
 simp only[seval,EMB,qr68,zE]
 refine mU e (.guard λq72=>.region λe h=>?_) h
 simp only[seval,EMB,(oL 4),q72]
 refine mU e (.region λe h=>?_) h
 simp only[seval,EMB]
 cases h
 simp only[seval,FMB,qr68]
 intro v2 qd69
 refine .sR λe h=>?_
 simp only[seval,EMB,qd69]
 refine mU e (.seqK (.condF rfl (.exit QB))) h
 intro v3
 refine Mir.toK (.sB ?_)
 refine .ret QB
def eH(a0:am)(a1:ap)(a2:au)(a3:aa):Option ((List aw)×ap×Int):=bindO (im a0 (au.mk a2.Skip a2.Words a2.Comment) a3) λ(y1:aa)=>if (a0.Motion==0)=true then some ([aw.mk y1 0],ap.mk 0 0 0 0 0 0 false,0)else if (a0.Motion==1000)=true then some ([aw.mk y1 a0.Feed],ap.mk 0 0 0 0 0 0 false,0)else bindO (dE a0.Motion) λ(y2:Bool)=>if y2=true then none else bindO (inp_arc (am.mk a0.Motion a0.Distance a0.Work a0.Length a0.Return a0.Feed a0.Tool a0.Offset) (au.mk a2.Skip a2.Words a2.Comment) a3 y1) λ(y3:(List aw)×Int)=>some (y3.1,ap.mk 0 0 0 0 0 0 false,y3.2)
theorem inp_positions_spec{a0:am}{a1:ap}{a2:au}{a3:aa}{y:(List aw)×ap×Int}(h:eH a0 a1 a2 a3=some y):Spec gP 86 [.agg (cB a0),.agg (cC a1),.agg (cG a2),.agg (cH a3)] (.tuple [.d (.list (zB aQ y.1)),.agg [.d (.int .i64 y.2.1.Code),.d (.int .i64 y.2.1.R),.d (.int .i64 y.2.1.Z),.d (.int .i64 y.2.1.Q),.d (.int .i64 y.2.1.Rate),.d (.int .i64 y.2.1.Initial),.d (.bool y.2.1.High)],.d (.int .i64 y.2.2)]):=by
 refine auB Tryz.func86 (λy:(List aw)×ap×Int=>.tuple [.d (.list (zB aQ y.1)),.agg [.d (.int .i64 y.2.1.Code),.d (.int .i64 y.2.1.R),.d (.int .i64 y.2.1.Z),.d (.int .i64 y.2.1.Q),.d (.int .i64 y.2.1.Rate),.d (.int .i64 y.2.1.Initial),.d (.bool y.2.1.High)],.d (.int .i64 y.2.2)]) ?_ h
 unfold eH
 refine .sB ?_
 refine .seqK (.bind λy1 hy1=>.region λe h=>WB ?_)
 refine .byB (inp_target_spec hy1) (mB ?_ h)
 refine .seqK (.block (.sB ?_))
 refine .cond rfl (λhb10=>?_) (λhb10=>?_)
 refine .sR λe h=>?_
 simp only[seval,EMB,(oL 4)]
 refine mU e (.ret QB) h
 refine .sB ?_
 refine .cond rfl (λhb14=>?_) (λhb14=>?_)
 refine .sR λe h=>?_
 simp only[seval,EMB,(oL 4)]
 refine mU e (.ret QB) h
 refine .seqK (.bind λy2 hy15=>.region λe h=>WB ?_)
 refine .byB (dp hy15) (mB ?_ h)
 refine .cond rfl (λhb17=>?_) (λhb17=>?_)
 exact Mir.no
 refine .skip (Mir.toB (Mir.toK (.seqK (.bind λy3 hy18=>.region λe h=>WB ?_))))
 refine .byB (inp_arc_spec hy18) (mB ?_ h)
 refine .sB ?_
 refine .ret QB
def dw(a0:al)(a1:Int)(a2:Int)(a3:aa):Option (aa×Int):=bindO (eY a0 a1 a2) λ(y1:aa×Int)=>if (y1.2 != 0)=true then some (aa.mk 0 0 0,y1.2)else bindO (gq a3 y1.1 1) λ(y2:aa×Int)=>some (y2.1,y2.2)
theorem tb_Machine_spec{a0:al}{a1:Int}{a2:Int}{a3:aa}{y:aa×Int}(h:dw a0 a1 a2 a3=some y):Spec gP 87 [.agg (w6 a0.Work [.d (.list (zB ag a0.Lengths))]),.d (.int .i64 a1),.d (.int .i64 a2),.agg (cH a3)] (.tuple [.agg [.d (.int .i64 y.1.X),.d (.int .i64 y.1.Y),.d (.int .i64 y.1.Z)],.d (.int .i64 y.2)]):=by
 refine auB Tryz.func87 (λy:aa×Int=>.tuple [.agg [.d (.int .i64 y.1.X),.d (.int .i64 y.1.Y),.d (.int .i64 y.1.Z)],.d (.int .i64 y.2)]) ?_ h
 unfold dw
 refine .sB ?_
 refine .seqK (.bind λy1 hy1=>.region λe h=>WB ?_)
 refine .byB (kn hy1) (mB ?_ h)
 refine .seqK (.sB ?_)
 refine .cond rfl (λhb3=>?_) (λhb3=>?_)
 refine .sB ?_
 refine .ret QB
 refine .skip (Mir.toK (.seqK (.bind λy2 hy4=>.region λe h=>WB ?_)))
 refine .byB (tb_moved_spec hy4) (mB ?_ h)
 refine .ret QB
def fG(a0:am)(a1:ap)(a2:au)(a3:al)(a4:aa):Option ((List ah)×am×ap×Int):=bindO (bU a3 a4) λ(y1:Int)=>if (y1 != 0)=true then bindO (some ()) λ(v1:Unit)=>some ([],am.mk 0 0 0 0 0 0 0 0,ap.mk 0 0 0 0 0 0 false,y1)else bindO (bindO (kf a2) λ(y2:Int)=>if (y2 != 0)=true then some true else bindO (iM a2) λ(y3:Int)=>if (y3 != 0)=true then some true else bindO (io a2) λ(y4:Bool)=>some (!y4)) λ(v2:Bool)=>if v2=true then bindO (some ()) λ(v3:Unit)=>some ([],am.mk 0 0 0 0 0 0 0 0,ap.mk 0 0 0 0 0 0 false,1)else bindO (md_Apply a0 a2) λ(y5:am×Int)=>if (y5.2 != 0)=true then bindO (some ()) λ(v4:Unit)=>some ([],am.mk 0 0 0 0 0 0 0 0,ap.mk 0 0 0 0 0 0 false,y5.2)else bindO (dE y5.1.Motion) λ(y6:Bool)=>bindO (if (!y6)=true then some (ap.mk 0 0 0 0 0 0 false)else some (ap.mk a1.Code a1.R a1.Z a1.Q a1.Rate a1.Initial a1.High)) λ(v5:ap)=>bindO (fk a2 [88,89,90,73,74,81,82]) λ(y7:Bool)=>if (!y7)=true then some ([],y5.1,v5,0)else bindO (bindO (fk a2 [73,74]) λ(y8:Bool)=>if y8=true then if (y5.1.Motion != 2000)=true then if (y5.1.Motion != 3000)=true then some true else bindO (fk a2 [81,82]) λ(y9:Bool)=>if y9=true then bindO (dE y5.1.Motion) λ(y10:Bool)=>some (!y10)else some false else bindO (fk a2 [81,82]) λ(y11:Bool)=>if y11=true then bindO (dE y5.1.Motion) λ(y12:Bool)=>some (!y12)else some false else bindO (fk a2 [81,82]) λ(y13:Bool)=>if y13=true then bindO (dE y5.1.Motion) λ(y14:Bool)=>some (!y14)else some false) λ(v6:Bool)=>if v6=true then bindO (some ()) λ(v7:Unit)=>some ([],am.mk 0 0 0 0 0 0 0 0,ap.mk 0 0 0 0 0 0 false,1)else if ((y5.1.Motion==80000)||((y5.1.Motion != 0)&&(decide (y5.1.Feed≤0))))=true then bindO (some ()) λ(v8:Unit)=>some ([],am.mk 0 0 0 0 0 0 0 0,ap.mk 0 0 0 0 0 0 false,13)else bindO (if (y5.1.Length==43000)=true then some (zK.wrap (zH y5.1.Offset 1000))else some 0) λ(v9:Int)=>bindO (iA (al.mk a3.Work a3.Lengths) y5.1.Work v9 a4) λ(y15:aa×Int)=>if (y15.2 != 0)=true then bindO (some ()) λ(v10:Unit)=>some ([],am.mk 0 0 0 0 0 0 0 0,ap.mk 0 0 0 0 0 0 false,y15.2)else bindO (eH y5.1 v5 (au.mk a2.Skip a2.Words a2.Comment) y15.1) λ(y16:(List aw)×ap×Int)=>if (y16.2.2 != 0)=true then bindO (some ()) λ(v11:Unit)=>some ([],am.mk 0 0 0 0 0 0 0 0,ap.mk 0 0 0 0 0 0 false,y16.2.2)else bindX (aB (okIdx y16.1) ( aS (λ(i1:Nat) (e1:aw) (v12:(List ah)×aa)=>bindO (dw (al.mk a3.Work a3.Lengths) y5.1.Work v9 e1.at_) λ(y17:aa×Int)=>if (y17.2 != 0)=true then bindO (some ()) λ(v13:Unit)=>some (.ret (.ret ([],am.mk 0 0 0 0 0 0 0 0,ap.mk 0 0 0 0 0 0 false,y17.2)))else bindO (if (!((y17.1.X==v12.2.X)&&((y17.1.Y==v12.2.Y)&&(y17.1.Z==v12.2.Z))))=true then aB (okLen (v12.1.length+1)) ( some (v12.1++[ah.mk v12.2 y17.1 e1.rate (zK.wrap (zH y5.1.Tool 1000)) 0]))else some v12.1) λ(v14:(List ah))=>some (.go (v14,y17.1))) (λ(v12:(List ah)×aa)=>some (.go (v12.1,v12.2))) y16.1 0 ([],a4))) λ(v15:(List ah)×aa)=>some (v15.1,y5.1,y16.2.1,0)
theorem inp_Step_specX{a0:am}{a1:ap}{a2:au}{a3:al}{a4:aa}{y:(List ah)×am×ap×Int}(h:fG a0 a1 a2 a3 a4=some y):SpecX gP 43 [.agg (cB a0),.agg (cC a1),.agg (cG a2),.agg (w6 a3.Work [.d (.list (zB ag a3.Lengths))]),.agg (cH a4)] 69 (zB ac y.1) [.agg [.d (.int .i64 y.2.1.Motion),.d (.int .i64 y.2.1.Distance),.d (.int .i64 y.2.1.Work),.d (.int .i64 y.2.1.Length),.d (.int .i64 y.2.1.Return),.d (.int .i64 y.2.1.Feed),.d (.int .i64 y.2.1.Tool),.d (.int .i64 y.2.1.Offset)],.agg [.d (.int .i64 y.2.2.1.Code),.d (.int .i64 y.2.2.1.R),.d (.int .i64 y.2.2.1.Z),.d (.int .i64 y.2.2.1.Q),.d (.int .i64 y.2.2.1.Rate),.d (.int .i64 y.2.2.1.Initial),.d (.bool y.2.2.1.High)],.d (.int .i64 y.2.2.2)]:=by
 refine specX_mir Tryz.func43 rfl (by kernel_rfl) (by kernel_rfl) (λy:(List ah)×am×ap×Int=>zB ac y.1) (λy:(List ah)×am×ap×Int=>[.agg [.d (.int .i64 y.2.1.Motion),.d (.int .i64 y.2.1.Distance),.d (.int .i64 y.2.1.Work),.d (.int .i64 y.2.1.Length),.d (.int .i64 y.2.1.Return),.d (.int .i64 y.2.1.Feed),.d (.int .i64 y.2.1.Tool),.d (.int .i64 y.2.1.Offset)],.agg [.d (.int .i64 y.2.2.1.Code),.d (.int .i64 y.2.2.1.R),.d (.int .i64 y.2.2.1.Z),.d (.int .i64 y.2.2.1.Q),.d (.int .i64 y.2.2.1.Rate),.d (.int .i64 y.2.2.1.Initial),.d (.bool y.2.2.1.High)],.d (.int .i64 y.2.2.2)]) (sc_map (λ_=>rfl) _) (by rw[show Tryz.prog.cellsOf 69=9 from (by kernel_rfl)];exact jI) rfl ?_ h
 unfold fG
 simp only[zF,zG,nS,nA,Tryz.ntmps43,SV]
 refine .sB ?_
 refine .seqK (.seqK (.bind λy1 hy1=>.region λe h=>WB ?_))
 refine .byB (je hy1) (mB ?_ h)
 refine .sB ?_
 refine .cond rfl (λhb4=>?_) (λhb4=>?_)
 refine .seqK (.bind λv1 hv5=>.region λe h=>WB ?_)
 refine SpecS.inl Tryz.func78 rfl (by kernel_rfl) (by kernel_rfl) (λv1:Unit=>.tuple [.nil,.agg [.d (.int .i64 0),.d (.int .i64 0),.d (.int .i64 0),.d (.int .i64 0),.d (.int .i64 0),.d (.int .i64 0),.d (.int .i64 0),.d (.int .i64 0)],.agg [.d (.int .i64 0),.d (.int .i64 0),.d (.int .i64 0),.d (.int .i64 0),.d (.int .i64 0),.d (.int .i64 0),.d (.bool false)],.d (.int .i64 y1)]) (λv1=>⟨[(cB a0),(cC a1),(cG a2),(w6 a3.Work [.d (.list (zB ag a3.Lengths))]),(cH a4),[.d (.int .i64 0),.d (.int .i64 0),.d (.int .i64 0),.d (.int .i64 0),.d (.int .i64 0),.d (.int .i64 0),.d (.int .i64 0),.d (.int .i64 0)],[.d (.int .i64 0),.d (.int .i64 0),.d (.int .i64 0),.d (.int .i64 0),.d (.int .i64 0),.d (.int .i64 0),.d (.bool false)]],[]⟩) hv5 rfl ?_ ?_
 simp only[zF,zG,nS,nA,Tryz.ntmps78,SV]
 refine .sB ?_
 refine .sB ?_
 refine .ret QB
 simp only[seval,EMB]
 refine mU e (.ret λe h=>?_) h
 cases h
 simp only[seval,FMB,fx_r,fx_n,xr_o,xr_n,rowT]
 refine .skip (Mir.toK (.seqK (.seqK (Mir.joinO (λv2:Bool=>([U,U,U,U,U,.ptr 0 0,.ptr 1 0,.ptr 2 0,.ptr 3 0,.ptr 4 0,U,.ptr 5 0,.ptr 6 0,U,U,U,U,U,U,U,U,U,U,U,U,U,U,U,U,U,U,U,U,U,U,U,U,U,U,U,U,U,U,U,U,U,U,.d (.bool v2)]++us 157)) (λv2=>⟨[(cB a0),(cC a1),(cG a2),(w6 a3.Work [.d (.list (zB ag a3.Lengths))]),(cH a4),[.d (.int .i64 0),.d (.int .i64 0),.d (.int .i64 0),.d (.int .i64 0),.d (.int .i64 0),.d (.int .i64 0),.d (.int .i64 0),.d (.int .i64 0)],[.d (.int .i64 0),.d (.int .i64 0),.d (.int .i64 0),.d (.int .i64 0),.d (.int .i64 0),.d (.int .i64 0),.d (.bool false)]],[]⟩) (λ_=>rfl) ?_ ?_))))
 refine .bind λy2 hy6=>.ite (λhb7=>?_) (λhb7=>?_)
 refine .region λe h=>?_
 simp only[seval,EMB,hb7]
 refine SpecS.by (i8 hy6) (by simp only[seval,FMB,hb7]) ?_
 simp only[seval,EMB,hb7]
 cases h
 simp only[seval,FMB,hb7]
 refine .bind λy3 hy8=>.ite (λhb9=>?_) (λhb9=>?_)
 refine .region λe h=>?_
 simp only[seval,EMB,hb7,hb9]
 refine SpecS.by (i8 hy6) (by simp only[seval,FMB,hb7,hb9]) ?_
 simp only[seval,EMB,hb7,hb9]
 refine SpecS.by (iL hy8) (by simp only[seval,FMB,hb7,hb9]) ?_
 simp only[seval,EMB,hb7,hb9]
 cases h
 simp only[seval,FMB,hb7,hb9]
 refine .bind λy4 hy10=>.region λe h=>?_
 simp only[seval,EMB,hb7,hb9]
 refine SpecS.by (i8 hy6) (by simp only[seval,FMB,hb7,hb9]) ?_
 simp only[seval,EMB,hb7,hb9]
 refine SpecS.by (iL hy8) (by simp only[seval,FMB,hb7,hb9]) ?_
 simp only[seval,EMB,hb7,hb9]
 refine SpecS.by (inp_known_spec hy10) (by simp only[seval,FMB,hb7,hb9]) ?_
 simp only[seval,EMB,hb7,hb9]
 cases h
 simp only[seval,FMB,hb7,hb9]
 intro v2
 refine Mir.toK (.cond rfl (λhb13=>?_) (λhb13=>?_))
 refine .seqK (.bind λv3 hv14=>.region λe h=>WB ?_)
 refine SpecS.inl Tryz.func78 rfl (by kernel_rfl) (by kernel_rfl) (λv3:Unit=>.tuple [.nil,.agg [.d (.int .i64 0),.d (.int .i64 0),.d (.int .i64 0),.d (.int .i64 0),.d (.int .i64 0),.d (.int .i64 0),.d (.int .i64 0),.d (.int .i64 0)],.agg [.d (.int .i64 0),.d (.int .i64 0),.d (.int .i64 0),.d (.int .i64 0),.d (.int .i64 0),.d (.int .i64 0),.d (.bool false)],.d (.int .i64 1)]) (λv3=>⟨[(cB a0),(cC a1),(cG a2),(w6 a3.Work [.d (.list (zB ag a3.Lengths))]),(cH a4),[.d (.int .i64 0),.d (.int .i64 0),.d (.int .i64 0),.d (.int .i64 0),.d (.int .i64 0),.d (.int .i64 0),.d (.int .i64 0),.d (.int .i64 0)],[.d (.int .i64 0),.d (.int .i64 0),.d (.int .i64 0),.d (.int .i64 0),.d (.int .i64 0),.d (.int .i64 0),.d (.bool false)]],[]⟩) hv14 rfl ?_ ?_
 simp only[zF,zG,nS,nA,Tryz.ntmps78,SV]
 refine .sB ?_
 refine .sB ?_
 refine .ret QB
 simp only[seval,EMB]
 refine mU e (.ret λe h=>?_) h
 cases h
 simp only[seval,FMB,fx_r,fx_n,xr_o,xr_n,rowT]
 refine .skip (Mir.toK (.seqK (.bind λy5 hy15=>.region λe h=>WB ?_)))
 refine .byB (md_Apply_spec hy15) (mB ?_ h)
 refine .seqK (.sB ?_)
 refine .cond rfl (λhb18=>?_) (λhb18=>?_)
 refine .seqK (.bind λv4 hv19=>.region λe h=>WB ?_)
 refine SpecS.inl Tryz.func78 rfl (by kernel_rfl) (by kernel_rfl) (λv4:Unit=>.tuple [.nil,.agg [.d (.int .i64 0),.d (.int .i64 0),.d (.int .i64 0),.d (.int .i64 0),.d (.int .i64 0),.d (.int .i64 0),.d (.int .i64 0),.d (.int .i64 0)],.agg [.d (.int .i64 0),.d (.int .i64 0),.d (.int .i64 0),.d (.int .i64 0),.d (.int .i64 0),.d (.int .i64 0),.d (.bool false)],.d (.int .i64 y5.2)]) (λv4=>⟨[(cB y5.1),(cC a1),(cG a2),(w6 a3.Work [.d (.list (zB ag a3.Lengths))]),(cH a4),[.d (.int .i64 0),.d (.int .i64 0),.d (.int .i64 0),.d (.int .i64 0),.d (.int .i64 0),.d (.int .i64 0),.d (.int .i64 0),.d (.int .i64 0)],[.d (.int .i64 0),.d (.int .i64 0),.d (.int .i64 0),.d (.int .i64 0),.d (.int .i64 0),.d (.int .i64 0),.d (.bool false)]],[]⟩) hv19 rfl ?_ ?_
 simp only[zF,zG,nS,nA,Tryz.ntmps78,SV]
 refine .sB ?_
 refine .sB ?_
 refine .ret QB
 simp only[seval,EMB]
 refine mU e (.ret λe h=>?_) h
 cases h
 simp only[seval,FMB,fx_r,fx_n,xr_o,xr_n,rowT]
 refine .skip (Mir.toK (.seqK (.seqK (.bind λy6 hy20=>.region λe h=>WB ?_))))
 refine .byB (dp hy20) (mB ?_ h)
 refine Mir.joinO (λv5:ap=>([U,U,U,U,U,.ptr 0 0,.ptr 1 0,.ptr 2 0,.ptr 3 0,.ptr 4 0,U,.ptr 5 0,.ptr 6 0]++us 192)) (λv5=>⟨[(cB y5.1),(cC v5),(cG a2),(w6 a3.Work [.d (.list (zB ag a3.Lengths))]),(cH a4),[.d (.int .i64 0),.d (.int .i64 0),.d (.int .i64 0),.d (.int .i64 0),.d (.int .i64 0),.d (.int .i64 0),.d (.int .i64 0),.d (.int .i64 0)],[.d (.int .i64 0),.d (.int .i64 0),.d (.int .i64 0),.d (.int .i64 0),.d (.int .i64 0),.d (.int .i64 0),.d (.bool false)]],[]⟩) (λ_=>rfl) ?_ ?_
 refine .cond rfl (λ_=>.rB) (λ_=>.skip QB)
 intro v5
 refine Mir.toK (.seqK (.seqK (.bind λy7 hy23=>.region λe h=>WB ?_)))
 refine .byB (bx hy23) (mB ?_ h)
 refine .cond rfl (λhb25=>?_) (λhb25=>?_)
 refine .seqK (.regionD [(6,11)] (by kernel_rfl) λe h=>?_)
 simp only[seval,EMB,SB]
 refine mU e (.ret λe h=>?_) h
 cases h
 simp only[seval,FMB,fx_r,fx_n,xr_o,xr_n,rowT]
 refine .skip (Mir.toK (.seqK (.seqK (Mir.joinO (λv6:Bool=>([U,U,U,U,U,.ptr 0 0,.ptr 1 0,.ptr 2 0,.ptr 3 0,.ptr 4 0,U,.ptr 5 0,.ptr 6 0,U,U,U,U,U,U,U,U,U,U,U,U,U,U,U,U,U,U,U,U,U,U,U,U,U,U,U,U,U,U,U,U,U,U,U,U,U,U,U,U,U,U,U,U,U,U,U,U,U,U,U,U,U,U,U,U,U,U,U,U,U,U,U,U,U,U,U,U,U,U,U,U,U,U,U,U,U,U,U,U,U,U,U,U,U,.d (.bool v6)]++us 106)) (λv6=>⟨[(cB y5.1),(cC v5),(cG a2),(w6 a3.Work [.d (.list (zB ag a3.Lengths))]),(cH a4),[.d (.int .i64 0),.d (.int .i64 0),.d (.int .i64 0),.d (.int .i64 0),.d (.int .i64 0),.d (.int .i64 0),.d (.int .i64 0),.d (.int .i64 0)],[.d (.int .i64 0),.d (.int .i64 0),.d (.int .i64 0),.d (.int .i64 0),.d (.int .i64 0),.d (.int .i64 0),.d (.bool false)]],[]⟩) (λ_=>rfl) ?_ ?_))))
 refine .bind λy8 hy26=>.ite (λhb27=>?_) (λhb27=>?_)
 refine .ite (λhb28=>?_) (λhb28=>?_)
 refine .ite (λhb29=>?_) (λhb29=>?_)
 refine .region λe h=>?_
 simp only[seval,EMB,hb27,hb28,hb29]
 refine SpecS.by (bx hy26) (by simp only[seval,FMB,hb27,hb28,hb29]) ?_
 simp only[seval,EMB,hb27,hb28,hb29]
 cases h
 simp only[seval,FMB,hb27,hb28,hb29]
 refine .bind λy9 hy30=>.ite (λhb31=>?_) (λhb31=>?_)
 refine .bind λy10 hy32=>.region λe h=>?_
 simp only[seval,EMB,hb27,hb28,hb29,hb31]
 refine SpecS.by (bx hy26) (by simp only[seval,FMB,hb27,hb28,hb29,hb31]) ?_
 simp only[seval,EMB,hb27,hb28,hb29,hb31]
 refine SpecS.by (bx hy30) (by simp only[seval,FMB,hb27,hb28,hb29,hb31]) ?_
 simp only[seval,EMB,hb27,hb28,hb29,hb31]
 refine SpecS.by (dp hy32) (by simp only[seval,FMB,hb27,hb28,hb29,hb31]) ?_
 simp only[seval,EMB,hb27,hb28,hb29,hb31]
 cases h
 simp only[seval,FMB,hb27,hb28,hb29,hb31]
 refine .region λe h=>?_
 simp only[seval,EMB,hb27,hb28,hb29,hb31]
 refine SpecS.by (bx hy26) (by simp only[seval,FMB,hb27,hb28,hb29,hb31]) ?_
 simp only[seval,EMB,hb27,hb28,hb29,hb31]
 refine SpecS.by (bx hy30) (by simp only[seval,FMB,hb27,hb28,hb29,hb31]) ?_
 simp only[seval,EMB,hb27,hb28,hb29,hb31]
 cases h
 simp only[seval,FMB,hb27,hb28,hb29,hb31]
 refine .bind λy11 hy33=>.ite (λhb34=>?_) (λhb34=>?_)
 refine .bind λy12 hy35=>.region λe h=>?_
 simp only[seval,EMB,hb27,hb28,hb34]
 refine SpecS.by (bx hy26) (by simp only[seval,FMB,hb27,hb28,hb34]) ?_
 simp only[seval,EMB,hb27,hb28,hb34]
 refine SpecS.by (bx hy33) (by simp only[seval,FMB,hb27,hb28,hb34]) ?_
 simp only[seval,EMB,hb27,hb28,hb34]
 refine SpecS.by (dp hy35) (by simp only[seval,FMB,hb27,hb28,hb34]) ?_
 simp only[seval,EMB,hb27,hb28,hb34]
 cases h
 simp only[seval,FMB,hb27,hb28,hb34]
 refine .region λe h=>?_
 simp only[seval,EMB,hb27,hb28,hb34]
 refine SpecS.by (bx hy26) (by simp only[seval,FMB,hb27,hb28,hb34]) ?_
 simp only[seval,EMB,hb27,hb28,hb34]
 refine SpecS.by (bx hy33) (by simp only[seval,FMB,hb27,hb28,hb34]) ?_
 simp only[seval,EMB,hb27,hb28,hb34]
 cases h
 simp only[seval,FMB,hb27,hb28,hb34]
 refine .bind λy13 hy36=>.ite (λhb37=>?_) (λhb37=>?_)
 refine .bind λy14 hy38=>.region λe h=>?_
 simp only[seval,EMB,hb27,hb37]
 refine SpecS.by (bx hy26) (by simp only[seval,FMB,hb27,hb37]) ?_
 simp only[seval,EMB,hb27,hb37]
 refine SpecS.by (bx hy36) (by simp only[seval,FMB,hb27,hb37]) ?_
 simp only[seval,EMB,hb27,hb37]
 refine SpecS.by (dp hy38) (by simp only[seval,FMB,hb27,hb37]) ?_
 simp only[seval,EMB,hb27,hb37]
 cases h
 simp only[seval,FMB,hb27,hb37]
 refine .region λe h=>?_
 simp only[seval,EMB,hb27,hb37]
 refine SpecS.by (bx hy26) (by simp only[seval,FMB,hb27,hb37]) ?_
 simp only[seval,EMB,hb27,hb37]
 refine SpecS.by (bx hy36) (by simp only[seval,FMB,hb27,hb37]) ?_
 simp only[seval,EMB,hb27,hb37]
 cases h
 simp only[seval,FMB,hb27,hb37]
 intro v6
 refine Mir.toK (.cond rfl (λhb41=>?_) (λhb41=>?_))
 refine .seqK (.bind λv7 hv42=>.region λe h=>WB ?_)
 refine SpecS.inl Tryz.func78 rfl (by kernel_rfl) (by kernel_rfl) (λv7:Unit=>.tuple [.nil,.agg [.d (.int .i64 0),.d (.int .i64 0),.d (.int .i64 0),.d (.int .i64 0),.d (.int .i64 0),.d (.int .i64 0),.d (.int .i64 0),.d (.int .i64 0)],.agg [.d (.int .i64 0),.d (.int .i64 0),.d (.int .i64 0),.d (.int .i64 0),.d (.int .i64 0),.d (.int .i64 0),.d (.bool false)],.d (.int .i64 1)]) (λv7=>⟨[(cB y5.1),(cC v5),(cG a2),(w6 a3.Work [.d (.list (zB ag a3.Lengths))]),(cH a4),[.d (.int .i64 0),.d (.int .i64 0),.d (.int .i64 0),.d (.int .i64 0),.d (.int .i64 0),.d (.int .i64 0),.d (.int .i64 0),.d (.int .i64 0)],[.d (.int .i64 0),.d (.int .i64 0),.d (.int .i64 0),.d (.int .i64 0),.d (.int .i64 0),.d (.int .i64 0),.d (.bool false)]],[]⟩) hv42 rfl ?_ ?_
 simp only[zF,zG,nS,nA,Tryz.ntmps78,SV]
 refine .sB ?_
 refine .sB ?_
 refine .ret QB
 simp only[seval,EMB]
 refine mU e (.ret λe h=>?_) h
 cases h
 simp only[seval,FMB,fx_r,fx_n,xr_o,xr_n,rowT]
 refine .skip (Mir.toK (.seqK (.seqK (.joinV ([U,U,U,U,U,.ptr 0 0,.ptr 1 0,.ptr 2 0,.ptr 3 0,.ptr 4 0,U,.ptr 5 0,.ptr 6 0,U,U,U,U,U,U,U,U,U,U,U,U,U,U,U,U,U,U,U,U,U,U,U,U,U,U,U,U,U,U,U,U,U,U,U,U,U,U,U,U,U,U,U,U,U,U,U,U,U,U,U,U,U,U,U,U,U,U,U,U,U,U,U,U,U,U,U,U,U,U,U,U,U,U,U,U,U,U,U,U,U,U,U,U,U,U,U,U,U,U,U,U,U,U,U,U,U,U,U,U,U,U,U,.d (.bool ((y5.1.Motion==80000)||((y5.1.Motion != 0)&&(decide (y5.1.Feed≤0)))))]++us 88) ⟨[(cB y5.1),(cC v5),(cG a2),(w6 a3.Work [.d (.list (zB ag a3.Lengths))]),(cH a4),[.d (.int .i64 0),.d (.int .i64 0),.d (.int .i64 0),.d (.int .i64 0),.d (.int .i64 0),.d (.int .i64 0),.d (.int .i64 0),.d (.int .i64 0)],[.d (.int .i64 0),.d (.int .i64 0),.d (.int .i64 0),.d (.int .i64 0),.d (.int .i64 0),.d (.int .i64 0),.d (.bool false)]],[]⟩ rfl ?_ ?_))))
 refine SWs.region ?_
 rcases zD (y5.1.Motion==80000)with hb43 | hb43
 simp only[seval,EMB,SL,PB,hb43]
 rcases zD (y5.1.Motion != 0)with hb44 | hb44
 simp only[seval,EMB,SL,PB,hb43,hb44]
 simp only[seval,EMB,SL,PB,hb43,hb44]
 refine Mir.toK (.cond rfl (λhb47=>?_) (λhb47=>?_))
 refine .seqK (.bind λv8 hv48=>.region λe h=>WB ?_)
 refine SpecS.inl Tryz.func78 rfl (by kernel_rfl) (by kernel_rfl) (λv8:Unit=>.tuple [.nil,.agg [.d (.int .i64 0),.d (.int .i64 0),.d (.int .i64 0),.d (.int .i64 0),.d (.int .i64 0),.d (.int .i64 0),.d (.int .i64 0),.d (.int .i64 0)],.agg [.d (.int .i64 0),.d (.int .i64 0),.d (.int .i64 0),.d (.int .i64 0),.d (.int .i64 0),.d (.int .i64 0),.d (.bool false)],.d (.int .i64 13)]) (λv8=>⟨[(cB y5.1),(cC v5),(cG a2),(w6 a3.Work [.d (.list (zB ag a3.Lengths))]),(cH a4),[.d (.int .i64 0),.d (.int .i64 0),.d (.int .i64 0),.d (.int .i64 0),.d (.int .i64 0),.d (.int .i64 0),.d (.int .i64 0),.d (.int .i64 0)],[.d (.int .i64 0),.d (.int .i64 0),.d (.int .i64 0),.d (.int .i64 0),.d (.int .i64 0),.d (.int .i64 0),.d (.bool false)]],[]⟩) hv48 rfl ?_ ?_
 simp only[zF,zG,nS,nA,Tryz.ntmps78,SV]
 refine .sB ?_
 refine .sB ?_
 refine .ret QB
 simp only[seval,EMB]
 refine mU e (.ret λe h=>?_) h
 cases h
 simp only[seval,FMB,fx_r,fx_n,xr_o,xr_n,rowT]
 refine .skip (Mir.toK (.sB ?_))
 refine .seqK (.sB ?_)
 refine Mir.joinO (λv9:Int=>([U,U,U,U,U,.ptr 0 0,.ptr 1 0,.ptr 2 0,.ptr 3 0,.ptr 4 0,U,.ptr 5 0,.ptr 6 0,U,U,U,.d (.int .i64 v9)]++us 188)) (λv9=>⟨[(cB y5.1),(cC v5),(cG a2),(w6 a3.Work [.d (.list (zB ag a3.Lengths))]),(cH a4),[.d (.int .i64 0),.d (.int .i64 0),.d (.int .i64 0),.d (.int .i64 0),.d (.int .i64 0),.d (.int .i64 0),.d (.int .i64 0),.d (.int .i64 0)],[.d (.int .i64 0),.d (.int .i64 0),.d (.int .i64 0),.d (.int .i64 0),.d (.int .i64 0),.d (.int .i64 0),.d (.bool false)]],[]⟩) (λ_=>rfl) ?_ ?_
 refine .cond rfl (λ_=>.rB) (λ_=>.skip QB)
 intro v9
 refine Mir.toK (.seqK (.bind λy15 hy51=>.region λe h=>WB ?_))
 refine .byB (tb_Work_spec hy51) (mB ?_ h)
 refine .seqK (.sB ?_)
 refine .cond rfl (λhb54=>?_) (λhb54=>?_)
 refine .seqK (.bind λv10 hv55=>.region λe h=>WB ?_)
 refine SpecS.inl Tryz.func78 rfl (by kernel_rfl) (by kernel_rfl) (λv10:Unit=>.tuple [.nil,.agg [.d (.int .i64 0),.d (.int .i64 0),.d (.int .i64 0),.d (.int .i64 0),.d (.int .i64 0),.d (.int .i64 0),.d (.int .i64 0),.d (.int .i64 0)],.agg [.d (.int .i64 0),.d (.int .i64 0),.d (.int .i64 0),.d (.int .i64 0),.d (.int .i64 0),.d (.int .i64 0),.d (.bool false)],.d (.int .i64 y15.2)]) (λv10=>⟨[(cB y5.1),(cC v5),(cG a2),(w6 a3.Work [.d (.list (zB ag a3.Lengths))]),(cH a4),[.d (.int .i64 0),.d (.int .i64 0),.d (.int .i64 0),.d (.int .i64 0),.d (.int .i64 0),.d (.int .i64 0),.d (.int .i64 0),.d (.int .i64 0)],[.d (.int .i64 0),.d (.int .i64 0),.d (.int .i64 0),.d (.int .i64 0),.d (.int .i64 0),.d (.int .i64 0),.d (.bool false)],(cH y15.1)],[]⟩) hv55 rfl ?_ ?_
 simp only[zF,zG,nS,nA,Tryz.ntmps78,SV]
 refine .sB ?_
 refine .sB ?_
 refine .ret QB
 simp only[seval,EMB]
 refine mU e (.ret λe h=>?_) h
 cases h
 simp only[seval,FMB,fx_r,fx_n,xr_o,xr_n,rowT]
 refine .skip (Mir.toK (.seqK (.bind λy16 hy56=>.region λe h=>WB ?_)))
 refine .byB (inp_positions_spec hy56) (mB ?_ h)
 refine .seqK (.sB ?_)
 refine .cond rfl (λhb59=>?_) (λhb59=>?_)
 refine .seqK (.bind λv11 hv60=>.region λe h=>WB ?_)
 refine SpecS.inl Tryz.func78 rfl (by kernel_rfl) (by kernel_rfl) (λv11:Unit=>.tuple [.nil,.agg [.d (.int .i64 0),.d (.int .i64 0),.d (.int .i64 0),.d (.int .i64 0),.d (.int .i64 0),.d (.int .i64 0),.d (.int .i64 0),.d (.int .i64 0)],.agg [.d (.int .i64 0),.d (.int .i64 0),.d (.int .i64 0),.d (.int .i64 0),.d (.int .i64 0),.d (.int .i64 0),.d (.bool false)],.d (.int .i64 y16.2.2)]) (λv11=>⟨[(cB y5.1),(cC y16.2.1),(cG a2),(w6 a3.Work [.d (.list (zB ag a3.Lengths))]),(cH a4),[.d (.int .i64 0),.d (.int .i64 0),.d (.int .i64 0),.d (.int .i64 0),.d (.int .i64 0),.d (.int .i64 0),.d (.int .i64 0),.d (.int .i64 0)],[.d (.int .i64 0),.d (.int .i64 0),.d (.int .i64 0),.d (.int .i64 0),.d (.int .i64 0),.d (.int .i64 0),.d (.bool false)],(cH y15.1)],[]⟩) hv60 rfl ?_ ?_
 simp only[zF,zG,nS,nA,Tryz.ntmps78,SV]
 refine .sB ?_
 refine .sB ?_
 refine .ret QB
 simp only[seval,EMB]
 refine mU e (.ret λe h=>?_) h
 cases h
 simp only[seval,FMB,fx_r,fx_n,xr_o,xr_n,rowT]
 refine .skip (Mir.toK (.sB ?_))
 refine .seqK (.sB ?_)
 refine .gh [.slot 19 69] rfl (Mir.join (λv15:(List ah)×aa=>([U,U,U,U,U,.ptr 0 0,.ptr 1 0,U,U,U,U,.ptr 5 0,.ptr 6 0,U,U,U,U,U,U,.own 0 (zB ac v15.1)]++us 185)) (λv15=>⟨[(cB y5.1),(cC y16.2.1),(cG a2),(w6 a3.Work [.d (.list (zB ag a3.Lengths))]),(cH v15.2),[.d (.int .i64 0),.d (.int .i64 0),.d (.int .i64 0),.d (.int .i64 0),.d (.int .i64 0),.d (.int .i64 0),.d (.int .i64 0),.d (.int .i64 0)],[.d (.int .i64 0),.d (.int .i64 0),.d (.int .i64 0),.d (.int .i64 0),.d (.int .i64 0),.d (.int .i64 0),.d (.bool false)],(cH y15.1)],[(69,v15.1.length)]⟩) (λ_=>rfl) ?_ ?_)
 refine .block (.guard λq1=>Mir.range (λ(i1:Nat) (v12:(List ah)×aa)=>([U,U,U,U,U,.ptr 0 0,.ptr 1 0,U,.ptr 3 0,.ptr 4 0,U,.ptr 5 0,.ptr 6 0,U,U,U,.d (.int .i64 v9),U,U,.own 0 (zB ac v12.1),U,U,U,U,U,U,U,U,U,U,U,U,U,U,U,U,U,U,U,U,U,U,U,U,U,U,U,U,U,U,U,U,U,U,U,U,U,U,U,U,U,U,U,U,U,U,U,U,U,U,U,U,U,U,U,U,U,U,U,U,U,U,U,U,U,U,U,U,U,U,U,U,U,U,U,U,U,U,U,U,U,U,U,U,U,U,U,U,U,U,U,U,U,U,U,U,U,U,U,U,U,U,U,U,U,U,U,U,U,U,U,U,U,U,U,U,U,U,U,U,U,U,U,U,U,U,U,U,U,U,U,U,U,U,U,U,U,U,U,U,U,U,.d (.list (zB aQ y16.1)),.d (.int .i64 (y16.1.length:Int)),.d (.int .i64 (i1:Int))]++us 40)) (λi1 v12=>⟨[(cB y5.1),(cC y16.2.1),(cG a2),(w6 a3.Work [.d (.list (zB ag a3.Lengths))]),(cH v12.2),[.d (.int .i64 0),.d (.int .i64 0),.d (.int .i64 0),.d (.int .i64 0),.d (.int .i64 0),.d (.int .i64 0),.d (.int .i64 0),.d (.int .i64 0)],[.d (.int .i64 0),.d (.int .i64 0),.d (.int .i64 0),.d (.int .i64 0),.d (.int .i64 0),.d (.int .i64 0),.d (.bool false)],(cH y15.1)],[(69,v12.1.length)]⟩) q1 (λ_ _=>rfl) (by simp only[seval,FMB,zNI]) (by simp only[seval,FMB,zNI]) ?_ ?_)
 intro i1 e1 v12 q2
 refine .sR λe h=>?_
 simp only[seval,EMB,q2]
 refine mU e (.seqK (.condT rfl (.skip (Mir.toK (.seqK (.block (.sR λe h=>?_))))))) h
 simp only[seval,EMB,q2,zE]
 refine mU e (.seqK (.bind λy17 h1=>.region λe h=>WB ?_)) h
 refine .byB (tb_Machine_spec h1) (mB ?_ h)
 refine .seqK (.sB ?_)
 refine .cond rfl (λh2=>?_) (λh2=>?_)
 refine .seqK (.bind λv13 h3=>.region λe h=>WB ?_)
 refine SpecS.inl Tryz.func78 rfl (by kernel_rfl) (by kernel_rfl) (λv13:Unit=>.tuple [.nil,.agg [.d (.int .i64 0),.d (.int .i64 0),.d (.int .i64 0),.d (.int .i64 0),.d (.int .i64 0),.d (.int .i64 0),.d (.int .i64 0),.d (.int .i64 0)],.agg [.d (.int .i64 0),.d (.int .i64 0),.d (.int .i64 0),.d (.int .i64 0),.d (.int .i64 0),.d (.int .i64 0),.d (.bool false)],.d (.int .i64 y17.2)]) (λv13=>⟨[(cB y5.1),(cC y16.2.1),(cG a2),(w6 a3.Work [.d (.list (zB ag a3.Lengths))]),(cH v12.2),[.d (.int .i64 0),.d (.int .i64 0),.d (.int .i64 0),.d (.int .i64 0),.d (.int .i64 0),.d (.int .i64 0),.d (.int .i64 0),.d (.int .i64 0)],[.d (.int .i64 0),.d (.int .i64 0),.d (.int .i64 0),.d (.int .i64 0),.d (.int .i64 0),.d (.int .i64 0),.d (.bool false)],(cH y15.1),[.d (.int .i64 e1.at_.X),.d (.int .i64 e1.at_.Y),.d (.int .i64 e1.at_.Z),.d (.int .i64 e1.rate)],(cH y17.1)],[(69,v12.1.length)]⟩) h3 rfl ?_ ?_
 simp only[zF,zG,nS,nA,Tryz.ntmps78,SV]
 refine .sB ?_
 refine .sB ?_
 refine .ret QB
 simp only[seval,EMB]
 refine mU e (.ret λe h=>?_) h
 cases h
 simp only[seval,FMB,fx_r,fx_n,xr_o,xr_n,rowT]
 refine .skip (Mir.toK (.seqK (.sR λe h=>?_)))
 simp only[seval,EMB,gE_23]
 refine mU e (Mir.joinO (λv14:(List ah)=>([U,U,U,U,U,.ptr 0 0,.ptr 1 0,U,.ptr 3 0,.ptr 4 0,U,.ptr 5 0,.ptr 6 0,U,U,U,.d (.int .i64 v9),U,U,.own 0 (zB ac v14),U,U,.ptr 9 0,U,U,U,U,U,U,U,U,U,U,U,U,U,U,U,U,U,U,U,U,U,U,U,U,U,U,U,U,U,U,U,U,U,U,U,U,U,U,U,U,U,U,U,U,U,U,U,U,U,U,U,U,U,U,U,U,U,U,U,U,U,U,U,U,U,U,U,U,U,U,U,U,U,U,U,U,U,U,U,U,U,U,U,U,U,U,U,U,U,U,U,U,U,U,U,U,U,U,U,U,U,U,U,U,U,U,U,U,U,U,U,U,U,U,U,U,U,U,U,U,U,U,U,U,U,U,U,U,U,U,U,U,U,U,U,U,U,U,U,.d (.list (zB aQ y16.1)),.d (.int .i64 (y16.1.length:Int)),.d (.int .i64 (i1:Int))]++us 40)) (λv14=>⟨[(cB y5.1),(cC y16.2.1),(cG a2),(w6 a3.Work [.d (.list (zB ag a3.Lengths))]),(cH v12.2),[.d (.int .i64 0),.d (.int .i64 0),.d (.int .i64 0),.d (.int .i64 0),.d (.int .i64 0),.d (.int .i64 0),.d (.int .i64 0),.d (.int .i64 0)],[.d (.int .i64 0),.d (.int .i64 0),.d (.int .i64 0),.d (.int .i64 0),.d (.int .i64 0),.d (.int .i64 0),.d (.bool false)],(cH y15.1),[.d (.int .i64 e1.at_.X),.d (.int .i64 e1.at_.Y),.d (.int .i64 e1.at_.Z),.d (.int .i64 e1.rate)],(cH y17.1)],[(69,v14.length)]⟩) (λ_=>rfl) ?_ ?_) h
 refine .cond rfl (λh4=>?_) (λh4=>?_)
 refine .guard λq3=>.region λe h=>?_
 simp only[seval,EMB,(oL 9),q3]
 cases h
 simp only[seval,FMB]
 refine .skip QB
 intro v14
 refine Mir.toK (.region λe h=>WB ?_)
 refine mU e (.region λe h=>?_) h
 simp only[seval,EMB]
 cases h
 simp only[seval,FMB,q2]
 intro v12 q4
 refine .sR λe h=>?_
 simp only[seval,EMB,q4]
 refine mU e (.seqK (.condF rfl (.exit QB))) h
 intro v15
 refine Mir.toK (.seqK (.regionD [(6,11)] (by kernel_rfl) λe h=>?_))
 simp only[seval,EMB,SB]
 refine mU e (.ret λe h=>?_) h
 cases h
 simp only[seval,FMB,fx_r,fx_n,xr_o,xr_n,rowT]
def k7(a0:aa)(a1:(List ah)):Option aa:=if ((a1.length:Int)==0)=true then some a0 else bindO (gt a1 (zK.wrap ((a1.length:Int)-1))) λ(e1:ah)=>some e1.To
theorem bO{a0:aa}{a1:(List ah)}{y:aa}(h:k7 a0 a1=some y):Spec gP 44 [.agg (cH a0),.d (.list (zB ac a1))] (.agg [.d (.int .i64 y.X),.d (.int .i64 y.Y),.d (.int .i64 y.Z)]):=by
 refine auB Tryz.func44 (λy:aa=>.agg [.d (.int .i64 y.X),.d (.int .i64 y.Y),.d (.int .i64 y.Z)]) ?_ h
 unfold k7
 refine .sB ?_
 refine .seqK (.sB ?_)
 refine .cond rfl (λhb2=>?_) (λhb2=>?_)
 refine .sB ?_
 refine .ret QB
 refine .skip (Mir.toK (.seqK (.bind λe1 q3=>?_)))
 replace q3:=gt_ok q3
 refine .region λe h=>?_
 simp only[seval,EMB,q3]
 refine mU e (.ret QB) h
def gH(a0:au)(a1:Int):Option (List Int):=bindO (aB (okIdx a0.Words) ( aS (λ(i1:Nat) (e1:aN) (v1:(List Int))=>bindO (if (e1.Letter==a1)=true then aB (okLen (v1.length+1)) ( some (v1++[e1.Value]))else some v1) λ(v2:(List Int))=>some (.go v2)) (λ(v1:(List Int))=>some v1) a0.Words 0 [])) λ(v3:(List Int))=>some v3
theorem bk_Codes_spec{a0:au}{a1:Int}{y:(List Int)}(h:gH a0 a1=some y):Spec gP 46 [.agg (cG a0),.d (.int .u8 a1)] (.d (.list (zB (eInt .i64) y))):=by
 refine auB Tryz.func46 (λy:(List Int)=>.d (.list (zB (eInt .i64) y))) ?_ h
 unfold gH
 refine .sB ?_
 refine .sB ?_
 refine .seqK (.sB ?_)
 refine .gh [.slot 5 2] rfl (Mir.joinO (λv3:(List Int)=>([U,U,U,U,U,.own 0 (zB (eInt .i64) v3)]++us 20)) (λv3=>⟨[(cG a0)],[(2,v3.length)]⟩) (λ_=>rfl) ?_ ?_)
 refine .block (.guard λqg91=>Mir.range (λ(i1:Nat) (v1:(List Int))=>([U,.d (.int .u8 a1),U,U,U,.own 0 (zB (eInt .i64) v1),U,U,U,.d (.list (zB bz a0.Words)),.d (.int .i64 (a0.Words.length:Int)),.d (.int .i64 (i1:Int))]++us 14)) (λi1 v1=>⟨[(cG a0)],[(2,v1.length)]⟩) qg91 (λ_ _=>rfl) (by simp only[seval,FMB,zNI]) (by simp only[seval,FMB,zNI]) ?_ ?_)
 intro i1 e1 v1 qr89
 refine .sR λe h=>?_
 simp only[seval,EMB,qr89]
 refine mU e (.seqK (.condT rfl (.skip (Mir.toK (.seqK (Mir.joinO (λv2:(List Int)=>([U,.d (.int .u8 a1),U,U,U,.own 0 (zB (eInt .i64) v2),U,U,U,.d (.list (zB bz a0.Words)),.d (.int .i64 (a0.Words.length:Int)),.d (.int .i64 (i1:Int))]++us 14)) (λv2=>⟨[(cG a0)],[(2,v2.length)]⟩) (λ_=>rfl) ?_ ?_)))))) h
 refine .block (.sR λe h=>?_)
 simp only[seval,EMB,qr89,zE]
 refine mU e (.sB ?_) h
 refine .cond rfl (λhb94=>?_) (λhb94=>?_)
 refine .guard λq95=>.region λe h=>?_
 simp only[seval,EMB,(oL 1),q95]
 cases h
 simp only[seval,FMB]
 refine .skip QB
 intro v2
 refine Mir.toK (.region λe h=>?_)
 simp only[seval,EMB]
 cases h
 simp only[seval,FMB,qr89]
 intro v1 qd90
 refine .sR λe h=>?_
 simp only[seval,EMB,qd90]
 refine mU e (.seqK (.condF rfl (.exit QB))) h
 intro v3
 refine Mir.toK (.sB ?_)
 refine .ret QB
end Go.Proofs.YtgbafiejgciilaaGreatDoor
