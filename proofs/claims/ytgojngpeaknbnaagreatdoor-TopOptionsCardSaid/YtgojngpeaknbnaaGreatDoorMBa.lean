import Derived.Test.YtgojngpeaknbnaaGreatDoorG1
import Derived.Test.YtgojngpeaknbnaaGreatDoorTy
import Derived.Test.YtgojngpeaknbnaaGreatDoorBu
import Derived.Test.YtgojngpeaknbnaaGreatDoorCg
import Derived.Test.YtgojngpeaknbnaaGreatDoorGz
import Derived.Test.YtgojngpeaknbnaaGreatDoorLb
import Derived.Test.YtgojngpeaknbnaaGreatDoorSzz
import Derived.Test.YtgojngpeaknbnaaGreatDoorSzk
open And renaming intro → zA
open List renaming map → zB,replicate → zF,length_append → zG,length → zH,length_replicate → zI,length_take → zK,length_drop → zL,all_eq_true → zM,length_cons → zN,length_map → zQ,length_nil → zR,map_cons → zT,map_nil → zV,nil_append → kL,all_cons → kN,all_nil → kO
open Bool renaming eq_false_or_eq_true → zD
open Int renaming toNat_natCast → zE,toNat → zJ,tmod → kK,reduceToNat → kM
open Nat renaming le_refl → zO,zero_add → zU,zero_le → zY,le_of_ble_eq_true → zZ
open Option renaming map_some → zW,map_none → zX
open Go.IntKind renaming i64 → kP,u64 → kR
namespace Go.Proofs.YtgojngpeaknbnaaGreatDoor
set_option linter.defProp false
open Go.RowKit
open Nat renaming reduceAdd → nA,reduceSub → nS,reduceMul → nM,reduceEqDiff → nE,reduceLeDiff → nL,reduceLT → nT,reduceBEq → nB
open Int renaming reduceLT → iT,reduceToNat → iN,reduceEq → iE
set_option linter.unusedVariables false
set_option linter.unusedSimpArgs false
set_option maxRecDepth 100000
set_option maxHeartbeats 8000000
structure ae where
 X:Int
 Y:Int
 Z:Int
 deriving DecidableEq
def bt(x:ae):List D:=[.int .i64 x.X,.int .i64 x.Y,.int .i64 x.Z]
abbrev cF(x:ae):List V:=[.d (.int .i64 x.X),.d (.int .i64 x.Y),.d (.int .i64 x.Z)]
theorem al_ApiPos{l:List ae}:(zB bt l).all (λx=>x.length==3)=true:=by simp[zM,bt]
structure bw where
 X:Int
 Y:Int
 deriving DecidableEq
def encApiGrid2(x:bw):List D:=[.int .i64 x.X,.int .i64 x.Y]
structure ay where
 Kind:Int
 To:ae
 Center:bw
 Rate:Int
 deriving DecidableEq
def ci(x:ay):List D:=[.int .i64 x.Kind,.int .i64 x.To.X,.int .i64 x.To.Y,.int .i64 x.To.Z,.int .i64 x.Center.X,.int .i64 x.Center.Y,.int .i64 x.Rate]
abbrev cB(x:ay):List V:=[.d (.int .i64 x.Kind),.d (.int .i64 x.To.X),.d (.int .i64 x.To.Y),.d (.int .i64 x.To.Z),.d (.int .i64 x.Center.X),.d (.int .i64 x.Center.Y),.d (.int .i64 x.Rate)]
structure aW where
 Tool:Int
 Moves:(List ay)
 deriving DecidableEq
def bi(x:aW):List D:=[.int .i64 x.Tool,.list (zB ci x.Moves)]
abbrev cH(x:aW):List V:=[.d (.int .i64 x.Tool),.d (.list (zB ci x.Moves))]
structure bo where
 Work:Int
 Compress:Bool
 Numbers:Int
 Fold:Int
 deriving DecidableEq
def encPostOptions(x:bo):List D:=[.int .i64 x.Work,.bool x.Compress,.int .i64 x.Numbers,.int .i64 x.Fold]
abbrev cE(x:bo):List V:=[.d (.int .i64 x.Work),.d (.bool x.Compress),.d (.int .i64 x.Numbers),.d (.int .i64 x.Fold)]
structure ap where
 Letter:Int
 Value:Int
 deriving DecidableEq
def ao(x:ap):List D:=[.int .u8 x.Letter,.int .i64 x.Value]
abbrev cJ(x:ap):List V:=[.d (.int .u8 x.Letter),.d (.int .i64 x.Value)]
theorem al_ApiWord{l:List ap}:(zB ao l).all (λx=>x.length==2)=true:=by simp[zM,ao]
structure aa where
 Skip:Bool
 Words:(List ap)
 Comment:(List UInt8)
 deriving DecidableEq
def ac(x:aa):List D:=[.bool x.Skip,.list (zB ao x.Words),.str x.Comment]
abbrev cG(x:aa):List V:=[.d (.bool x.Skip),.d (.list (zB ao x.Words)),.d (.str x.Comment)]
theorem al_ApiBlock{l:List aa}:(zB ac l).all (λx=>x.length==3)=true:=by simp[zM,ac]
structure ak where
 Motion:Int
 Distance:Int
 Work:Int
 Length:Int
 Return:Int
 Feed:Int
 Tool:Int
 Offset:Int
 deriving DecidableEq
def encModalState(x:ak):List D:=[.int .i64 x.Motion,.int .i64 x.Distance,.int .i64 x.Work,.int .i64 x.Length,.int .i64 x.Return,.int .i64 x.Feed,.int .i64 x.Tool,.int .i64 x.Offset]
abbrev cA(x:ak):List V:=[.d (.int .i64 x.Motion),.d (.int .i64 x.Distance),.d (.int .i64 x.Work),.d (.int .i64 x.Length),.d (.int .i64 x.Return),.d (.int .i64 x.Feed),.d (.int .i64 x.Tool),.d (.int .i64 x.Offset)]
structure aE where
 Number:Int
 Blocks:(List aa)
 deriving DecidableEq
def aG(x:aE):List D:=[.int .i64 x.Number,.list (zB ac x.Blocks)]
abbrev cK(x:aE):List V:=[.d (.int .i64 x.Number),.d (.list (zB ac x.Blocks))]
theorem al_SubprogramSub{l:List aE}:(zB aG l).all (λx=>x.length==2)=true:=by simp[zM,aG]
structure aA where
 Main:(List aa)
 Subs:(List aE)
 deriving DecidableEq
def j7(x:aA):List D:=[.list (zB ac x.Main),.list (zB aG x.Subs)]
abbrev cL(x:aA):List V:=[.d (.list (zB ac x.Main)),.d (.list (zB aG x.Subs))]
structure aQ where
 Number:Int
 Length:Int
 deriving DecidableEq
def ar(x:aQ):List D:=[.int .i64 x.Number,.int .i64 x.Length]
theorem al_TableLength{l:List aQ}:(zB ar l).all (λx=>x.length==2)=true:=by simp[zM,ar]
structure j5 where
 e0:ae
 e1:ae
 e2:ae
 e3:ae
 e4:ae
 e5:ae
 deriving DecidableEq
abbrev w6(W:j5)(r:List V):List V:=.d (.int .i64 W.e0.X)::.d (.int .i64 W.e0.Y)::.d (.int .i64 W.e0.Z)::.d (.int .i64 W.e1.X)::.d (.int .i64 W.e1.Y)::.d (.int .i64 W.e1.Z)::.d (.int .i64 W.e2.X)::.d (.int .i64 W.e2.Y)::.d (.int .i64 W.e2.Z)::.d (.int .i64 W.e3.X)::.d (.int .i64 W.e3.Y)::.d (.int .i64 W.e3.Z)::.d (.int .i64 W.e4.X)::.d (.int .i64 W.e4.Y)::.d (.int .i64 W.e4.Z)::.d (.int .i64 W.e5.X)::.d (.int .i64 W.e5.Y)::.d (.int .i64 W.e5.Z)::r
def encArr6ApiPos(x:j5):List D:=[.int .i64 x.e0.X,.int .i64 x.e0.Y,.int .i64 x.e0.Z,.int .i64 x.e1.X,.int .i64 x.e1.Y,.int .i64 x.e1.Z,.int .i64 x.e2.X,.int .i64 x.e2.Y,.int .i64 x.e2.Z,.int .i64 x.e3.X,.int .i64 x.e3.Y,.int .i64 x.e3.Z,.int .i64 x.e4.X,.int .i64 x.e4.Y,.int .i64 x.e4.Z,.int .i64 x.e5.X,.int .i64 x.e5.Y,.int .i64 x.e5.Z]
structure aw where
 Work:j5
 Lengths:(List aQ)
 deriving DecidableEq
def encTableTable(x:aw):List D:=[.int .i64 x.Work.e0.X,.int .i64 x.Work.e0.Y,.int .i64 x.Work.e0.Z,.int .i64 x.Work.e1.X,.int .i64 x.Work.e1.Y,.int .i64 x.Work.e1.Z,.int .i64 x.Work.e2.X,.int .i64 x.Work.e2.Y,.int .i64 x.Work.e2.Z,.int .i64 x.Work.e3.X,.int .i64 x.Work.e3.Y,.int .i64 x.Work.e3.Z,.int .i64 x.Work.e4.X,.int .i64 x.Work.e4.Y,.int .i64 x.Work.e4.Z,.int .i64 x.Work.e5.X,.int .i64 x.Work.e5.Y,.int .i64 x.Work.e5.Z,.list (zB ar x.Lengths)]
structure aH where
 Block:Int
 Code:Int
 deriving DecidableEq
def kE(x:aH):List D:=[.int .i64 x.Block,.int .i64 x.Code]
abbrev cM(x:aH):List V:=[.d (.int .i64 x.Block),.d (.int .i64 x.Code)]
structure bs where
 s:(List UInt8)
 at_:Int
 b:aa
 deriving DecidableEq
def encBlockParser(x:bs):List D:=[.str x.s,.int .i64 x.at_,.bool x.b.Skip,.list (zB ao x.b.Words),.str x.b.Comment]
structure av where
 Code:Int
 R:Int
 Z:Int
 Q:Int
 Rate:Int
 Initial:Int
 High:Bool
 deriving DecidableEq
def encCycleCycle(x:av):List D:=[.int .i64 x.Code,.int .i64 x.R,.int .i64 x.Z,.int .i64 x.Q,.int .i64 x.Rate,.int .i64 x.Initial,.bool x.High]
abbrev cC(x:av):List V:=[.d (.int .i64 x.Code),.d (.int .i64 x.R),.d (.int .i64 x.Z),.d (.int .i64 x.Q),.d (.int .i64 x.Rate),.d (.int .i64 x.Initial),.d (.bool x.High)]
structure au where
 at_:ae
 rate:Int
 deriving DecidableEq
def aY(x:au):List D:=[.int .i64 x.at_.X,.int .i64 x.at_.Y,.int .i64 x.at_.Z,.int .i64 x.rate]
theorem jE{l:List au}:(zB aY l).all (λx=>x.length==4)=true:=by simp[zM,aY]
structure am where
 From:ae
 To:ae
 Rate:Int
 Tool:Int
 Block:Int
 deriving DecidableEq
def aB(x:am):List D:=[.int .i64 x.From.X,.int .i64 x.From.Y,.int .i64 x.From.Z,.int .i64 x.To.X,.int .i64 x.To.Y,.int .i64 x.To.Z,.int .i64 x.Rate,.int .i64 x.Tool,.int .i64 x.Block]
theorem jF{l:List am}:(zB aB l).all (λx=>x.length==9)=true:=by simp[zM,aB]
def ENMB:=zA @bt.eq_1<|zA @encApiGrid2.eq_1<|zA @ci.eq_1<|zA @bi.eq_1<|zA @encPostOptions.eq_1<|zA @ao.eq_1<|zA @ac.eq_1<|zA @encModalState.eq_1<|zA @aG.eq_1<|zA @j7.eq_1<|zA @ar.eq_1<|zA @encArr6ApiPos.eq_1<|zA @encTableTable.eq_1<|zA @kE.eq_1<|zA @encBlockParser.eq_1<|zA @encCycleCycle.eq_1<|zA @aY.eq_1<|@aB.eq_1
def TMB:=zA @Tryz.ntmps101<|zA @Tryz.ntmps102<|zA @Tryz.ntmps103<|zA @Tryz.ntmps104<|zA @Tryz.ntmps105<|zA @Tryz.ntmps106<|zA @Tryz.ntmps107<|zA @Tryz.ntmps108<|zA @Tryz.ntmps110<|zA @Tryz.ntmps111<|zA @Tryz.ntmps113<|zA @Tryz.ntmps114<|zA @Tryz.ntmps115<|zA @Tryz.ntmps122<|zA @Tryz.ntmps128<|zA @Tryz.ntmps129<|zA @Tryz.ntmps131<|zA @Tryz.ntmps132<|zA @Tryz.ntmps133<|zA @Tryz.ntmps135<|zA @Tryz.ntmps136<|zA @Tryz.ntmps137<|zA @Tryz.ntmps138<|zA @Tryz.ntmps139<|zA @Tryz.ntmps14<|zA @Tryz.ntmps140<|zA @Tryz.ntmps15<|zA @Tryz.ntmps151<|zA @Tryz.ntmps153<|zA @Tryz.ntmps154<|zA @Tryz.ntmps157<|zA @Tryz.ntmps158<|zA @Tryz.ntmps16<|zA @Tryz.ntmps169<|zA @Tryz.ntmps17<|zA @Tryz.ntmps170<|zA @Tryz.ntmps172<|zA @Tryz.ntmps178<|zA @Tryz.ntmps179<|zA @Tryz.ntmps18<|zA @Tryz.ntmps180<|zA @Tryz.ntmps181<|zA @Tryz.ntmps19<|zA @Tryz.ntmps190<|zA @Tryz.ntmps195<|zA @Tryz.ntmps196<|zA @Tryz.ntmps20<|zA @Tryz.ntmps202<|zA @Tryz.ntmps211<|zA @Tryz.ntmps25<|zA @Tryz.ntmps26<|zA @Tryz.ntmps27<|zA @Tryz.ntmps28<|zA @Tryz.ntmps29<|zA @Tryz.ntmps30<|zA @Tryz.ntmps31<|zA @Tryz.ntmps32<|zA @Tryz.ntmps36<|zA @Tryz.ntmps37<|zA @Tryz.ntmps39<|zA @Tryz.ntmps4<|zA @Tryz.ntmps40<|zA @Tryz.ntmps41<|zA @Tryz.ntmps43<|zA @Tryz.ntmps44<|zA @Tryz.ntmps46<|zA @Tryz.ntmps47<|zA @Tryz.ntmps48<|zA @Tryz.ntmps49<|zA @Tryz.ntmps50<|zA @Tryz.ntmps55<|zA @Tryz.ntmps56<|zA @Tryz.ntmps57<|zA @Tryz.ntmps6<|zA @Tryz.ntmps62<|zA @Tryz.ntmps63<|zA @Tryz.ntmps64<|zA @Tryz.ntmps65<|zA @Tryz.ntmps66<|zA @Tryz.ntmps67<|zA @Tryz.ntmps68<|zA @Tryz.ntmps71<|zA @Tryz.ntmps72<|zA @Tryz.ntmps73<|zA @Tryz.ntmps74<|zA @Tryz.ntmps75<|zA @Tryz.ntmps76<|zA @Tryz.ntmps77<|zA @Tryz.ntmps8<|zA @Tryz.ntmps81<|zA @Tryz.ntmps82<|zA @Tryz.ntmps84<|zA @Tryz.ntmps88<|zA @Tryz.ntmps89<|zA @Tryz.ntmps9<|zA @Tryz.ntmps91<|zA @Tryz.ntmps93<|zA @Tryz.ntmps95<|zA @Tryz.ntmps99<|zA @Tryz.results100<|zA @Tryz.results101<|zA @Tryz.results102<|zA @Tryz.results103<|zA @Tryz.results104<|zA @Tryz.results105<|zA @Tryz.results106<|zA @Tryz.results107<|zA @Tryz.results108<|zA @Tryz.results110<|zA @Tryz.results111<|zA @Tryz.results112<|zA @Tryz.results113<|zA @Tryz.results114<|zA @Tryz.results115<|zA @Tryz.results120<|zA @Tryz.results121<|zA @Tryz.results122<|zA @Tryz.results123<|zA @Tryz.results124<|zA @Tryz.results125<|zA @Tryz.results126<|zA @Tryz.results127<|zA @Tryz.results128<|zA @Tryz.results129<|zA @Tryz.results130<|zA @Tryz.results131<|zA @Tryz.results132<|zA @Tryz.results133<|zA @Tryz.results135<|zA @Tryz.results136<|zA @Tryz.results137<|zA @Tryz.results138<|zA @Tryz.results139<|zA @Tryz.results14<|zA @Tryz.results140<|zA @Tryz.results15<|zA @Tryz.results151<|zA @Tryz.results153<|zA @Tryz.results154<|zA @Tryz.results157<|zA @Tryz.results158<|zA @Tryz.results16<|zA @Tryz.results169<|zA @Tryz.results17<|zA @Tryz.results170<|zA @Tryz.results172<|zA @Tryz.results178<|zA @Tryz.results179<|zA @Tryz.results18<|zA @Tryz.results180<|zA @Tryz.results181<|zA @Tryz.results19<|zA @Tryz.results190<|zA @Tryz.results194<|zA @Tryz.results195<|zA @Tryz.results196<|zA @Tryz.results20<|zA @Tryz.results202<|zA @Tryz.results211<|zA @Tryz.results25<|zA @Tryz.results26<|zA @Tryz.results27<|zA @Tryz.results28<|zA @Tryz.results29<|zA @Tryz.results30<|zA @Tryz.results31<|zA @Tryz.results32<|zA @Tryz.results36<|zA @Tryz.results37<|zA @Tryz.results39<|zA @Tryz.results4<|zA @Tryz.results40<|zA @Tryz.results41<|zA @Tryz.results42<|zA @Tryz.results43<|zA @Tryz.results44<|zA @Tryz.results45<|zA @Tryz.results46<|zA @Tryz.results47<|zA @Tryz.results48<|zA @Tryz.results49<|zA @Tryz.results50<|zA @Tryz.results51<|zA @Tryz.results52<|zA @Tryz.results53<|zA @Tryz.results54<|zA @Tryz.results55<|zA @Tryz.results56<|zA @Tryz.results57<|zA @Tryz.results6<|zA @Tryz.results62<|zA @Tryz.results63<|zA @Tryz.results64<|zA @Tryz.results65<|zA @Tryz.results66<|zA @Tryz.results67<|zA @Tryz.results68<|zA @Tryz.results69<|zA @Tryz.results70<|zA @Tryz.results71<|zA @Tryz.results72<|zA @Tryz.results73<|zA @Tryz.results74<|zA @Tryz.results75<|zA @Tryz.results76<|zA @Tryz.results77<|zA @Tryz.results8<|zA @Tryz.results80<|zA @Tryz.results81<|zA @Tryz.results82<|zA @Tryz.results83<|zA @Tryz.results84<|zA @Tryz.results88<|zA @Tryz.results89<|zA @Tryz.results9<|zA @Tryz.results90<|zA @Tryz.results91<|zA @Tryz.results92<|zA @Tryz.results93<|zA @Tryz.results94<|zA @Tryz.results95<|zA @Tryz.results96<|zA @Tryz.results97<|zA @Tryz.results98<|zA @Tryz.results99<|zA @ag_119<|zA @ag_127<|zA @ag_129<|zA @ag_177<|zA @ag_178<|zA @ag_179<|zA @ag_190<|zA @ag_2<|zA @ag_221<|zA @ag_239<|zA @ag_24<|zA @ag_3<|zA @ag_33<|zA @ag_36<|zA @ag_38<|zA @ag_4<|zA @ag_42<|zA @ag_5<|zA @ag_51<|zA @ag_53<|zA @ag_54<|zA @ag_56<|zA @ag_60<|zA @ag_61<|zA @ag_67<|zA @ag_71<|zA @ag_73<|zA @ag_85<|zA @ag_9<|zA @ag_94<|zA @ag_96<|zA @al_ApiBlock<|zA @jF<|zA @al_ApiPos<|zA @al_ApiWord<|zA @jE<|zA @al_SubprogramSub<|zA @al_TableLength<|zA @al_eInt<|zA @al_eList<|zA @al_eStr<|zA @app_155<|zA @app_186<|zA @app_208<|zA @app_36<|zA @app_40<|zA @app_57<|zA @app_60<|zA @app_61<|zA @app_71<|zA @kj<|zA @fld_119_0<|zA @fld_119_1<|zA @fld_127_0<|zA @fld_127_1<|zA @fld_165_0<|zA @fld_165_1<|zA @fld_165_2<|zA @fld_181_0<|zA @fld_181_1<|zA @fld_181_2<|zA @fld_181_3<|zA @fld_181_4<|zA @fld_190_0<|zA @fld_190_1<|zA @fld_239_0<|zA @fld_239_1<|zA @fld_24_0<|zA @fld_24_1<|zA @fld_24_2<|zA @fld_33_0<|zA @fld_33_1<|zA @fld_33_2<|zA @fld_33_3<|zA @fld_38_0<|zA @fld_38_1<|zA @fld_47_0<|zA @fld_47_1<|zA @fld_47_2<|zA @fld_47_3<|zA @fld_47_4<|zA @fld_51_0<|zA @fld_51_1<|zA @fld_53_0<|zA @fld_53_1<|zA @fld_53_2<|zA @fld_53_3<|zA @fld_56_0<|zA @fld_56_1<|zA @fld_67_0<|zA @fld_67_1<|zA @fld_73_0<|zA @fld_73_1<|zA @fld_85_0<|zA @fld_85_1<|zA @fld_85_2<|zA @fld_85_3<|zA @fld_85_4<|zA @fld_85_5<|zA @fld_85_6<|zA @fld_85_7<|zA @fld_96_0<|zA @fld_96_1<|zA @fld_96_2<|zA @lit_pn<|zA @pl_119<|zA @pl_127<|zA @pl_129<|zA @pl_165<|zA @pl_181<|zA @pl_190<|zA @pl_239<|zA @pl_24<|zA @pl_33<|zA @pl_42<|zA @pl_47<|zA @pl_51<|zA @pl_53<|zA @pl_56<|zA @pl_67<|zA @pl_73<|zA @pl_85<|zA @pl_96<|zA @sz_119<|zA @sz_127<|zA @sz_129<|zA @sz_165<|zA @sz_177<|zA @sz_178<|zA @sz_179<|zA @sz_190<|zA @sz_2<|zA @sz_221<|zA @sz_239<|zA @sz_24<|zA @sz_3<|zA @sz_33<|zA @sz_35<|zA @sz_36<|zA @sz_38<|zA @sz_4<|zA @sz_42<|zA @sz_47<|zA @sz_5<|zA @sz_51<|zA @sz_53<|zA @sz_54<|zA @sz_56<|zA @sz_60<|zA @sz_61<|zA @sz_67<|zA @sz_71<|zA @sz_73<|zA @sz_85<|zA @sz_9<|zA @sz_94<|zA @sz_96<|zA @und_155<|zA @und_186<|zA @und_192<|zA @und_194<|zA @und_2<|zA @und_208<|zA @und_21<|zA @und_22<|zA @und_222<|zA @und_232<|zA @und_240<|zA @und_3<|zA @und_35<|zA @und_36<|zA @und_4<|zA @und_40<|zA @und_5<|zA @und_54<|zA @und_57<|zA @und_60<|zA @und_61<|zA @und_71<|zA @und_9<|zA @und_91<|zA @und_94<|zA @zero_119<|zA @zero_127<|zA @zero_129<|zA @zero_165<|zA @zero_181<|zA @zero_190<|zA @zero_2<|zA @zero_221<|zA @zero_239<|zA @zero_24<|zA @zero_33<|zA @zero_38<|zA @zero_42<|zA @zero_47<|zA @zero_51<|zA @zero_53<|zA @zero_56<|zA @kk<|zA @zero_67<|zA @zero_73<|zA @zero_85<|zA @zero_9<|@zero_96
def EMB:=zA @SE<|zA @ENMB<|@TMB
def FMB:=zA @SF<|zA @ENMB<|@TMB
theorem QB{α:Type}{x:α}{p:α→Prop}(e:p x:=by simp only[seval,FMB]):∀y,some x=some y→p y:=λ_ i=>Option.some.inj i▸e
theorem WB{p q:Prop}(h:q)(e:p=q:=by simp only[seval,EMB];rfl):p:=Eq.mpr e h
theorem mB{P:Program}{g:Pg P}{fr:Fr}{s:Sg}{ε:Type}{Φ:ε→SQ}{m:Option ε}{c:Code}{e:ε}{p:Prop}(h:Mir g c fr s m Φ)(i:m=some e)(w:p=SWs g c (Φ e) fr s:=by simp only[seval,EMB];rfl):p:=Eq.mpr w (h e i)
theorem Mir.sB{P:Program}{g g':Pg P}{fr fr':Fr}{s s':Sg}{ε:Type}{Φ:ε→SQ}{m:Option ε}{id:Nat}{ops:Array Oper}{k c:Code}(h:Mir g' c fr' s' m Φ)(e:∀e,regS g false ops ops.toList fr s (kQ g k Φ e .normal)=SWs g' c (Φ e) fr' s':=by intro e;simp only[seval,EMB];rfl):Mir g (.seq (.region id ops false) k) fr s m Φ:=Mir.sR λy i=>Eq.mpr (e y) (h y i)
theorem Mir.rB{P:Program}{g:Pg P}{fr:Fr}{s:Sg}{ε:Type}{Φ:ε→SQ}{x:ε}{id:Nat}{ops:Array Oper}(e:regS g false ops ops.toList fr s (Φ x .normal):=by simp only[seval,EMB];simp only[seval,FMB]):Mir g (.region id ops false) fr s (some x) Φ:=Mir.region λ_ i=>Option.some.inj i▸e
theorem SpecS.byB{P:Program}{g:Pg P}{f:FuncId}{args:List V}{s:Sg}{R:V→Sg→Prop}{r:V}{args':List V}(h:Spec g f args' r)(hR:R r s)(ha:args.map V.clean=args':=by simp only[seval,FMB]):SpecS g f args s R:=SpecS.by h ha hR
theorem SpecS.byFB{P:Program}{g:Pg P}{f:FuncId}{args:List V}{s:Sg}{R:V→Sg→Prop}{r:V}{args':List V}(h:Spec g f args' r)(hR:R r s)(ha:args.map V.cleanF=args':=by simp only[seval,FMB]):SpecS g f args s R:=SpecS.byF h ha hR
theorem auB{P:Program}{g:Pg P}{f:FuncId}{fn:Func}{c:Code}(hf:P.funcs[f]? = some fn){args:List V}{ρ:Type}(en:ρ→V){m:Option ρ}{fr:Fr}(h:Mir g c fr ⟨[],[]⟩ m (fnQ g fn.results.toList en)){y:ρ}(hy:m=some y)(hb:fn.body=some c:=by rfl)(he:bl P f=true:=by kernel_rfl)(hd:bN c=true:=by kernel_rfl)(e:args++List.replicate (fn.ntmps-args.length) .undef=fr:=by simp only[List.replicate,List.length,nS,nA,SV,TMB];rfl):Spec g f args (en y):=fA hf hb he hd en (e▸h) hy
theorem aFB{P:Program}{g:Pg P}{f:FuncId}{fn:Func}{c:Code}(hf:P.funcs[f]? = some fn){args:List V}{ρ:Type}(en:ρ→V){m:Option ρ}{fr:Fr}(h:Mir g c fr ⟨[],[]⟩ m (fnF g fn.results.toList en)){y:ρ}(hy:m=some y)(hb:fn.body=some c:=by rfl)(he:bl P f=true:=by kernel_rfl)(hd:bN c=true:=by kernel_rfl)(e:args++List.replicate (fn.ntmps-args.length) .undef=fr:=by simp only[List.replicate,List.length,nS,nA,SV,TMB];rfl):Spec g f args (en y):=specF_mir hf hb he hd en (e▸h) hy
def ir(a0:Int):Option Int:=bindO (if (a0==0)=true then some (a0==0)else if (a0==1000)=true then some (a0==1000)else if (a0==2000)=true then some (a0==2000)else if (a0==3000)=true then some (a0==3000)else if (a0==80000)=true then some (a0==80000)else if (a0==81000)=true then some (a0==81000)else if (a0==82000)=true then some (a0==82000)else some (a0==83000)) λ(v1:Bool)=>if v1=true then some 1 else bindO (if (a0==90000)=true then some (a0==90000)else some (a0==91000)) λ(v2:Bool)=>if v2=true then some 2 else bindO (if (a0==54000)=true then some (a0==54000)else if (a0==55000)=true then some (a0==55000)else if (a0==56000)=true then some (a0==56000)else if (a0==57000)=true then some (a0==57000)else if (a0==58000)=true then some (a0==58000)else some (a0==59000)) λ(v3:Bool)=>if v3=true then some 3 else bindO (if (a0==43000)=true then some (a0==43000)else some (a0==49000)) λ(v4:Bool)=>if v4=true then some 4 else bindO (if (a0==98000)=true then some (a0==98000)else some (a0==99000)) λ(v5:Bool)=>if v5=true then some 5 else some 0
theorem bx{a0:Int}{y:Int}(h:ir a0=some y):Spec gP 62 [.d (.int .i64 a0)] (.d (.int .i64 y)):=by
 refine auB Tryz.func62 (λy:Int=>.d (.int .i64 y)) ?_ h
 unfold ir
 refine .sB ?_
 refine .seqK (.sB ?_)
 refine .block (.seqK (.sB ?_))
 refine Mir.joinO (λv1:Bool=>([U,U,U,.d (.int .i64 a0),.d (.bool v1)]++us 24)) (λv1=>⟨[],[]⟩) (λ_=>rfl) ?_ ?_
 refine .cond rfl (λ_=>.skip QB) (λhb43=>?_)
 refine .sB ?_
 refine .cond rfl (λ_=>.skip QB) (λhb44=>?_)
 refine .sB ?_
 refine .cond rfl (λ_=>.skip QB) (λhb45=>?_)
 refine .sB ?_
 refine .cond rfl (λ_=>.skip QB) (λhb46=>?_)
 refine .sB ?_
 refine .cond rfl (λ_=>.skip QB) (λhb47=>?_)
 refine .sB ?_
 refine .cond rfl (λ_=>.skip QB) (λhb48=>?_)
 refine .sB ?_
 refine .cond rfl (λ_=>.skip QB) (λ_=>.rB)
 intro v1
 refine Mir.toK (.cond rfl (λhb71=>?_) (λhb71=>?_))
 refine .sB ?_
 refine .ret QB
 refine .seqK (.sB ?_)
 refine Mir.joinO (λv2:Bool=>([U,U,U,.d (.int .i64 a0),U,U,U,U,U,U,U,U,U,.d (.bool v2)]++us 15)) (λv2=>⟨[],[]⟩) (λ_=>rfl) ?_ ?_
 refine .cond rfl (λ_=>.skip QB) (λ_=>.rB)
 intro v2
 refine Mir.toK (.cond rfl (λhb92=>?_) (λhb92=>?_))
 refine .sB ?_
 refine .ret QB
 refine .seqK (.sB ?_)
 refine Mir.joinO (λv3:Bool=>([U,U,U,.d (.int .i64 a0),U,U,U,U,U,U,U,U,U,U,U,U,.d (.bool v3)]++us 12)) (λv3=>⟨[],[]⟩) (λ_=>rfl) ?_ ?_
 refine .cond rfl (λ_=>.skip QB) (λhb98=>?_)
 refine .sB ?_
 refine .cond rfl (λ_=>.skip QB) (λhb99=>?_)
 refine .sB ?_
 refine .cond rfl (λ_=>.skip QB) (λh1=>?_)
 refine .sB ?_
 refine .cond rfl (λ_=>.skip QB) (λh2=>?_)
 refine .sB ?_
 refine .cond rfl (λ_=>.skip QB) (λ_=>.rB)
 intro v3
 refine Mir.toK (.cond rfl (λh4=>?_) (λh4=>?_))
 refine .sB ?_
 refine .ret QB
 refine .seqK (.sB ?_)
 refine Mir.joinO (λv4:Bool=>([U,U,U,.d (.int .i64 a0),U,U,U,U,U,U,U,U,U,U,U,U,U,U,U,U,U,U,U,.d (.bool v4)]++us 5)) (λv4=>⟨[],[]⟩) (λ_=>rfl) ?_ ?_
 refine .cond rfl (λ_=>.skip QB) (λ_=>.rB)
 intro v4
 refine Mir.toK (.cond rfl (λh6=>?_) (λh6=>?_))
 refine .sB ?_
 refine .ret QB
 refine .seqK (.sB ?_)
 refine Mir.joinO (λv5:Bool=>[U,U,U,U,U,U,U,U,U,U,U,U,U,U,U,U,U,U,U,U,U,U,U,U,U,U,.d (.bool v5),U,U]) (λv5=>⟨[],[]⟩) (λ_=>rfl) ?_ ?_
 refine .cond rfl (λ_=>.skip QB) (λ_=>.rB)
 intro v5
 refine Mir.toK (.cond rfl (λh8=>?_) (λh8=>?_))
 refine .sB ?_
 refine .ret QB
 refine .skip (Mir.toB (Mir.toK (.sB ?_)))
 refine .ret QB
def po_Valid(a0:bo):Option Int:=bindO (bindO (ir a0.Work) λ(y1:Int)=>if (y1 != 3)=true then some true else if (decide (a0.Numbers<0))=true then some true else if (decide (a0.Numbers>1000))=true then some true else if (a0.Fold != 0)=true then if (decide (a0.Fold<2))=true then some true else some (decide (a0.Fold>100))else some false) λ(v1:Bool)=>if v1=true then some 1 else some 0
theorem po_Valid_spec{a0:bo}{y:Int}(h:po_Valid a0=some y):Spec gP 25 [.agg (cE a0)] (.d (.int .i64 y)):=by
 refine auB Tryz.func25 (λy:Int=>.d (.int .i64 y)) ?_ h
 unfold po_Valid
 refine .sB ?_
 refine .seqK (.seqK (Mir.joinO (λv1:Bool=>[U,U,U,U,U,U,U,U,U,U,U,U,U,U,U,U,U,U,U,U,U,U,U,U,U,U,U,U,U,U,U,.d (.bool v1)]) (λv1=>⟨[(cE a0)],[]⟩) (λ_=>rfl) ?_ ?_))
 refine .bind λy1 hy1=>.ite (λhb2=>?_) (λhb2=>?_)
 refine .region λe h=>?_
 simp only[seval,EMB,hb2]
 refine SpecS.by (bx hy1) (by simp only[seval,FMB,hb2]) ?_
 simp only[seval,EMB,hb2]
 cases h
 simp only[seval,FMB,hb2]
 refine .ite (λhb3=>?_) (λhb3=>?_)
 refine .region λe h=>?_
 simp only[seval,EMB,hb2,hb3]
 refine SpecS.by (bx hy1) (by simp only[seval,FMB,hb2,hb3]) ?_
 simp only[seval,EMB,hb2,hb3]
 cases h
 simp only[seval,FMB,hb2,hb3]
 refine .ite (λhb4=>?_) (λhb4=>?_)
 refine .region λe h=>?_
 simp only[seval,EMB,hb2,hb3,hb4]
 refine SpecS.by (bx hy1) (by simp only[seval,FMB,hb2,hb3,hb4]) ?_
 simp only[seval,EMB,hb2,hb3,hb4]
 cases h
 simp only[seval,FMB,hb2,hb3,hb4]
 refine .ite (λhb5=>?_) (λhb5=>?_)
 refine .ite (λhb6=>?_) (λhb6=>?_)
 refine .region λe h=>?_
 simp only[seval,EMB,hb2,hb3,hb4,hb5,hb6]
 refine SpecS.by (bx hy1) (by simp only[seval,FMB,hb2,hb3,hb4,hb5,hb6]) ?_
 simp only[seval,EMB,hb2,hb3,hb4,hb5,hb6]
 cases h
 simp only[seval,FMB,hb2,hb3,hb4,hb5,hb6]
 refine .region λe h=>?_
 simp only[seval,EMB,hb2,hb3,hb4,hb5,hb6]
 refine SpecS.by (bx hy1) (by simp only[seval,FMB,hb2,hb3,hb4,hb5,hb6]) ?_
 simp only[seval,EMB,hb2,hb3,hb4,hb5,hb6]
 cases h
 simp only[seval,FMB,hb2,hb3,hb4,hb5,hb6]
 refine .region λe h=>?_
 simp only[seval,EMB,hb2,hb3,hb4,hb5]
 refine SpecS.by (bx hy1) (by simp only[seval,FMB,hb2,hb3,hb4,hb5]) ?_
 simp only[seval,EMB,hb2,hb3,hb4,hb5]
 cases h
 simp only[seval,FMB,hb2,hb3,hb4,hb5]
 intro v1
 refine Mir.toK (.cond rfl (λhb8=>?_) (λhb8=>?_))
 refine .sB ?_
 refine .ret QB
 refine .skip (Mir.toK (.sB ?_))
 refine .ret QB
def bG(a0:Int)(a1:Int):Option ap:=some (ap.mk a0 a1)
theorem ba{a0:Int}{a1:Int}{y:ap}(h:bG a0 a1=some y):Spec gP 65 [.d (.int .u8 a0),.d (.int .i64 a1)] (.agg [.d (.int .u8 y.Letter),.d (.int .i64 y.Value)]):=by
 refine auB Tryz.func65 (λy:ap=>.agg [.d (.int .u8 y.Letter),.d (.int .i64 y.Value)]) ?_ h
 unfold bG
 refine .sB ?_
 refine .sB ?_
 refine .ret QB
def bn(a0:Int)(a1:Int):Option ap:=bindO (bG a0 (kP.wrap (1000*a1))) λ(y1:ap)=>some y1
theorem bc{a0:Int}{a1:Int}{y:ap}(h:bn a0 a1=some y):Spec gP 64 [.d (.int .u8 a0),.d (.int .i64 a1)] (.agg [.d (.int .u8 y.Letter),.d (.int .i64 y.Value)]):=by
 refine auB Tryz.func64 (λy:ap=>.agg [.d (.int .u8 y.Letter),.d (.int .i64 y.Value)]) ?_ h
 unfold bn
 refine .sB ?_
 refine .seqK (.bind λy1 hy1=>.region λe h=>WB ?_)
 refine .byB (ba hy1) (mB ?_ h)
 refine .ret QB
def cq(a0:(List ap)):Option aa:=some (aa.mk false a0 [])
theorem bC{a0:(List ap)}{y:aa}(h:cq a0=some y):Spec gP 63 [.full (zB ao a0)] (.agg [.d (.bool y.Skip),.full (zB ao y.Words),.d (.str y.Comment)]):=by
 refine aFB Tryz.func63 (λy:aa=>.agg [.d (.bool y.Skip),.full (zB ao y.Words),.d (.str y.Comment)]) ?_ h
 unfold cq
 refine .sB ?_
 refine .sB ?_
 refine .ret QB
def jk(a0:Int):Option ((List aa)×Int):=if ((decide (a0<1))||(decide (a0>999)))=true then some ([],1)else bindO (bn 84 a0) λ(y1:ap)=>bindO (bn 77 6) λ(y2:ap)=>bindO (cq [y1,y2]) λ(y3:aa)=>bindO (bn 71 43) λ(y4:ap)=>bindO (bn 72 a0) λ(y5:ap)=>bindO (cq [y4,y5]) λ(y6:aa)=>some ([y3,y6],0)
theorem po_Change_spec{a0:Int}{y:(List aa)×Int}(h:jk a0=some y):Spec gP 66 [.d (.int .i64 a0)] (.tuple [.d (.list (zB ac y.1)),.d (.int .i64 y.2)]):=by
 refine auB Tryz.func66 (λy:(List aa)×Int=>.tuple [.d (.list (zB ac y.1)),.d (.int .i64 y.2)]) ?_ h
 unfold jk
 refine .sB ?_
 refine .seqK (.seqK (.joinV ([.d (.int .i64 a0),U,U,U,U,U,U,U,U,U,.d (.bool ((decide (a0<1))||(decide (a0>999))))]++us 12) ⟨[],[]⟩ rfl ?_ ?_))
 refine SWs.region ?_
 rcases zD (decide (a0<1))with hb1 | hb1
 simp only[seval,EMB,SL,PB,hb1]
 simp only[seval,EMB,SL,PB,hb1]
 refine Mir.toK (.cond rfl (λhb3=>?_) (λhb3=>?_))
 refine .sB ?_
 refine .ret QB
 refine .skip (Mir.toK (.sB ?_))
 refine .seqK (.bind λy1 hy4=>.bind λy2 hy5=>.bind λy3 hy6=>.bind λy4 hy7=>.bind λy5 hy8=>.bind λy6 hy9=>.region λe h=>WB ?_)
 refine .byB (bc hy4) (WB ?_)
 refine .byB (bc hy5) ?_
 simp only[seval,EMB,(oL 4)]
 refine .byFB (bC hy6) (WB ?_)
 refine .byB (bc hy7) (WB ?_)
 refine .byB (bc hy8) ?_
 simp only[seval,EMB,(oL 4)]
 refine .byFB (bC hy9) ?_
 simp only[seval,EMB,(oL 6)]
 refine mU e (.ret QB) h
def ct(a0:Int)(a1:Int):Option Int:=bindO (if (decide (a0<a1))=true then some (a1,a0)else some (a0,a1)) λ(v1:Int×Int)=>some (kR.wrap ((kR.wrap v1.1)-(kR.wrap v1.2)))
theorem b9{a0:Int}{a1:Int}{y:Int}(h:ct a0 a1=some y):Spec gP 139 [.d (.int .i64 a0),.d (.int .i64 a1)] (.d (.int .u64 y)):=by
 refine auB Tryz.func139 (λy:Int=>.d (.int .u64 y)) ?_ h
 unfold ct
 refine .sB ?_
 refine .seqK (.sB ?_)
 refine Mir.joinO (λv1:Int×Int=>([.d (.int .i64 v1.1),.d (.int .i64 v1.2)]++us 13)) (λv1=>⟨[],[]⟩) (λ_=>rfl) ?_ ?_
 refine .cond rfl (λ_=>.rB) (λ_=>.skip QB)
 intro v1
 refine Mir.toK (.sB ?_)
 refine .ret QB
def cO(a0:ae)(a1:bw):Option (Int×Int):=if ((a0.Y==a1.Y)&&(decide (a0.X>a1.X)))=true then bindO (ct a0.X a1.X) λ(y1:Int)=>some (0,y1)else if ((a0.X==a1.X)&&(decide (a0.Y>a1.Y)))=true then bindO (ct a0.Y a1.Y) λ(y2:Int)=>some (1,y2)else if ((a0.Y==a1.Y)&&(decide (a0.X<a1.X)))=true then bindO (ct a0.X a1.X) λ(y3:Int)=>some (2,y3)else if ((a0.X==a1.X)&&(decide (a0.Y<a1.Y)))=true then bindO (ct a0.Y a1.Y) λ(y4:Int)=>some (3,y4)else some (0,0)
theorem dj{a0:ae}{a1:bw}{y:Int×Int}(h:cO a0 a1=some y):Spec gP 138 [.agg (cF a0),.agg [.d (.int .i64 a1.X),.d (.int .i64 a1.Y)]] (.tuple [.d (.int .i64 y.1),.d (.int .u64 y.2)]):=by
 refine auB Tryz.func138 (λy:Int×Int=>.tuple [.d (.int .i64 y.1),.d (.int .u64 y.2)]) ?_ h
 unfold cO
 refine .sB ?_
 refine .seqK (.block (.seqK (.joinV ([U,U,.ptr 0 0,.ptr 1 0,U,U,.d (.bool ((a0.Y==a1.Y)&&(decide (a0.X>a1.X))))]++us 71) ⟨[(cF a0),[.d (.int .i64 a1.X),.d (.int .i64 a1.Y)]],[]⟩ rfl ?_ ?_)))
 refine SWs.region ?_
 rcases zD (a0.Y==a1.Y)with hb13 | hb13
 simp only[seval,EMB,SL,PB,hb13]
 simp only[seval,EMB,SL,PB,hb13]
 refine Mir.toK (.cond rfl (λhb25=>?_) (λhb25=>?_))
 refine .seqK (.bind λy1 hy26=>.region λe h=>WB ?_)
 refine .byB (b9 hy26) (mB ?_ h)
 refine .ret QB
 refine .seqK (.joinV ([U,U,.ptr 0 0,.ptr 1 0,U,U,U,U,U,U,U,U,U,U,U,U,U,U,U,U,U,U,U,U,.d (.bool ((a0.X==a1.X)&&(decide (a0.Y>a1.Y))))]++us 53) ⟨[(cF a0),[.d (.int .i64 a1.X),.d (.int .i64 a1.Y)]],[]⟩ rfl ?_ ?_)
 refine SWs.region ?_
 rcases zD (a0.X==a1.X)with hb27 | hb27
 simp only[seval,EMB,SL,PB,hb27]
 simp only[seval,EMB,SL,PB,hb27]
 refine Mir.toK (.cond rfl (λhb36=>?_) (λhb36=>?_))
 refine .seqK (.bind λy2 hy37=>.region λe h=>WB ?_)
 refine .byB (b9 hy37) (mB ?_ h)
 refine .ret QB
 refine .seqK (.joinV ([U,U,.ptr 0 0,.ptr 1 0,U,U,U,U,U,U,U,U,U,U,U,U,U,U,U,U,U,U,U,U,U,U,U,U,U,U,U,U,U,U,U,U,U,U,U,U,U,U,.d (.bool ((a0.Y==a1.Y)&&(decide (a0.X<a1.X))))]++us 35) ⟨[(cF a0),[.d (.int .i64 a1.X),.d (.int .i64 a1.Y)]],[]⟩ rfl ?_ ?_)
 refine SWs.region ?_
 rcases zD (a0.Y==a1.Y)with hb38 | hb38
 simp only[seval,EMB,SL,PB,hb38]
 simp only[seval,EMB,SL,PB,hb38]
 refine Mir.toK (.cond rfl (λhb44=>?_) (λhb44=>?_))
 refine .seqK (.bind λy3 hy45=>.region λe h=>WB ?_)
 refine .byB (b9 hy45) (mB ?_ h)
 refine .ret QB
 refine .seqK (.joinV ([U,U,.ptr 0 0,.ptr 1 0,U,U,U,U,U,U,U,U,U,U,U,U,U,U,U,U,U,U,U,U,U,U,U,U,U,U,U,U,U,U,U,U,U,U,U,U,U,U,U,U,U,U,U,U,U,U,U,U,U,U,U,U,U,U,U,U,.d (.bool ((a0.X==a1.X)&&(decide (a0.Y<a1.Y))))]++us 17) ⟨[(cF a0),[.d (.int .i64 a1.X),.d (.int .i64 a1.Y)]],[]⟩ rfl ?_ ?_)
 refine SWs.region ?_
 rcases zD (a0.X==a1.X)with hb46 | hb46
 simp only[seval,EMB,SL,PB,hb46]
 simp only[seval,EMB,SL,PB,hb46]
 refine Mir.toK (.cond rfl (λhb49=>?_) (λhb49=>?_))
 refine .seqK (.bind λy4 hy50=>.region λe h=>WB ?_)
 refine .byB (b9 hy50) (mB ?_ h)
 refine .ret QB
 refine .skip (Mir.toB (Mir.toK (.sB ?_)))
 refine .ret QB
def fF(a0:ay):Option Bool:=some ((a0.Kind==3)||(a0.Kind==4))
theorem dl{a0:ay}{y:Bool}(h:fF a0=some y):Spec gP 137 [.agg (cB a0)] (.d (.bool y)):=by
 refine auB Tryz.func137 (λy:Bool=>.d (.bool y)) ?_ h
 unfold fF
 refine .sB ?_
 refine .seqK (.joinV ([U,U,.d (.bool ((a0.Kind==3)||(a0.Kind==4)))]++us 8) ⟨[(cB a0)],[]⟩ rfl ?_ ?_)
 refine SWs.region ?_
 rcases zD (a0.Kind==3)with hb1 | hb1
 simp only[seval,EMB,SL,PB,hb1]
 simp only[seval,EMB,SL,PB,hb1]
 refine Mir.toK (.ret QB)
def iz(a0:ae)(a1:ay):Option Bool:=if (a1.Kind==1)=true then some (a1.Rate==0)else if (a1.Kind==2)=true then some (decide (a1.Rate>0))else bindO (cO a0 a1.Center) λ(y1:Int×Int)=>bindO (cO a1.To a1.Center) λ(y2:Int×Int)=>bindO (bindO (fF (ay.mk a1.Kind a1.To a1.Center a1.Rate)) λ(y3:Bool)=>if y3=true then if (decide (a1.Rate>0))=true then if (decide (y1.2>0))=true then some (y1.2==y2.2)else some false else some false else some false) λ(v1:Bool)=>some v1
theorem ip_right_spec{a0:ae}{a1:ay}{y:Bool}(h:iz a0 a1=some y):Spec gP 136 [.agg (cF a0),.agg (cB a1)] (.d (.bool y)):=by
 refine auB Tryz.func136 (λy:Bool=>.d (.bool y)) ?_ h
 unfold iz
 refine .sB ?_
 refine .seqK (.sB ?_)
 refine .block (.sB ?_)
 refine .cond rfl (λhb5=>?_) (λhb5=>?_)
 refine .sB ?_
 refine .ret QB
 refine .sB ?_
 refine .cond rfl (λhb7=>?_) (λhb7=>?_)
 refine .sB ?_
 refine .ret QB
 refine .skip (Mir.toB (Mir.toK (.seqK (.bind λy1 hy8=>.region λe h=>WB ?_))))
 refine .byB (dj hy8) (mB ?_ h)
 refine .seqK (.bind λy2 hy9=>.region λe h=>WB ?_)
 refine .byB (dj hy9) (mB ?_ h)
 refine .seqK (Mir.joinO (λv1:Bool=>([U,U,U,U,.d (.bool v1)]++us 47)) (λv1=>⟨[(cF a0),(cB a1)],[]⟩) (λ_=>rfl) ?_ ?_)
 refine .bind λy3 hy10=>.ite (λhb11=>?_) (λhb11=>?_)
 refine .ite (λhb12=>?_) (λhb12=>?_)
 refine .ite (λhb13=>?_) (λhb13=>?_)
 refine .region λe h=>?_
 simp only[seval,EMB,hb11,hb12,hb13]
 refine SpecS.by (dl hy10) (by simp only[seval,FMB,hb11,hb12,hb13]) ?_
 simp only[seval,EMB,hb11,hb12,hb13]
 cases h
 simp only[seval,FMB,hb11,hb12,hb13]
 refine .region λe h=>?_
 simp only[seval,EMB,hb11,hb12,hb13]
 refine SpecS.by (dl hy10) (by simp only[seval,FMB,hb11,hb12,hb13]) ?_
 simp only[seval,EMB,hb11,hb12,hb13]
 cases h
 simp only[seval,FMB,hb11,hb12,hb13]
 refine .region λe h=>?_
 simp only[seval,EMB,hb11,hb12]
 refine SpecS.by (dl hy10) (by simp only[seval,FMB,hb11,hb12]) ?_
 simp only[seval,EMB,hb11,hb12]
 cases h
 simp only[seval,FMB,hb11,hb12]
 refine .region λe h=>?_
 simp only[seval,EMB,hb11]
 refine SpecS.by (dl hy10) (by simp only[seval,FMB,hb11]) ?_
 simp only[seval,EMB,hb11]
 cases h
 simp only[seval,FMB,hb11]
 intro v1
 refine Mir.toK (.ret QB)
def eU(a0:ae)(a1:ay):Option Int:=bindO (iz (ae.mk a0.X a0.Y a0.Z) (ay.mk a1.Kind a1.To a1.Center a1.Rate)) λ(y1:Bool)=>if (!y1)=true then some 1 else bindO (fF (ay.mk a1.Kind a1.To a1.Center a1.Rate)) λ(y2:Bool)=>bindX (if y2=true then bindO (cO (ae.mk a0.X a0.Y a0.Z) a1.Center) λ(y3:Int×Int)=>bindO (if (decide (y3.2>10000000))=true then some true else bindO (ct a1.Center.X 0) λ(y4:Int)=>if (decide (y4>10000000))=true then some true else bindO (ct a1.Center.Y 0) λ(y5:Int)=>some (decide (y5>10000000))) λ(v1:Bool)=>if v1=true then some (.ret 11)else some (.go [a0.X,a0.Y,a0.Z,a1.To.X,a1.To.Y,a1.To.Z,kP.wrap (a1.Center.X+(kP.wrap y3.2)),kP.wrap (a1.Center.X-(kP.wrap y3.2)),kP.wrap (a1.Center.Y+(kP.wrap y3.2)),kP.wrap (a1.Center.Y-(kP.wrap y3.2))])else some (.go [a0.X,a0.Y,a0.Z,a1.To.X,a1.To.Y,a1.To.Z])) λ(v2:(List Int))=>bindX (az (okIdx v2) ( aI (λ(i1:Nat) (e1:Int) (v3:Unit)=>bindO (ct e1 0) λ(y6:Int)=>if (decide (y6>10000000))=true then some (.ret (.ret 11))else some (.go ())) (λ(v3:Unit)=>some (.go ())) v2 0 ())) λ(v4:Unit)=>some 0
theorem ip_Valid_spec{a0:ae}{a1:ay}{y:Int}(h:eU a0 a1=some y):Spec gP 110 [.agg (cF a0),.agg (cB a1)] (.d (.int .i64 y)):=by
 refine auB Tryz.func110 (λy:Int=>.d (.int .i64 y)) ?_ h
 unfold eU
 refine .sR λe h=>?_
 simp only[seval,EMB,eInt]
 refine mU e (.seqK (.seqK (.bind λy1 hy1=>.region λe h=>?_))) h
 simp only[seval,EMB,eInt]
 refine SpecS.by (ip_right_spec hy1) (by simp only[seval,FMB,eInt]) ?_
 simp only[seval,EMB,eInt]
 refine mU e (.cond rfl (λhb3=>?_) (λhb3=>?_)) h
 refine .sB ?_
 refine .ret QB
 refine .skip (Mir.toK (.sR λe h=>?_))
 simp only[seval,EMB,(oL 6),eInt]
 refine mU e (.seqK (.seqK (.bind λy2 hy4=>.region λe h=>?_))) h
 simp only[seval,EMB,eInt]
 refine SpecS.by (dl hy4) (by simp only[seval,FMB,eInt]) ?_
 simp only[seval,EMB,eInt]
 refine mU e (Mir.join (λv2:(List Int)=>([U,U,U,U,U,.d (.list (zB (eInt .i64) v2))]++us 85)) (λv2=>⟨[(cF a0),(cB a1)],[]⟩) (λ_=>rfl) ?_ ?_) h
 refine .cond rfl (λhb13=>?_) (λhb13=>?_)
 refine .seqK (.bind λy3 hy14=>.region λe h=>?_)
 simp only[seval,EMB,eInt]
 refine SpecS.by (dj hy14) (by simp only[seval,FMB,eInt]) ?_
 simp only[seval,EMB,eInt]
 refine mU e (.seqK (.seqK (Mir.joinO (λv1:Bool=>([U,U,U,.ptr 1 0,U,.full (zB (eInt .i64) [a0.X,a0.Y,a0.Z,a1.To.X,a1.To.Y,a1.To.Z]),U,.d (.int .u64 y3.2),U,U,U,U,U,U,U,U,U,U,U,U,U,U,U,U,U,U,U,U,U,U,U,U,U,U,U,U,U,U,U,U,U,U,U,U,U,U,U,U,U,U,U,U,U,U,U,.d (.bool v1)]++us 35)) (λv1=>⟨[(cF a0),(cB a1)],[]⟩) (λ_=>rfl) ?_ ?_))) h
 refine .ite (λhb15=>?_) (λhb15=>?_)
 refine .region λe h=>?_
 simp only[seval,EMB,eInt,hb15]
 cases h
 simp only[seval,FMB,eInt,hb15]
 refine .bind λy4 hy16=>.ite (λhb17=>?_) (λhb17=>?_)
 refine .region λe h=>?_
 simp only[seval,EMB,eInt,hb15,hb17]
 refine SpecS.by (b9 hy16) (by simp only[seval,FMB,eInt,hb15,hb17]) ?_
 simp only[seval,EMB,eInt,hb15,hb17]
 cases h
 simp only[seval,FMB,eInt,hb15,hb17]
 refine .bind λy5 hy18=>.region λe h=>?_
 simp only[seval,EMB,eInt,hb15,hb17]
 refine SpecS.by (b9 hy16) (by simp only[seval,FMB,eInt,hb15,hb17]) ?_
 simp only[seval,EMB,eInt,hb15,hb17]
 refine SpecS.by (b9 hy18) (by simp only[seval,FMB,eInt,hb15,hb17]) ?_
 simp only[seval,EMB,eInt,hb15,hb17]
 cases h
 simp only[seval,FMB,eInt,hb15,hb17]
 intro v1
 refine Mir.toK (.cond rfl (λhb20=>?_) (λhb20=>?_))
 refine .sR λe h=>?_
 simp only[seval,EMB,eInt]
 refine mU e (.ret λe h=>?_) h
 cases h
 simp only[seval,FMB,eInt]
 refine .skip (Mir.toK (.sR λe h=>?_))
 simp only[seval,EMB,eInt]
 refine mU e (.region λe h=>?_) h
 simp only[seval,EMB,(oL 4),(oL 10),eInt]
 cases h
 simp only[seval,FMB,eInt]
 refine .skip λe h=>?_
 cases h
 simp only[seval,FMB,eInt]
 intro v2
 refine Mir.toK (.seqK (.sR λe h=>?_))
 simp only[seval,EMB,eInt]
 refine mU e (Mir.join (λv4:Unit=>(us 91)) (λv4=>⟨[(cF a0),(cB a1)],[]⟩) (λ_=>rfl) ?_ ?_) h
 refine .block (.guard λqg85=>Mir.range (λ(i1:Nat) (v3:Unit)=>([U,U,U,U,U,U,U,U,U,U,U,U,U,U,U,U,U,U,U,U,U,U,U,U,U,U,U,U,U,U,U,U,U,U,U,U,U,U,U,U,U,U,U,U,U,U,U,U,U,U,U,U,U,U,U,U,U,U,U,U,U,U,U,U,U,U,U,U,U,U,U,U,U,U,U,U,U,U,U,U,U,.d (.list (zB (eInt .i64) v2)),.d (.int .i64 (v2.length:Int)),.d (.int .i64 (i1:Int))]++us 7)) (λi1 v3=>⟨[(cF a0),(cB a1)],[]⟩) qg85 (λ_ _=>rfl) (by simp only[seval,FMB,eInt,zNI]) (by simp only[seval,FMB,eInt,zNI]) ?_ ?_)
 intro i1 e1 v3 qr83
 refine .sR λe h=>?_
 simp only[seval,EMB,qr83,eInt]
 refine mU e (.seqK (.condT rfl (.skip (Mir.toK (.seqK (.block (.sR λe h=>?_))))))) h
 simp only[seval,EMB,qr83,zE,eInt]
 refine mU e (.seqK (.bind λy6 hy88=>.region λe h=>?_)) h
 simp only[seval,EMB,eInt]
 refine SpecS.by (b9 hy88) (by simp only[seval,FMB,eInt]) ?_
 simp only[seval,EMB,eInt]
 refine mU e (.cond rfl (λhb90=>?_) (λhb90=>?_)) h
 refine .sR λe h=>?_
 simp only[seval,EMB,eInt]
 refine mU e (.ret λe h=>?_) h
 cases h
 simp only[seval,FMB,eInt]
 refine .skip (Mir.toB (Mir.toK (.region λe h=>?_)))
 simp only[seval,EMB,eInt]
 cases h
 simp only[seval,FMB,eInt,qr83]
 intro v3 qd84
 refine .sR λe h=>?_
 simp only[seval,EMB,qd84,eInt]
 refine mU e (.seqK (.condF rfl (.exit λe h=>?_))) h
 cases h
 simp only[seval,FMB,eInt]
 intro v4
 refine Mir.toK (.sR λe h=>?_)
 simp only[seval,EMB,eInt]
 refine mU e (.ret λe h=>?_) h
 cases h
 simp only[seval,FMB,eInt]
def po_Move(a0:ae)(a1:ay):Option (aa×Int):=bindO (eU (ae.mk a0.X a0.Y a0.Z) (ay.mk a1.Kind a1.To a1.Center a1.Rate)) λ(y1:Int)=>if (y1 != 0)=true then some (aa.mk false [] [],y1)else if (decide (a1.Rate>1000000000000))=true then some (aa.mk false [] [],11)else bindO (az (decide (0≤a1.Kind∧a1.Kind<5)) ( if (a1.Kind==0)=true then bindO (bn 71 0) λ(y2:ap)=>bindO (bG 88 a1.To.X) λ(y3:ap)=>bindO (bG 89 a1.To.Y) λ(y4:ap)=>bindO (bG 90 a1.To.Z) λ(y5:ap)=>bindO (cq [y2,y3,y4,y5]) λ(y6:aa)=>some (y6.Skip,y6.Words,y6.Comment)else if (a1.Kind==1)=true then bindO (bn 71 0) λ(y7:ap)=>bindO (bG 88 a1.To.X) λ(y8:ap)=>bindO (bG 89 a1.To.Y) λ(y9:ap)=>bindO (bG 90 a1.To.Z) λ(y10:ap)=>bindO (cq [y7,y8,y9,y10]) λ(y11:aa)=>some (y11.Skip,y11.Words,y11.Comment)else if (a1.Kind==2)=true then bindO (bn 71 1) λ(y12:ap)=>bindO (bG 88 a1.To.X) λ(y13:ap)=>bindO (bG 89 a1.To.Y) λ(y14:ap)=>bindO (bG 90 a1.To.Z) λ(y15:ap)=>bindO (cq [y12,y13,y14,y15]) λ(y16:aa)=>some (y16.Skip,y16.Words,y16.Comment)else if (a1.Kind==3)=true then bindO (bn 71 2) λ(y17:ap)=>bindO (bG 88 a1.To.X) λ(y18:ap)=>bindO (bG 89 a1.To.Y) λ(y19:ap)=>bindO (bG 90 a1.To.Z) λ(y20:ap)=>bindO (cq [y17,y18,y19,y20]) λ(y21:aa)=>some (y21.Skip,y21.Words,y21.Comment)else bindO (bn 71 3) λ(y22:ap)=>bindO (bG 88 a1.To.X) λ(y23:ap)=>bindO (bG 89 a1.To.Y) λ(y24:ap)=>bindO (bG 90 a1.To.Z) λ(y25:ap)=>bindO (cq [y22,y23,y24,y25]) λ(y26:aa)=>some (y26.Skip,y26.Words,y26.Comment))) λ(v1:Bool×(List ap)×(List UInt8))=>if ((a1.Kind==3)||(a1.Kind==4))=true then bindO (bG 73 (kP.wrap (a1.Center.X-a0.X))) λ(y27:ap)=>bindO (bG 74 (kP.wrap (a1.Center.Y-a0.Y))) λ(y28:ap)=>az (okLen (v1.2.1.length+2)) ( if (a1.Kind != 1)=true then bindO (bG 70 a1.Rate) λ(y29:ap)=>az (okLen (v1.2.1.length+2+1)) ( some (aa.mk v1.1 (v1.2.1++[y27,y28]++[y29]) v1.2.2,0))else some (aa.mk v1.1 (v1.2.1++[y27,y28]) v1.2.2,0))else if (a1.Kind != 1)=true then bindO (bG 70 a1.Rate) λ(y30:ap)=>az (okLen (v1.2.1.length+1)) ( some (aa.mk v1.1 (v1.2.1++[y30]) v1.2.2,0))else some (aa.mk v1.1 v1.2.1 v1.2.2,0)
theorem po_Move_spec{a0:ae}{a1:ay}{y:aa×Int}(h:po_Move a0 a1=some y):Spec gP 67 [.agg (cF a0),.agg (cB a1)] (.tuple [.agg [.d (.bool y.1.Skip),.d (.list (zB ao y.1.Words)),.d (.str y.1.Comment)],.d (.int .i64 y.2)]):=by
 refine auB Tryz.func67 (λy:aa×Int=>.tuple [.agg [.d (.bool y.1.Skip),.d (.list (zB ao y.1.Words)),.d (.str y.1.Comment)],.d (.int .i64 y.2)]) ?_ h
 unfold po_Move
 refine .sB ?_
 refine .seqK (.seqK (.bind λy1 hy1=>.region λe h=>WB ?_))
 refine .byB (ip_Valid_spec hy1) (mB ?_ h)
 refine .sB ?_
 refine .cond rfl (λhb2=>?_) (λhb2=>?_)
 refine .sB ?_
 refine .ret QB
 refine .skip (Mir.toK (.seqK (.sB ?_)))
 refine .cond rfl (λhb3=>?_) (λhb3=>?_)
 refine .sB ?_
 refine .ret QB
 refine .skip (Mir.toK (.seqK (Mir.joinO (λv1:Bool×(List ap)×(List UInt8)=>([U,U,.ptr 0 0,.ptr 1 0,.ptr 2 0,U,U,.ptr 3 0]++us 69)) (λv1=>⟨[(cF a0),(cB a1),[.d (.bool false),.nil,.d (.str [])],[.d (.bool v1.1),.full (zB ao v1.2.1),.d (.str v1.2.2)]],[]⟩) (λ_=>rfl) ?_ ?_)))
 refine .guard λqi4=>.ite (λhb5=>?_) (λhb5=>?_)
 refine .bind λy2 hy6=>.bind λy3 hy7=>.bind λy4 hy8=>.bind λy5 hy9=>.bind λy6 hy10=>.regionD [] (by kernel_rfl) λe h=>?_
 simp only[seval,EMB,SB,(eq_of_beq hb5),glT,hb5]
 refine Spec.by (bc hy6) (by simp only[seval,FMB,hb5]) ?_
 simp only[seval,EMB,SB,hb5]
 refine Spec.by (ba hy7) (by simp only[seval,FMB,hb5]) ?_
 simp only[seval,EMB,SB,hb5]
 refine Spec.by (ba hy8) (by simp only[seval,FMB,hb5]) ?_
 simp only[seval,EMB,SB,hb5]
 refine Spec.by (ba hy9) (by simp only[seval,FMB,hb5]) ?_
 simp only[seval,EMB,SB,(oL 8),hb5]
 refine Spec.byF (bC hy10) (by simp only[seval,FMB,hb5]) ?_
 simp only[seval,EMB,SB,hb5]
 cases h
 simp only[seval,FMB,hb5]
 refine .ite (λhb11=>?_) (λhb11=>?_)
 refine .bind λy7 hy12=>.bind λy8 hy13=>.bind λy9 hy14=>.bind λy10 hy15=>.bind λy11 hy16=>.regionD [] (by kernel_rfl) λe h=>?_
 simp only[seval,EMB,SB,(eq_of_beq hb11),glT,hb5,hb11]
 refine Spec.by (bc hy12) (by simp only[seval,FMB,hb5,hb11]) ?_
 simp only[seval,EMB,SB,hb5,hb11]
 refine Spec.by (ba hy13) (by simp only[seval,FMB,hb5,hb11]) ?_
 simp only[seval,EMB,SB,hb5,hb11]
 refine Spec.by (ba hy14) (by simp only[seval,FMB,hb5,hb11]) ?_
 simp only[seval,EMB,SB,hb5,hb11]
 refine Spec.by (ba hy15) (by simp only[seval,FMB,hb5,hb11]) ?_
 simp only[seval,EMB,SB,(oL 8),hb5,hb11]
 refine Spec.byF (bC hy16) (by simp only[seval,FMB,hb5,hb11]) ?_
 simp only[seval,EMB,SB,hb5,hb11]
 cases h
 simp only[seval,FMB,hb5,hb11]
 refine .ite (λhb17=>?_) (λhb17=>?_)
 refine .bind λy12 hy18=>.bind λy13 hy19=>.bind λy14 hy20=>.bind λy15 hy21=>.bind λy16 hy22=>.regionD [] (by kernel_rfl) λe h=>?_
 simp only[seval,EMB,SB,(eq_of_beq hb17),glT,hb5,hb11,hb17]
 refine Spec.by (bc hy18) (by simp only[seval,FMB,hb5,hb11,hb17]) ?_
 simp only[seval,EMB,SB,hb5,hb11,hb17]
 refine Spec.by (ba hy19) (by simp only[seval,FMB,hb5,hb11,hb17]) ?_
 simp only[seval,EMB,SB,hb5,hb11,hb17]
 refine Spec.by (ba hy20) (by simp only[seval,FMB,hb5,hb11,hb17]) ?_
 simp only[seval,EMB,SB,hb5,hb11,hb17]
 refine Spec.by (ba hy21) (by simp only[seval,FMB,hb5,hb11,hb17]) ?_
 simp only[seval,EMB,SB,(oL 8),hb5,hb11,hb17]
 refine Spec.byF (bC hy22) (by simp only[seval,FMB,hb5,hb11,hb17]) ?_
 simp only[seval,EMB,SB,hb5,hb11,hb17]
 cases h
 simp only[seval,FMB,hb5,hb11,hb17]
 refine .ite (λhb23=>?_) (λhb23=>?_)
 refine .bind λy17 hy24=>.bind λy18 hy25=>.bind λy19 hy26=>.bind λy20 hy27=>.bind λy21 hy28=>.regionD [] (by kernel_rfl) λe h=>?_
 simp only[seval,EMB,SB,(eq_of_beq hb23),glT,hb5,hb11,hb17,hb23]
 refine Spec.by (bc hy24) (by simp only[seval,FMB,hb5,hb11,hb17,hb23]) ?_
 simp only[seval,EMB,SB,hb5,hb11,hb17,hb23]
 refine Spec.by (ba hy25) (by simp only[seval,FMB,hb5,hb11,hb17,hb23]) ?_
 simp only[seval,EMB,SB,hb5,hb11,hb17,hb23]
 refine Spec.by (ba hy26) (by simp only[seval,FMB,hb5,hb11,hb17,hb23]) ?_
 simp only[seval,EMB,SB,hb5,hb11,hb17,hb23]
 refine Spec.by (ba hy27) (by simp only[seval,FMB,hb5,hb11,hb17,hb23]) ?_
 simp only[seval,EMB,SB,(oL 8),hb5,hb11,hb17,hb23]
 refine Spec.byF (bC hy28) (by simp only[seval,FMB,hb5,hb11,hb17,hb23]) ?_
 simp only[seval,EMB,SB,hb5,hb11,hb17,hb23]
 cases h
 simp only[seval,FMB,hb5,hb11,hb17,hb23]
 have hz29:a1.Kind=4:=by have h0:=of_decide_eq_true qi4;have h1:=bh hb5;have h2:=bh hb11;have h3:=bh hb17;have h4:=bh hb23;omega
 refine .bind λy22 hy30=>.bind λy23 hy31=>.bind λy24 hy32=>.bind λy25 hy33=>.bind λy26 hy34=>.regionD [] (by kernel_rfl) λe h=>?_
 simp only[seval,EMB,SB,hz29,glT,hb5,hb11,hb17,hb23]
 refine Spec.by (bc hy30) (by simp only[seval,FMB,hb5,hb11,hb17,hb23]) ?_
 simp only[seval,EMB,SB,hb5,hb11,hb17,hb23]
 refine Spec.by (ba hy31) (by simp only[seval,FMB,hb5,hb11,hb17,hb23]) ?_
 simp only[seval,EMB,SB,hb5,hb11,hb17,hb23]
 refine Spec.by (ba hy32) (by simp only[seval,FMB,hb5,hb11,hb17,hb23]) ?_
 simp only[seval,EMB,SB,hb5,hb11,hb17,hb23]
 refine Spec.by (ba hy33) (by simp only[seval,FMB,hb5,hb11,hb17,hb23]) ?_
 simp only[seval,EMB,SB,(oL 8),hb5,hb11,hb17,hb23]
 refine Spec.byF (bC hy34) (by simp only[seval,FMB,hb5,hb11,hb17,hb23]) ?_
 simp only[seval,EMB,SB,hb5,hb11,hb17,hb23]
 cases h
 simp only[seval,FMB,hb5,hb11,hb17,hb23]
 intro v1
 refine Mir.toK (.seqK (.seqK (.joinV ([U,U,.ptr 0 0,.ptr 1 0,.ptr 2 0,U,U,.ptr 3 0,U,U,U,U,U,U,U,U,U,U,U,U,U,U,U,U,U,U,U,U,U,U,U,U,U,U,U,U,U,U,U,U,U,U,U,U,U,.d (.bool ((a1.Kind==3)||(a1.Kind==4)))]++us 31) ⟨[(cF a0),(cB a1),[.d (.bool false),.nil,.d (.str [])],[.d (.bool v1.1),.full (zB ao v1.2.1),.d (.str v1.2.2)]],[]⟩ rfl ?_ ?_)))
 refine SWs.region ?_
 rcases zD (a1.Kind==3)with hb35 | hb35
 simp only[seval,EMB,SL,PB,hb35]
 simp only[seval,EMB,SL,PB,hb35]
 refine Mir.toK (.cond rfl (λhb36=>?_) (λhb36=>?_))
 refine .bind λy27 hy37=>.bind λy28 hy38=>.guard λq39=>.regionD [] (by kernel_rfl) λe h=>?_
 simp only[seval,EMB,SB]
 refine Spec.by (ba hy37) (by simp only[seval,FMB]) ?_
 simp only[seval,EMB,SB]
 refine Spec.by (ba hy38) (by simp only[seval,FMB]) ?_
 simp only[seval,EMB,SB,(oL 4),q39]
 refine mU e (.seqK (.sB ?_)) h
 refine .cond rfl (λhb40=>?_) (λhb40=>?_)
 refine .bind λy29 hy41=>.guard λq42=>.regionD [] (by kernel_rfl) λe h=>?_
 simp only[seval,EMB,SB]
 refine Spec.by (ba hy41) (by simp only[seval,FMB]) ?_
 simp only[seval,EMB,SB,(oL 2),xLA,q42]
 refine mU e (.sB ?_) h
 refine .ret QB
 refine .skip (Mir.toK (.sB ?_))
 refine .ret QB
 refine .skip (Mir.toK (.seqK (.sB ?_)))
 refine .cond rfl (λhb43=>?_) (λhb43=>?_)
 refine .bind λy30 hy44=>.guard λq45=>.regionD [] (by kernel_rfl) λe h=>?_
 simp only[seval,EMB,SB]
 refine Spec.by (ba hy44) (by simp only[seval,FMB]) ?_
 simp only[seval,EMB,SB,(oL 2),q45]
 refine mU e (.sB ?_) h
 refine .ret QB
 refine .skip (Mir.toK (.sB ?_))
 refine .ret QB
def po_plain(a0:(List aW))(a1:ae)(a2:bo):Option ((List aa)×Int):=bindX (if ((decide (a1.X>10000000))||(decide (a1.X<(-10000000))))=true then some (.ret ([],11))else if ((decide (a1.Y>10000000))||(decide (a1.Y<(-10000000))))=true then some (.ret ([],11))else if ((decide (a1.Z>10000000))||(decide (a1.Z<(-10000000))))=true then some (.ret ([],11))else some (.go ())) λ(v1:Unit)=>bindO (bn 71 0) λ(y1:ap)=>bindO (bn 71 90) λ(y2:ap)=>bindO (bG 71 a2.Work) λ(y3:ap)=>bindO (bn 71 49) λ(y4:ap)=>bindO (bn 71 98) λ(y5:ap)=>bindO (cq [y1,y2,y3,y4,y5]) λ(y6:aa)=>bindX (az (okIdx a0) ( aI (λ(i1:Nat) (e1:aW) (v2:(List aa)×ae)=>bindX (bindO (jk e1.Tool) λ(y7:(List aa)×Int)=>if (y7.2 != 0)=true then some (.ret (.ret (.ret ([],y7.2))))else az (okLen (v2.1.length+y7.1.length)) ( az (okIdx e1.Moves) ( aI (λ(i2:Nat) (e2:ay) (v3:(List aa)×ae)=>bindO (po_Move v3.2 e2) λ(y8:aa×Int)=>if (y8.2 != 0)=true then some (.ret (.ret (.ret (.ret ([],y8.2)))))else az (okLen (v3.1.length+1)) ( some (.go (v3.1++[y8.1],e2.To)))) (λ(v3:(List aa)×ae)=>some (.go (v3.1,v3.2))) e1.Moves 0 (v2.1++y7.1,v2.2)))) λ(v4:(List aa)×ae)=>some (.go (v4.1,v4.2))) (λ(v2:(List aa)×ae)=>some (.go (v2.1,v2.2))) a0 0 ([y6],ae.mk a1.X a1.Y a1.Z))) λ(v5:(List aa)×ae)=>bindO (bn 71 49) λ(y9:ap)=>bindO (cq [y9]) λ(y10:aa)=>bindO (bn 77 30) λ(y11:ap)=>bindO (cq [y11]) λ(y12:aa)=>az (okLen (v5.1.length+2)) ( some (v5.1++[y10,y12],0))
theorem po_plain_spec{a0:(List aW)}{a1:ae}{a2:bo}{y:(List aa)×Int}(h:po_plain a0 a1 a2=some y):Spec gP 26 [.d (.list (zB bi a0)),.agg (cF a1),.agg (cE a2)] (.tuple [.d (.list (zB ac y.1)),.d (.int .i64 y.2)]):=by
 refine auB Tryz.func26 (λy:(List aa)×Int=>.tuple [.d (.list (zB ac y.1)),.d (.int .i64 y.2)]) ?_ h
 unfold po_plain
 refine .sR λe h=>?_
 simp only[seval,EMB,eInt]
 refine mU e (.seqK (.sR λe h=>?_)) h
 simp only[seval,EMB,(oL 3),(nr rfl:((3:Nat):Int)=3),eInt]
 refine mU e (Mir.join (λv1:Unit=>([.d (.list (zB bi a0)),U,U,U,.ptr 0 0,.ptr 1 0]++us 95)) (λv1=>⟨[(cF a1),(cE a2)],[]⟩) (λ_=>rfl) ?_ ?_) h
 refine .block (.loopR 15 (.sR λe h=>?_))
 simp only[seval,EMB,eInt]
 refine mU e (.seqK (.condT rfl (.skip (Mir.toK (.seqK (.block (.sR λe h=>?_))))))) h
 simp only[seval,EMB,eInt]
 refine mU e (.seqK (.joinV ([.d (.list (zB bi a0)),U,U,U,.ptr 0 0,.ptr 1 0,U,U,U,U,U,U,U,U,U,U,U,U,U,U,U,U,U,U,U,U,.full (zB (eInt .i64) [a1.X,a1.Y,a1.Z]),.d (.int .i64 3),.d (.int .i64 0),U,U,U,U,U,U,U,U,.d (.bool ((decide (a1.X>10000000))||(decide (a1.X<(-10000000)))))]++us 63) ⟨[(cF a1),(cE a2)],[]⟩ rfl ?_ ?_)) h
 refine SWs.region ?_
 rcases zD (decide (a1.X>10000000))with hb18 | hb18
 simp only[seval,EMB,SL,PB,hb18,eInt]
 simp only[seval,EMB,SL,PB,hb18,eInt]
 refine Mir.toK (.cond rfl (λhb20=>?_) (λhb20=>?_))
 refine .sR λe h=>?_
 simp only[seval,EMB,eInt]
 refine mU e (.ret λe h=>?_) h
 cases h
 simp only[seval,FMB,eInt]
 refine .skip (Mir.toB (Mir.toK (.region λe h=>?_)))
 simp only[seval,EMB,(nr rfl:kP.wrap 1=1),eInt]
 refine Mir.useN (e:=e) ?_ h
 refine .sR λe h=>?_
 simp only[seval,EMB,eInt]
 refine mU e (.seqK (.condT rfl (.skip (Mir.toK (.seqK (.block (.sR λe h=>?_))))))) h
 simp only[seval,EMB,eInt]
 refine mU e (.seqK (.joinV ([.d (.list (zB bi a0)),U,U,U,.ptr 0 0,.ptr 1 0,U,U,U,U,U,U,U,U,U,U,U,U,U,U,U,U,U,U,U,U,.full (zB (eInt .i64) [a1.X,a1.Y,a1.Z]),.d (.int .i64 3),.d (.int .i64 1),U,U,U,U,U,U,U,U,.d (.bool ((decide (a1.Y>10000000))||(decide (a1.Y<(-10000000)))))]++us 63) ⟨[(cF a1),(cE a2)],[]⟩ rfl ?_ ?_)) h
 refine SWs.region ?_
 rcases zD (decide (a1.Y>10000000))with hb23 | hb23
 simp only[seval,EMB,SL,PB,hb23,eInt]
 simp only[seval,EMB,SL,PB,hb23,eInt]
 refine Mir.toK (.cond rfl (λhb25=>?_) (λhb25=>?_))
 refine .sR λe h=>?_
 simp only[seval,EMB,eInt]
 refine mU e (.ret λe h=>?_) h
 cases h
 simp only[seval,FMB,eInt]
 refine .skip (Mir.toB (Mir.toK (.region λe h=>?_)))
 simp only[seval,EMB,(nr rfl:kP.wrap 2=2),eInt]
 refine Mir.useN (e:=e) ?_ h
 refine .sR λe h=>?_
 simp only[seval,EMB,eInt]
 refine mU e (.seqK (.condT rfl (.skip (Mir.toK (.seqK (.block (.sR λe h=>?_))))))) h
 simp only[seval,EMB,eInt]
 refine mU e (.seqK (.joinV ([.d (.list (zB bi a0)),U,U,U,.ptr 0 0,.ptr 1 0,U,U,U,U,U,U,U,U,U,U,U,U,U,U,U,U,U,U,U,U,.full (zB (eInt .i64) [a1.X,a1.Y,a1.Z]),.d (.int .i64 3),.d (.int .i64 2),U,U,U,U,U,U,U,U,.d (.bool ((decide (a1.Z>10000000))||(decide (a1.Z<(-10000000)))))]++us 63) ⟨[(cF a1),(cE a2)],[]⟩ rfl ?_ ?_)) h
 refine SWs.region ?_
 rcases zD (decide (a1.Z>10000000))with hb28 | hb28
 simp only[seval,EMB,SL,PB,hb28,eInt]
 simp only[seval,EMB,SL,PB,hb28,eInt]
 refine Mir.toK (.cond rfl (λhb30=>?_) (λhb30=>?_))
 refine .sR λe h=>?_
 simp only[seval,EMB,eInt]
 refine mU e (.ret λe h=>?_) h
 cases h
 simp only[seval,FMB,eInt]
 refine .skip (Mir.toB (Mir.toK (.region λe h=>?_)))
 simp only[seval,EMB,(nr rfl:kP.wrap 3=3),eInt]
 refine Mir.useN (e:=e) ?_ h
 refine .sR λe h=>?_
 simp only[seval,EMB,eInt]
 refine mU e (.seqK (.condF rfl (.exit λe h=>?_))) h
 cases h
 simp only[seval,FMB,eInt]
 intro v1
 refine Mir.toK (.seqK (.bind λy1 hy31=>.bind λy2 hy32=>.bind λy3 hy33=>.bind λy4 hy34=>.bind λy5 hy35=>.bind λy6 hy36=>.regionT 4 [] (by kernel_rfl) λe h=>?_))
 simp only[seval,EMB,al,w_eq,SB,eInt]
 refine Spec.by (bc hy31) (by simp only[seval,FMB,eInt]) ?_
 simp only[seval,EMB,al,w_eq,SB,eInt]
 refine Spec.by (bc hy32) (by simp only[seval,FMB,eInt]) ?_
 simp only[seval,EMB,al,w_eq,SB,eInt]
 refine regW.alt 5 rfl ?_
 simp only[seval,EMB,al,w_eq,eInt]
 refine SpecS.by (ba hy33) (by simp only[seval,FMB,eInt]) ?_
 simp only[seval,EMB,al,w_eq,eInt]
 refine SpecS.by (bc hy34) (by simp only[seval,FMB,eInt]) ?_
 simp only[seval,EMB,al,w_eq,eInt]
 refine SpecS.by (bc hy35) (by simp only[seval,FMB,eInt]) ?_
 simp only[seval,EMB,al,w_eq,(oL 10),eInt]
 refine SpecS.byF (bC hy36) (by simp only[seval,FMB,eInt]) ?_
 simp only[seval,EMB,al,w_eq,eInt]
 refine dt (es:=zB ac [y6]) app_61 (by simp only[seval,EMB,(oL 3),eInt]) (by decide) (regW.of ?_)
 simp only[seval,EMB,al,w_eq,(oL 3),eInt]
 refine mU e (.sR λe h=>?_) h
 simp only[seval,EMB,eInt]
 refine mU e (.seqK (.sR λe h=>?_)) h
 simp only[seval,EMB,eInt]
 refine mU e (Mir.join (λv5:(List aa)×ae=>([U,U,U,U,U,U,U,U,U,U,.own 0 (zB ac v5.1)]++us 90)) (λv5=>⟨[(cF a1),(cE a2),(cF v5.2)],[(96,v5.1.length)]⟩) (λ_=>rfl) ?_ ?_) h
 refine .block (.guard λq1=>Mir.range (λ(i1:Nat) (v2:(List aa)×ae)=>([U,U,U,U,U,U,U,U,U,U,.own 0 (zB ac v2.1),.ptr 2 0,U,U,U,U,U,U,U,U,U,U,U,U,U,U,U,U,U,U,U,U,U,U,U,U,U,U,U,U,U,U,U,U,U,U,U,U,U,U,.d (.list (zB bi a0)),.d (.int .i64 (a0.length:Int)),.d (.int .i64 (i1:Int))]++us 48)) (λi1 v2=>⟨[(cF a1),(cE a2),(cF v2.2)],[(96,v2.1.length)]⟩) q1 (λ_ _=>rfl) (by simp only[seval,FMB,eInt,zNI]) (by simp only[seval,FMB,eInt,zNI]) ?_ ?_)
 intro i1 e1 v2 q2
 refine .sR λe h=>?_
 simp only[seval,EMB,q2,eInt]
 refine mU e (.seqK (.condT rfl (.skip (Mir.toK (.seqK (Mir.join (λv4:(List aa)×ae=>([U,U,U,U,U,U,U,U,U,U,.own 0 (zB ac v4.1),.ptr 2 0,U,U,U,U,U,U,U,U,U,U,U,U,U,U,U,U,U,U,U,U,U,U,U,U,U,U,U,U,U,U,U,U,U,U,U,U,U,U,.d (.list (zB bi a0)),.d (.int .i64 (a0.length:Int)),.d (.int .i64 (i1:Int))]++us 48)) (λv4=>⟨[(cF a1),(cE a2),(cF v4.2)],[(96,v4.1.length)]⟩) (λ_=>rfl) ?_ ?_)))))) h
 refine .block (.sR λe h=>?_)
 simp only[seval,EMB,q2,zE,eInt]
 refine mU e (.seqK (.bind λy7 h1=>.region λe h=>?_)) h
 simp only[seval,EMB,eInt]
 refine SpecS.by (po_Change_spec h1) (by simp only[seval,FMB,eInt]) ?_
 simp only[seval,EMB,eInt]
 refine mU e (.seqK (.sR λe h=>?_)) h
 simp only[seval,EMB,eInt]
 refine mU e (.cond rfl (λh2=>?_) (λh2=>?_)) h
 refine .sR λe h=>?_
 simp only[seval,EMB,eInt]
 refine mU e (.ret λe h=>?_) h
 cases h
 simp only[seval,FMB,eInt]
 refine .skip (Mir.toK (.seqK (.guard λq3=>.region λe h=>?_)))
 simp only[seval,EMB,q3,eInt]
 refine mU e (.sR λe h=>?_) h
 simp only[seval,EMB,eInt]
 refine mU e (.block (.guard λq4=>Mir.range (λ(i2:Nat) (v3:(List aa)×ae)=>([U,U,U,U,U,U,U,U,U,U,.own 0 (zB ac v3.1),.ptr 2 0,U,U,U,U,U,U,U,U,U,U,U,U,U,U,U,U,U,U,U,U,U,U,U,U,U,U,U,U,U,U,U,U,U,U,U,U,U,U,.d (.list (zB bi a0)),.d (.int .i64 (a0.length:Int)),.d (.int .i64 (i1:Int)),U,U,U,U,U,U,U,U,U,U,U,U,U,U,U,U,.d (.list (zB ci e1.Moves)),.d (.int .i64 (e1.Moves.length:Int)),.d (.int .i64 (i2:Int))]++us 29)) (λi2 v3=>⟨[(cF a1),(cE a2),(cF v3.2),(cH e1)],[(96,v3.1.length)]⟩) q4 (λ_ _=>rfl) (by simp only[seval,FMB,eInt,zNI]) (by simp only[seval,FMB,eInt,zNI]) ?_ ?_)) h
 intro i2 e2 v3 q5
 refine .sR λe h=>?_
 simp only[seval,EMB,q5,eInt]
 refine mU e (.seqK (.condT rfl (.skip (Mir.toK (.seqK (.block (.sR λe h=>?_))))))) h
 simp only[seval,EMB,q5,zE,eInt]
 refine mU e (.seqK (.bind λy8 h3=>.region λe h=>?_)) h
 simp only[seval,EMB,eInt]
 refine SpecS.by (po_Move_spec h3) (by simp only[seval,FMB,eInt]) ?_
 simp only[seval,EMB,eInt]
 refine mU e (.seqK (.sR λe h=>?_)) h
 simp only[seval,EMB,eInt]
 refine mU e (.cond rfl (λh4=>?_) (λh4=>?_)) h
 refine .sR λe h=>?_
 simp only[seval,EMB,eInt]
 refine mU e (.ret λe h=>?_) h
 cases h
 simp only[seval,FMB,eInt]
 refine .skip (Mir.toK (.guard λq6=>.regionD [] (by kernel_rfl) λe h=>?_))
 simp only[seval,EMB,SB,(oL 3),q6,eInt]
 refine mU e (.region λe h=>?_) h
 simp only[seval,EMB,eInt]
 cases h
 simp only[seval,FMB,eInt,q5]
 intro v3 q7
 refine .sR λe h=>?_
 simp only[seval,EMB,q7,eInt]
 refine mU e (.seqK (.condF rfl (.exit λe h=>?_))) h
 cases h
 simp only[seval,FMB,eInt]
 intro v4
 refine Mir.toK (.region λe h=>?_)
 simp only[seval,EMB,eInt]
 cases h
 simp only[seval,FMB,eInt,q2]
 intro v2 q8
 refine .sR λe h=>?_
 simp only[seval,EMB,q8,eInt]
 refine mU e (.seqK (.condF rfl (.exit λe h=>?_))) h
 cases h
 simp only[seval,FMB,eInt]
 intro v5
 refine Mir.toK (.seqK (.bind λy9 h5=>.bind λy10 h6=>.bind λy11 h7=>.bind λy12 h8=>.guard λq9=>.region λe h=>?_))
 simp only[seval,EMB,eInt]
 refine SpecS.by (bc h5) (by simp only[seval,FMB,eInt]) ?_
 simp only[seval,EMB,(oL 2),eInt]
 refine SpecS.byF (bC h6) (by simp only[seval,FMB,eInt]) ?_
 simp only[seval,EMB,eInt]
 refine SpecS.by (bc h7) (by simp only[seval,FMB,eInt]) ?_
 simp only[seval,EMB,(oL 2),eInt]
 refine SpecS.byF (bC h8) (by simp only[seval,FMB,eInt]) ?_
 simp only[seval,EMB,(oL 6),q9,eInt]
 refine mU e (.ret λe h=>?_) h
 cases h
 simp only[seval,FMB,eInt]
def md_New :Option ak:=some (ak.mk 0 90000 54000 49000 98000 0 0 0)
theorem md_New_spec {y:ak}(h:md_New=some y):Spec gP 28 [] (.agg [.d (.int .i64 y.Motion),.d (.int .i64 y.Distance),.d (.int .i64 y.Work),.d (.int .i64 y.Length),.d (.int .i64 y.Return),.d (.int .i64 y.Feed),.d (.int .i64 y.Tool),.d (.int .i64 y.Offset)]):=by
 refine auB Tryz.func28 (λy:ak=>.agg [.d (.int .i64 y.Motion),.d (.int .i64 y.Distance),.d (.int .i64 y.Work),.d (.int .i64 y.Length),.d (.int .i64 y.Return),.d (.int .i64 y.Feed),.d (.int .i64 y.Tool),.d (.int .i64 y.Offset)]) ?_ h
 unfold md_New
 refine .sB ?_
 refine .sB ?_
 refine .ret QB
def iv(a0:aa):Option Int:=bindX (az (okIdx a0.Words) ( aI (λ(i1:Nat) (e1:ap) (v1:(List (Int×Bool))×(List (Int×Bool)))=>bindX (bindX (if (e1.Letter==71)=true then bindO (ir e1.Value) λ(y1:Int)=>bindO (if (y1==0)=true then some true else some ((mget v1.2 y1).getD false)) λ(v2:Bool)=>if v2=true then some (.ret (.ret (.ret (.ret 1))))else some (.ret (.go (v1.1,mput v1.2 y1 true)))else if (e1.Letter==70)=true then if (decide (e1.Value<0))=true then some (.ret (.ret (.ret (.ret 1))))else some (.go ())else bindO (if (e1.Letter==84)=true then some (e1.Letter==84)else some (e1.Letter==72)) λ(v3:Bool)=>if v3=true then if ((decide (e1.Value<0))||((kK e1.Value 1000) != 0))=true then some (.ret (.ret (.ret (.ret 1))))else some (.go ())else some (.go ())) λ(v4:Unit)=>if ((mget v1.1 e1.Letter).getD false)=true then some (.ret (.ret (.ret 1)))else some (.go (mput v1.1 e1.Letter true,v1.2))) λ(v5:(List (Int×Bool))×(List (Int×Bool)))=>some (.go (v5.1,v5.2))) (λ(v1:(List (Int×Bool))×(List (Int×Bool)))=>some (.go (v1.1,v1.2))) a0.Words 0 ([],[]))) λ(v6:(List (Int×Bool))×(List (Int×Bool)))=>some 0
theorem iu{a0:aa}{y:Int}(h:iv a0=some y):Spec gP 101 [.agg (cG a0)] (.d (.int .i64 y)):=by
 refine auB Tryz.func101 (λy:Int=>.d (.int .i64 y)) ?_ h
 unfold iv
 refine .sB ?_
 refine .seqK (.regionW λe h=>regW.alt 0 rfl ?_)
 simp only[seval,EMB,al,w_eq]
 refine c8 .u8 (regW.of ?_)
 simp only[seval,EMB,al,w_eq,xMN]
 refine mU e (.seqK (.regionW λe h=>regW.alt 0 rfl ?_)) h
 simp only[seval,EMB,al,w_eq]
 refine c8 .i64 (regW.of ?_)
 simp only[seval,EMB,al,w_eq,xMN]
 refine mU e (.seqK (.sB ?_)) h
 refine Mir.join (λv6:(List (Int×Bool))×(List (Int×Bool))=>(us 58)) (λv6=>⟨[(cG a0),[.mapc .u8 (zB (ekv evB) v6.1)],[.mapc .i64 (zB (ekv evB) v6.2)]],[]⟩) (λ_=>rfl) ?_ ?_
 refine .block (.guard λq1=>Mir.range (λ(i1:Nat) (v1:(List (Int×Bool))×(List (Int×Bool)))=>([U,U,U,.mp 1,.mp 2,U,U,U,U,U,U,.d (.list (zB ao a0.Words)),.d (.int .i64 (a0.Words.length:Int)),.d (.int .i64 (i1:Int))]++us 44)) (λi1 v1=>⟨[(cG a0),[.mapc .u8 (zB (ekv evB) v1.1)],[.mapc .i64 (zB (ekv evB) v1.2)]],[]⟩) q1 (λ_ _=>rfl) (by simp only[seval,FMB,zNI]) (by simp only[seval,FMB,zNI]) ?_ ?_)
 intro i1 e1 v1 q2
 refine .sR λe h=>?_
 simp only[seval,EMB,q2]
 refine mU e (.seqK (.condT rfl (.skip (Mir.toK (.seqK (Mir.join (λv5:(List (Int×Bool))×(List (Int×Bool))=>([U,U,U,.mp 1,.mp 2,U,U,U,U,U,U,.d (.list (zB ao a0.Words)),.d (.int .i64 (a0.Words.length:Int)),.d (.int .i64 (i1:Int))]++us 44)) (λv5=>⟨[(cG a0),[.mapc .u8 (zB (ekv evB) v5.1)],[.mapc .i64 (zB (ekv evB) v5.2)]],[]⟩) (λ_=>rfl) ?_ ?_)))))) h
 refine .block (.sR λe h=>?_)
 simp only[seval,EMB,q2,zE]
 refine mU e (.seqK (.sB ?_)) h
 refine Mir.join (λv4:Unit=>([U,U,U,.mp 1,.mp 2,U,.ptr 3 0,U,U,U,U,.d (.list (zB ao a0.Words)),.d (.int .i64 (a0.Words.length:Int)),.d (.int .i64 (i1:Int))]++us 44)) (λv4=>⟨[(cG a0),[.mapc .u8 (zB (ekv evB) v1.1)],[.mapc .i64 (zB (ekv evB) v1.2)],(cJ e1)],[]⟩) (λ_=>rfl) ?_ ?_
 refine .block (.sB ?_)
 refine .cond rfl (λh1=>?_) (λh1=>?_)
 refine .seqK (.bind λy1 h2=>.region λe h=>WB ?_)
 refine .byB (bx h2) (mB ?_ h)
 refine .seqK (.seqK (Mir.joinO (λv2:Bool=>([U,U,U,.mp 1,.mp 2,U,U,.d (.int .i64 y1),U,U,U,.d (.list (zB ao a0.Words)),.d (.int .i64 (a0.Words.length:Int)),.d (.int .i64 (i1:Int)),U,U,U,U,U,U,U,U,U,U,U,U,U,U,U,U,.d (.bool v2)]++us 27)) (λv2=>⟨[(cG a0),[.mapc .u8 (zB (ekv evB) v1.1)],[.mapc .i64 (zB (ekv evB) v1.2)],(cJ e1)],[]⟩) (λ_=>rfl) ?_ ?_))
 refine .ite (λh3=>?_) (λh3=>?_)
 refine .region λe h=>?_
 simp only[seval,EMB,h3]
 cases h
 simp only[seval,FMB,h3]
 refine .regionW λe h=>regW.alt 5 rfl ?_
 simp only[seval,EMB,al,w_eq,h3]
 refine br rfl rfl rfl (by simp only[mapT,und_212,und_3]) zero_4 rfl (regW.of ?_)
 simp only[seval,EMB,al,w_eq,mg_B,h3]
 cases h
 simp only[seval,FMB,h3]
 intro v2
 refine Mir.toK (.cond rfl (λh4=>?_) (λh4=>?_))
 refine .sB ?_
 refine .ret QB
 refine .skip (Mir.toK (.seqK (.regionW λe h=>regW.alt 2 rfl ?_)))
 simp only[seval,EMB,al,w_eq]
 refine bP (et:=4) rfl rfl rfl rfl (by simp only[mapT,und_212,und_3]) (regW.of ?_)
 simp only[seval,EMB,al,w_eq,mp_B]
 refine mU e (.exit QB) h
 refine .sB ?_
 refine .cond rfl (λh5=>?_) (λh5=>?_)
 refine .sB ?_
 refine .cond rfl (λh6=>?_) (λh6=>?_)
 refine .sB ?_
 refine .ret QB
 refine .skip QB
 refine .seqK (.sB ?_)
 refine Mir.joinO (λv3:Bool=>([U,U,U,.mp 1,.mp 2,U,.ptr 3 0,U,U,U,U,.d (.list (zB ao a0.Words)),.d (.int .i64 (a0.Words.length:Int)),.d (.int .i64 (i1:Int)),U,U,U,U,U,U,U,U,U,U,U,U,U,U,U,U,U,U,U,U,U,U,U,U,.d (.bool v3)]++us 19)) (λv3=>⟨[(cG a0),[.mapc .u8 (zB (ekv evB) v1.1)],[.mapc .i64 (zB (ekv evB) v1.2)],(cJ e1)],[]⟩) (λ_=>rfl) ?_ ?_
 refine .cond rfl (λ_=>.skip QB) (λ_=>.rB)
 intro v3
 refine Mir.toK (.cond rfl (λh8=>?_) (λh8=>?_))
 refine .seqK (.joinV ([U,U,U,.mp 1,.mp 2,U,.ptr 3 0,U,U,U,U,.d (.list (zB ao a0.Words)),.d (.int .i64 (a0.Words.length:Int)),.d (.int .i64 (i1:Int)),U,U,U,U,U,U,U,U,U,U,U,U,U,U,U,U,U,U,U,U,U,U,U,U,U,U,U,U,U,U,U,U,U,U,U,.d (.bool ((decide (e1.Value<0))||((kK e1.Value 1000) != 0)))]++us 8) ⟨[(cG a0),[.mapc .u8 (zB (ekv evB) v1.1)],[.mapc .i64 (zB (ekv evB) v1.2)],(cJ e1)],[]⟩ rfl ?_ ?_)
 refine SWs.region ?_
 rcases zD (decide (e1.Value<0))with h9 | h9
 simp only[seval,EMB,SL,PB,h9]
 simp only[seval,EMB,SL,PB,h9]
 refine Mir.toK (.cond rfl (λh10=>?_) (λh10=>?_))
 refine .sB ?_
 refine .ret QB
 refine .skip QB
 refine .skip QB
 intro v4
 refine Mir.toK (.seqK (.seqK (.regionW λe h=>regW.alt 3 rfl ?_)))
 simp only[seval,EMB,al,w_eq]
 refine br rfl rfl rfl (by simp only[mapT,und_211,und_5]) zero_4 rfl (regW.of ?_)
 simp only[seval,EMB,al,w_eq,mg_B]
 refine mU e (.cond rfl (λh11=>?_) (λh11=>?_)) h
 refine .sB ?_
 refine .ret QB
 refine .skip (Mir.toK (.regionW λe h=>regW.alt 3 rfl ?_))
 simp only[seval,EMB,al,w_eq]
 refine bP (et:=4) rfl rfl rfl rfl (by simp only[mapT,und_211,und_5]) (regW.of ?_)
 simp only[seval,EMB,al,w_eq,mp_B]
 cases h
 simp only[seval,FMB]
 intro v5
 refine Mir.toK (.region λe h=>?_)
 simp only[seval,EMB]
 cases h
 simp only[seval,FMB,q2]
 intro v1 q3
 refine .sR λe h=>?_
 simp only[seval,EMB,q3]
 refine mU e (.seqK (.condF rfl (.exit QB))) h
 intro v6
 refine Mir.toK (.sB ?_)
 refine .ret QB
def md_put(a0:ak)(a1:ap):Option ak:=bindO (if (a1.Letter==71)=true then bindO (bindO (ir a1.Value) λ(y1:Int)=>az (decide (0≤(kP.wrap (y1-1))∧(kP.wrap (y1-1))<5)) ( if ((kP.wrap (y1-1))==0)=true then some (ak.mk a1.Value a0.Distance a0.Work a0.Length a0.Return a0.Feed a0.Tool a0.Offset)else if ((kP.wrap (y1-1))==1)=true then some (ak.mk a0.Motion a1.Value a0.Work a0.Length a0.Return a0.Feed a0.Tool a0.Offset)else if ((kP.wrap (y1-1))==2)=true then some (ak.mk a0.Motion a0.Distance a1.Value a0.Length a0.Return a0.Feed a0.Tool a0.Offset)else if ((kP.wrap (y1-1))==3)=true then some (ak.mk a0.Motion a0.Distance a0.Work a1.Value a0.Return a0.Feed a0.Tool a0.Offset)else some (ak.mk a0.Motion a0.Distance a0.Work a0.Length a1.Value a0.Feed a0.Tool a0.Offset))) λ(v1:ak)=>some v1 else if (a1.Letter==70)=true then some (ak.mk a0.Motion a0.Distance a0.Work a0.Length a0.Return a1.Value a0.Tool a0.Offset)else if (a1.Letter==84)=true then some (ak.mk a0.Motion a0.Distance a0.Work a0.Length a0.Return a0.Feed a1.Value a0.Offset)else if (a1.Letter==72)=true then some (ak.mk a0.Motion a0.Distance a0.Work a0.Length a0.Return a0.Feed a0.Tool a1.Value)else some a0) λ(v2:ak)=>some v2
theorem md_put_spec{a0:ak}{a1:ap}{y:ak}(h:md_put a0 a1=some y):Spec gP 111 [.agg (cA a0),.agg (cJ a1)] (.agg [.d (.int .i64 y.Motion),.d (.int .i64 y.Distance),.d (.int .i64 y.Work),.d (.int .i64 y.Length),.d (.int .i64 y.Return),.d (.int .i64 y.Feed),.d (.int .i64 y.Tool),.d (.int .i64 y.Offset)]):=by
 refine auB Tryz.func111 (λy:ak=>.agg [.d (.int .i64 y.Motion),.d (.int .i64 y.Distance),.d (.int .i64 y.Work),.d (.int .i64 y.Length),.d (.int .i64 y.Return),.d (.int .i64 y.Feed),.d (.int .i64 y.Tool),.d (.int .i64 y.Offset)]) ?_ h
 unfold md_put
 refine .sB ?_
 refine .seqK (.sB ?_)
 refine Mir.joinO (λv2:ak=>([U,U,.ptr 0 0,U,.ptr 2 0]++us 37)) (λv2=>⟨[(cA v2),(cJ a1),[.d (.int .i64 0),.d (.int .i64 0),.d (.int .i64 0),.d (.int .i64 0),.d (.int .i64 0),.d (.int .i64 0),.d (.int .i64 0),.d (.int .i64 0)]],[]⟩) (λ_=>rfl) ?_ ?_
 refine .block (.sB ?_)
 refine .cond rfl (λhb12=>?_) (λhb12=>?_)
 refine .sR λe h=>?_
 simp only[seval,EMB,(oL 5)]
 refine mU e (Mir.joinO (λv1:ak=>([U,U,.ptr 0 0,U,.ptr 2 0]++us 37)) (λv1=>⟨[(cA v1),(cJ a1),[.d (.int .i64 0),.d (.int .i64 0),.d (.int .i64 0),.d (.int .i64 0),.d (.int .i64 0),.d (.int .i64 0),.d (.int .i64 0),.d (.int .i64 0)],[.ptr 0 0,.ptr 0 1,.ptr 0 2,.ptr 0 3,.ptr 0 4]],[]⟩) (λ_=>rfl) ?_ ?_) h
 refine .bind λy1 hy13=>.guard λqi14=>.ite (λhb15=>?_) (λhb15=>?_)
 refine .regionD [] (by kernel_rfl) λe h=>?_
 simp only[seval,EMB,SB,hb15]
 refine Spec.by (bx hy13) (by simp only[seval,FMB,hb15]) ?_
 simp only[seval,EMB,SB,(eq_of_beq hb15),hb15]
 cases h
 simp only[seval,FMB,hb15]
 refine .ite (λhb16=>?_) (λhb16=>?_)
 refine .regionD [] (by kernel_rfl) λe h=>?_
 simp only[seval,EMB,SB,hb15,hb16]
 refine Spec.by (bx hy13) (by simp only[seval,FMB,hb15,hb16]) ?_
 simp only[seval,EMB,SB,(eq_of_beq hb16),hb15,hb16]
 cases h
 simp only[seval,FMB,hb15,hb16]
 refine .ite (λhb17=>?_) (λhb17=>?_)
 refine .regionD [] (by kernel_rfl) λe h=>?_
 simp only[seval,EMB,SB,hb15,hb16,hb17]
 refine Spec.by (bx hy13) (by simp only[seval,FMB,hb15,hb16,hb17]) ?_
 simp only[seval,EMB,SB,(eq_of_beq hb17),hb15,hb16,hb17]
 cases h
 simp only[seval,FMB,hb15,hb16,hb17]
 refine .ite (λhb18=>?_) (λhb18=>?_)
 refine .regionD [] (by kernel_rfl) λe h=>?_
 simp only[seval,EMB,SB,hb15,hb16,hb17,hb18]
 refine Spec.by (bx hy13) (by simp only[seval,FMB,hb15,hb16,hb17,hb18]) ?_
 simp only[seval,EMB,SB,(eq_of_beq hb18),hb15,hb16,hb17,hb18]
 cases h
 simp only[seval,FMB,hb15,hb16,hb17,hb18]
 have hz19:kP.wrap (y1-1)=4:=by have h0:=of_decide_eq_true qi14;have h1:=bh hb15;have h2:=bh hb16;have h3:=bh hb17;have h4:=bh hb18;omega
 refine .regionD [] (by kernel_rfl) λe h=>?_
 simp only[seval,EMB,SB,hb15,hb16,hb17,hb18]
 refine Spec.by (bx hy13) (by simp only[seval,FMB,hb15,hb16,hb17,hb18]) ?_
 simp only[seval,EMB,SB,hz19,hb15,hb16,hb17,hb18]
 cases h
 simp only[seval,FMB,hb15,hb16,hb17,hb18]
 intro v1
 intro e h
 cases h
 simp only[seval,FMB]
 refine .sB ?_
 refine .cond rfl (λ_=>.rB) (λhb20=>?_)
 refine .sB ?_
 refine .cond rfl (λ_=>.rB) (λhb21=>?_)
 refine .sB ?_
 refine .cond rfl (λ_=>.rB) (λ_=>.skip QB)
 intro v2
 refine Mir.toK (.sB ?_)
 refine .ret QB
def jR(a0:ak)(a1:aa):Option (ak×Int):=bindO (iv a1) λ(y1:Int)=>if (y1 != 0)=true then some (ak.mk 0 0 0 0 0 0 0 0,y1)else bindO (az (okIdx a1.Words) ( aI (λ(i1:Nat) (e1:ap) (v1:ak)=>bindO (md_put v1 e1) λ(y2:ak)=>some (.go y2)) (λ(v1:ak)=>some v1) a1.Words 0 a0)) λ(v2:ak)=>some (v2,0)
theorem md_Apply_spec{a0:ak}{a1:aa}{y:ak×Int}(h:jR a0 a1=some y):Spec gP 68 [.agg (cA a0),.agg (cG a1)] (.tuple [.agg [.d (.int .i64 y.1.Motion),.d (.int .i64 y.1.Distance),.d (.int .i64 y.1.Work),.d (.int .i64 y.1.Length),.d (.int .i64 y.1.Return),.d (.int .i64 y.1.Feed),.d (.int .i64 y.1.Tool),.d (.int .i64 y.1.Offset)],.d (.int .i64 y.2)]):=by
 refine auB Tryz.func68 (λy:ak×Int=>.tuple [.agg [.d (.int .i64 y.1.Motion),.d (.int .i64 y.1.Distance),.d (.int .i64 y.1.Work),.d (.int .i64 y.1.Length),.d (.int .i64 y.1.Return),.d (.int .i64 y.1.Feed),.d (.int .i64 y.1.Tool),.d (.int .i64 y.1.Offset)],.d (.int .i64 y.2)]) ?_ h
 unfold jR
 refine .sB ?_
 refine .seqK (.seqK (.bind λy1 hy1=>.region λe h=>WB ?_))
 refine .byB (iu hy1) (mB ?_ h)
 refine .sB ?_
 refine .cond rfl (λhb3=>?_) (λhb3=>?_)
 refine .sB ?_
 refine .ret QB
 refine .skip (Mir.toK (.seqK (.sB ?_)))
 refine Mir.joinO (λv2:ak=>([U,U,.ptr 0 0,U,.ptr 2 0]++us 22)) (λv2=>⟨[(cA v2),(cG a1),[.d (.int .i64 0),.d (.int .i64 0),.d (.int .i64 0),.d (.int .i64 0),.d (.int .i64 0),.d (.int .i64 0),.d (.int .i64 0),.d (.int .i64 0)]],[]⟩) (λ_=>rfl) ?_ ?_
 refine .block (.guard λqg47=>Mir.range (λ(i1:Nat) (v1:ak)=>([U,U,.ptr 0 0,U,.ptr 2 0,U,U,U,U,U,U,U,U,U,U,U,.d (.list (zB ao a1.Words)),.d (.int .i64 (a1.Words.length:Int)),.d (.int .i64 (i1:Int))]++us 8)) (λi1 v1=>⟨[(cA v1),(cG a1),[.d (.int .i64 0),.d (.int .i64 0),.d (.int .i64 0),.d (.int .i64 0),.d (.int .i64 0),.d (.int .i64 0),.d (.int .i64 0),.d (.int .i64 0)]],[]⟩) qg47 (λ_ _=>rfl) (by simp only[seval,FMB,zNI]) (by simp only[seval,FMB,zNI]) ?_ ?_)
 intro i1 e1 v1 qr45
 refine .sR λe h=>?_
 simp only[seval,EMB,qr45]
 refine mU e (.seqK (.condT rfl (.skip (Mir.toK (.seqK (.block (.sR λe h=>?_))))))) h
 simp only[seval,EMB,qr45,zE]
 refine mU e (.bind λy2 hy49=>.region λe h=>WB ?_) h
 refine .byB (md_put_spec hy49) (mB ?_ h)
 refine .region λe h=>?_
 simp only[seval,EMB]
 cases h
 simp only[seval,FMB,qr45]
 intro v1 qd46
 refine .sR λe h=>?_
 simp only[seval,EMB,qd46]
 refine mU e (.seqK (.condF rfl (.exit QB))) h
 intro v2
 refine Mir.toK (.sB ?_)
 refine .ret QB
def aX(a0:List ap):Option (List ap):=az (okLen a0.length) (some a0)
theorem eF{c0:Nat}{y:List ap}(h:(some [])=some y):Spec gP 53 [.d (.other (.slice none 0 c0))] (.d (.list (zB ao y))):=by
 refine fA Tryz.func53 rfl (by kernel_rfl) (by kernel_rfl) (λy:List ap=>.d (.list (zB ao y))) ?_ h
 simp only[zF,zH,nS,nA,Tryz.ntmps53,SV]
 refine .sB ?_
 refine .seqK (.sB ?_)
 refine .condT rfl (.sB ?_)
 refine .ret QB
theorem eE{p0:Addr}{c0:Nat}{y:List ap}(h:(some [])=some y):Spec gP 53 [.d (.other (.slice (some p0) 0 c0))] (.d (.list (zB ao y))):=by
 refine fA Tryz.func53 rfl (by kernel_rfl) (by kernel_rfl) (λy:List ap=>.d (.list (zB ao y))) ?_ h
 simp only[zF,zH,nS,nA,Tryz.ntmps53,SV]
 refine .sB ?_
 refine .seqK (.sB ?_)
 refine .condF rfl (.skip (Mir.toK (.sR λe h=>?_)))
 simp only[seval,EMB,(oL 0),kN,kO]
 refine mU e (.ret QB) h
theorem eG{x0:ap}{l0:List ap}{y:List ap}(h:(az (okLen ((x0::l0).length)) (   some (x0::l0)))=some y):Spec gP 53 [.d (.list (zB ao (x0::l0)))] (.d (.list (zB ao y))):=by
 refine fA Tryz.func53 rfl (by kernel_rfl) (by kernel_rfl) (λy:List ap=>.d (.list (zB ao y))) ?_ h
 simp only[zF,zH,nS,nA,Tryz.ntmps53,SV]
 refine .sB ?_
 refine .seqK (.sB ?_)
 refine .condF rfl (.skip (Mir.toK (.seqK (.guard λq1=>.region λe h=>?_))))
 simp only[seval,EMB,(oL 0),q1]
 refine mU e (.ret QB) h
theorem dQ{a0:List ap}{y:List ap}(h:aX a0=some y):Spec gP 53 [.d (.list (zB ao a0))] (.d (.list (zB ao y))):=by
 obtain⟨hl,h⟩:=bS h
 cases h
 cases a0 with
 | nil =>
  refine Spec.nilcase λA c=>?_
  cases A with
  | none=>exact eF rfl
  | some p=>exact eE rfl
 | cons x l=>exact eG (by simp only[az,hl])
theorem ek{c0:Nat}{y:List ap}(h:(some [])=some y):SpecY gP 53 [.d (.other (.slice none 0 c0))] 127 (zB ao y):=by
 refine gM Tryz.func53 rfl (by kernel_rfl) (by kernel_rfl) (λy:List ap=>zB ao y) (sc_map (λ_=>rfl) _) ?_ h
 simp only[zF,zH,nS,nA,Tryz.ntmps53,SV]
 refine .sB ?_
 refine .seqK (.sB ?_)
 refine .condT rfl (.sB ?_)
 refine .ret λe h=>?_
 cases h
 simp only[seval,FMB,fy_r,fy_n,yr_o,yr_n]
theorem eh{p0:Addr}{c0:Nat}{y:List ap}(h:(some [])=some y):SpecY gP 53 [.d (.other (.slice (some p0) 0 c0))] 127 (zB ao y):=by
 refine gM Tryz.func53 rfl (by kernel_rfl) (by kernel_rfl) (λy:List ap=>zB ao y) (sc_map (λ_=>rfl) _) ?_ h
 simp only[zF,zH,nS,nA,Tryz.ntmps53,SV]
 refine .sB ?_
 refine .seqK (.sB ?_)
 refine .condF rfl (.skip (Mir.toK (.seqK (.regionW λe h=>regW.alt 0 rfl ?_))))
 simp only[seval,EMB,al,w_eq]
 refine d8 kj (regW.of ?_)
 simp only[seval,EMB,al,w_eq,(oL 0)]
 refine mU e (.ret λe h=>?_) h
 cases h
 simp only[seval,FMB,fy_r,fy_n,yr_o,yr_n]
theorem eu{x0:ap}{l0:List ap}{y:List ap}(h:(az (okLen (0+(x0::l0).length)) (   some ([]++(x0::l0))))=some y):SpecY gP 53 [.d (.list (zB ao (x0::l0)))] 127 (zB ao y):=by
 refine gM Tryz.func53 rfl (by kernel_rfl) (by kernel_rfl) (λy:List ap=>zB ao y) (sc_map (λ_=>rfl) _) ?_ h
 simp only[zF,zH,nS,nA,Tryz.ntmps53,SV]
 refine .sB ?_
 refine .seqK (.sB ?_)
 refine .condF rfl (.skip (Mir.toK (.seqK (.guard λq1=>.regionW λe h=>regW.alt 0 rfl ?_))))
 simp only[seval,EMB,al,w_eq]
 refine d8 kj (regW.of ?_)
 simp only[seval,EMB,al,w_eq,(oL 0),q1]
 refine mU e (.ret λe h=>?_) h
 cases h
 simp only[seval,FMB,fy_r,fy_n,yr_o,yr_n]
theorem dC{a0:List ap}{y:List ap}(h:aX a0=some y):SpecY gP 53 [.d (.list (zB ao a0))] 127 (zB ao y):=by
 obtain⟨hl,h⟩:=bS h
 cases h
 cases a0 with
 | nil =>
  refine SpecY.nilcase λA c=>?_
  cases A with
  | none=>exact ek rfl
  | some p=>exact eh rfl
 | cons x l=>exact eu (by simp only[az,zU,kL,hl])
def md_idle(a0:ak)(a1:ap):Option Bool:=bindX (if (a1.Letter==71)=true then if ((decide (a1.Value≥80000))&&(decide (a1.Value≤83000)))=true then some (.ret false)else some (.go ())else bindO (if (a1.Letter==70)=true then some (a1.Letter==70)else if (a1.Letter==84)=true then some (a1.Letter==84)else some (a1.Letter==72)) λ(v1:Bool)=>if v1=true then some (.go ())else some (.ret false)) λ(v2:Unit)=>bindO (md_put a0 a1) λ(y1:ak)=>some ((y1.Motion==a0.Motion)&&((y1.Distance==a0.Distance)&&((y1.Work==a0.Work)&&((y1.Length==a0.Length)&&((y1.Return==a0.Return)&&((y1.Feed==a0.Feed)&&((y1.Tool==a0.Tool)&&(y1.Offset==a0.Offset))))))))
theorem md_idle_spec{a0:ak}{a1:ap}{y:Bool}(h:md_idle a0 a1=some y):Spec gP 71 [.agg (cA a0),.agg (cJ a1)] (.d (.bool y)):=by
 refine auB Tryz.func71 (λy:Bool=>.d (.bool y)) ?_ h
 unfold md_idle
 refine .sB ?_
 refine .seqK (.sB ?_)
 refine Mir.join (λv2:Unit=>([U,U,.ptr 0 0,.ptr 1 0]++us 22)) (λv2=>⟨[(cA a0),(cJ a1)],[]⟩) (λ_=>rfl) ?_ ?_
 refine .block (.sB ?_)
 refine .cond rfl (λhb9=>?_) (λhb9=>?_)
 refine .seqK (.joinV ([U,U,.ptr 0 0,.ptr 1 0,U,U,U,U,U,U,U,U,U,U,U,U,.d (.bool ((decide (a1.Value≥80000))&&(decide (a1.Value≤83000))))]++us 9) ⟨[(cA a0),(cJ a1)],[]⟩ rfl ?_ ?_)
 refine SWs.region ?_
 rcases zD (decide (a1.Value≥80000))with hb10 | hb10
 simp only[seval,EMB,SL,PB,hb10]
 simp only[seval,EMB,SL,PB,hb10]
 refine Mir.toK (.cond rfl (λhb11=>?_) (λhb11=>?_))
 refine .sB ?_
 refine .ret QB
 refine .skip QB
 refine .seqK (.sB ?_)
 refine Mir.joinO (λv1:Bool=>([U,U,.ptr 0 0,.ptr 1 0,U,U,U,U,U,U,U,U,U,U,U,U,U,.d (.bool v1)]++us 8)) (λv1=>⟨[(cA a0),(cJ a1)],[]⟩) (λ_=>rfl) ?_ ?_
 refine .cond rfl (λ_=>.skip QB) (λhb14=>?_)
 refine .sB ?_
 refine .cond rfl (λ_=>.skip QB) (λ_=>.rB)
 intro v1
 refine Mir.toK (.cond rfl (λ_=>.skip QB) (λhb16=>?_))
 refine .sB ?_
 refine .ret QB
 intro v2
 refine Mir.toK (.seqK (.bind λy1 hy17=>.regionD [] (by kernel_rfl) λe h=>?_))
 simp only[seval,EMB,SB]
 refine Spec.by (md_put_spec hy17) (by simp only[seval,FMB]) ?_
 simp only[seval,EMB,SB,gE_85]
 refine mU e (.ret QB) h
def dV(a0:ak)(a1:(List aa)):Option ((List aa)×Int):=bindX (az (okIdx a1) ( aI (λ(i1:Nat) (e1:aa) (v1:(List aa)×ak)=>bindO (jR v1.2 e1) λ(y1:ak×Int)=>if (y1.2 != 0)=true then some (.ret (.ret ([],y1.2)))else bindO (aX e1.Words) λ(y2:(List ap))=>bindO (bindO (bindX (az (okIdx y2) ( aI (λ(i2:Nat) (e2:ap) (v2:Unit)=>bindO (gt y2 (i2:Int)) λ(e3:ap)=>bindO (bindO (md_idle v1.2 e3) λ(y3:Bool)=>some y3) λ(v3:Bool)=>if v3=true then some (.ret (.ret (i2:Int)))else some (.go ())) (λ(v2:Unit)=>some (.go ())) y2 0 ())) λ(v4:Unit)=>some (-1)) λ(v5:Int)=>if (v5==(-1))=true then some y2 else bindO (loopX (λ(v6:Int×Int×(List ap))=>if (decide (v6.2.1<(v6.2.2.length:Int)))=true then bindO (bindO (gt v6.2.2 v6.2.1) λ(e4:ap)=>bindO (bindO (md_idle v1.2 e4) λ(y4:Bool)=>some y4) λ(v7:Bool)=>if (!v7)=true then bindO (gt v6.2.2 v6.1) λ(e5:ap)=>some (kP.wrap (v6.1+1),v6.2.2.set (zJ v6.1) e4)else some (v6.1,v6.2.2)) λ(v8:Int×(List ap))=>some (.go (v8.1,kP.wrap (v6.2.1+1),v8.2))else some (.ret (v6.1,v6.2.2))) fuel (v5,kP.wrap (v5+1),y2)) λ(v9:Int×(List ap))=>az (decide ((0:Int)≤v9.1∧v9.1≤(v9.2.length:Int)∧(v9.2.length:Int)≤((v9.2.length:Nat):Int))) ( az (decide ((0:Int)≤(0:Int)∧(0:Int)≤v9.1∧v9.1≤(((v9.2.take (zJ v9.1)++zF (v9.2.length-(zJ v9.1)) (ap.mk 0 0)++v9.2.drop ((zJ v9.1)+(v9.2.length-(zJ v9.1)))).length:Nat):Int))) ( some (List.take ((zJ v9.1)-0) (List.drop (0) (v9.2.take (zJ v9.1)++zF (v9.2.length-(zJ v9.1)) (ap.mk 0 0)++v9.2.drop ((zJ v9.1)+(v9.2.length-(zJ v9.1))))))))) λ(v10:(List ap))=>bindO (if ((decide ((v10.length:Int)>0))||(!(e1.Comment==[])||e1.Skip))=true then az (okLen (v1.1.length+1)) ( some (v1.1++[aa.mk e1.Skip v10 e1.Comment]))else some v1.1) λ(v11:(List aa))=>some (.go (v11,y1.1))) (λ(v1:(List aa)×ak)=>some (.go (v1.1,v1.2))) a1 0 ([],a0))) λ(v12:(List aa)×ak)=>some (v12.1,0)
theorem md_Compress_spec{a0:ak}{a1:(List aa)}{y:(List aa)×Int}(h:dV a0 a1=some y):Spec gP 27 [.agg (cA a0),.d (.list (zB ac a1))] (.tuple [.d (.list (zB ac y.1)),.d (.int .i64 y.2)]):=by
 refine auB Tryz.func27 (λy:(List aa)×Int=>.tuple [.d (.list (zB ac y.1)),.d (.int .i64 y.2)]) ?_ h
 unfold dV
 refine .sR λe h=>?_
 simp only[seval,EMB,ag,spD]
 refine mU e (.sR λe h=>?_) h
 simp only[seval,EMB,ag,spD]
 refine mU e (.seqK (.sR λe h=>?_)) h
 simp only[seval,EMB,ag,spD]
 refine mU e (.gh [.slot 6 96] rfl (Mir.join (λv12:(List aa)×ak=>([U,U,U,U,U,U,.own 0 (zB ac v12.1)]++us 47)) (λv12=>⟨[(cA v12.2)],[(96,v12.1.length)]⟩) (λ_=>rfl) ?_ ?_)) h
 refine .block (.guard λq1=>Mir.range (λ(i1:Nat) (v1:(List aa)×ak)=>([U,U,.ptr 0 0,U,U,U,.own 0 (zB ac v1.1),U,U,U,U,U,.d (.list (zB ac a1)),.d (.int .i64 (a1.length:Int)),.d (.int .i64 (i1:Int))]++us 39)) (λi1 v1=>⟨[(cA v1.2)],[(96,v1.1.length)]⟩) q1 (λ_ _=>rfl) (by simp only[seval,FMB,ag,spD,zNI]) (by simp only[seval,FMB,ag,spD,zNI]) ?_ ?_)
 intro i1 e1 v1 q2
 refine .sR λe h=>?_
 simp only[seval,EMB,q2,ag,spD]
 refine mU e (.seqK (.condT rfl (.skip (Mir.toK (.seqK (.block (.sR λe h=>?_))))))) h
 simp only[seval,EMB,q2,zE,ag,spD]
 refine mU e (.seqK (.bind λy1 h3=>.region λe h=>?_)) h
 simp only[seval,EMB,ag,spD]
 refine SpecS.by (md_Apply_spec h3) (by simp only[seval,FMB,ag,spD]) ?_
 simp only[seval,EMB,ag,spD]
 refine mU e (.seqK (.sR λe h=>?_)) h
 simp only[seval,EMB,ag,spD]
 refine mU e (.cond rfl (λh4=>?_) (λh4=>?_)) h
 refine .sR λe h=>?_
 simp only[seval,EMB,ag,spD]
 refine mU e (.ret λe h=>?_) h
 cases h
 simp only[seval,FMB,ag,spD]
 refine .skip (Mir.toK (.sR λe h=>?_))
 simp only[seval,EMB,ag,spD]
 refine mU e (.seqK (.bind λy2 h5=>.bind λv10 h6=>.region λe h=>?_)) h
 simp only[seval,EMB,ag,spD]
 refine SpecY.toS (dC h5) (by simp only[seval,FMB,ag,spD]) ?_
 simp only[seval,EMB,ag,spD]
 refine SpecS.inl Tryz.func69 rfl (by kernel_rfl) (by kernel_rfl) (λv10:(List ap)=>.d (.list (zB ao v10))) (λv10=>⟨[(cA v1.2),(cG e1),(cA y1.1),(cG e1),[.rowc 127 1 (zB ao [])]],[(96,v1.1.length)]⟩) h6 rfl ?_ ?_
 simp only[zF,zH,nS,nA,Tryz.ntmps69,SV]
 refine .sR λe h=>?_
 simp only[seval,EMB,ag,spD]
 refine mU e (.seqK (.bind λv5 h7=>.region λe h=>?_)) h
 simp only[seval,EMB,ag,spD]
 refine SpecS.inl Tryz.func112 rfl (by kernel_rfl) (by kernel_rfl) (λv5:Int=>.d (.int .i64 v5)) (λv5=>⟨[(cA v1.2),(cG e1),(cA y1.1),(cG e1),[.rowc 127 0 (zB ao y2)]],[(96,v1.1.length)]⟩) h7 rfl ?_ ?_
 simp only[zF,zH,nS,nA,Tryz.ntmps112,SV]
 refine .sR λe h=>?_
 simp only[seval,EMB,ag,spD]
 refine mU e (.seqK (.seqK (.regionW λe h=>regW.alt 1 rfl ?_))) h
 simp only[seval,EMB,al,w_eq,ag,spD]
 refine alt_lenR rfl rfl und_94 (regW.of ?_)
 simp only[seval,EMB,al,w_eq,ag,spD]
 refine mU e (Mir.join (λv4:Unit=>(us 19)) (λv4=>⟨[(cA v1.2),(cG e1),(cA y1.1),(cG e1),[.rowc 127 0 (zB ao y2)]],[(96,v1.1.length)]⟩) (λ_=>rfl) ?_ ?_) h
 refine .block (.guard λq3=>Mir.range (λ(i2:Nat) (v2:Unit)=>([.gr 4 0,.fn 70 [.ptr 0 0],U,U,U,U,U,.d (.int .i64 (y2.length:Int)),.d (.int .i64 (i2:Int))]++us 10)) (λi2 v2=>⟨[(cA v1.2),(cG e1),(cA y1.1),(cG e1),[.rowc 127 0 (zB ao y2)]],[(96,v1.1.length)]⟩) q3 (λ_ _=>rfl) (by simp only[seval,FMB,ag,spD,zNI]) (by simp only[seval,FMB,ag,spD,zNI]) ?_ ?_)
 intro i2 e2 v2 q4
 refine .sR λe h=>?_
 simp only[seval,EMB,q4,ag,spD]
 refine mU e (.seqK (.condT rfl (.skip (Mir.toK (.seqK (.block (.sR λe h=>?_))))))) h
 simp only[seval,EMB,ag,spD]
 refine mU e (.seqK (.bind λe3 q5=>?_)) h
 replace q5:=gt_ok q5
 refine .bind λv3 h8=>.regionW λe h=>regW.alt 3 rfl ?_
 simp only[seval,EMB,al,w_eq,ag,spD]
 refine ic rfl rfl rfl und_94 sz_127 (row_lo q5.1) (row_hi q5.2 q5.1) (regW.alt 0 rfl ?_)
 simp only[seval,EMB,al,w_eq,ag,spD]
 refine alt_loadR rfl rfl (row_at q5.2) (by simp only[↓reduceIte,nA,nL,pt_eq,ag_127,sz_127,dc_cons,dc_nil,SV,ao]<;>rfl) (regW.of ?_)
 simp only[seval,EMB,al,w_eq,ag,spD]
 refine SpecS.inl Tryz.func70 rfl (by kernel_rfl) (by kernel_rfl) (λv3:Bool=>.d (.bool v3)) (λv3=>⟨[(cA v1.2),(cG e1),(cA y1.1),(cG e1),[.rowc 127 0 (zB ao y2)]],[(96,v1.1.length)]⟩) h8 rfl ?_ ?_
 simp only[zF,zH,nS,nA,Tryz.ntmps70,SV]
 refine .sR λe h=>?_
 simp only[seval,EMB,ag,spD]
 refine mU e (.seqK (.bind λy3 h9=>.region λe h=>?_)) h
 simp only[seval,EMB,ag,spD]
 refine SpecS.by (md_idle_spec h9) (by simp only[seval,FMB,ag,spD]) ?_
 simp only[seval,EMB,ag,spD]
 refine mU e (.ret λe h=>?_) h
 cases h
 simp only[seval,FMB,ag,spD]
 simp only[seval,EMB,al,w_eq,ag,spD]
 refine mU e (.cond rfl (λh10=>?_) (λh10=>?_)) h
 refine .sR λe h=>?_
 simp only[seval,EMB,ag,spD]
 refine mU e (.ret λe h=>?_) h
 cases h
 simp only[seval,FMB,ag,spD]
 refine .skip (Mir.toB (Mir.toK (.region λe h=>?_)))
 simp only[seval,EMB,ag,spD]
 cases h
 simp only[seval,FMB,ag,spD,q4]
 intro v2 q6
 refine .sR λe h=>?_
 simp only[seval,EMB,q6,ag,spD]
 refine mU e (.seqK (.condF rfl (.exit λe h=>?_))) h
 cases h
 simp only[seval,FMB,ag,spD]
 intro v4
 refine Mir.toK (.sR λe h=>?_)
 simp only[seval,EMB,ag,spD]
 refine mU e (.ret λe h=>?_) h
 cases h
 simp only[seval,FMB,ag,spD]
 simp only[seval,EMB,ag,spD]
 refine mU e (.seqK (.sR λe h=>?_)) h
 simp only[seval,EMB,ag,spD]
 refine mU e (.cond rfl (λh11=>?_) (λh11=>?_)) h
 refine .sR λe h=>?_
 simp only[seval,EMB,ag,spD]
 refine mU e (.frz 4 rfl ?_) h
 simp only[seval,us_0,us_s,xCA,xNA,and_self,and_true,true_and,and_false,false_and,SZ]
 refine .ret λe h=>?_
 cases h
 simp only[seval,FMB,ag,spD]
 refine .skip (Mir.toK (.seqK (.sR λe h=>?_)))
 simp only[seval,EMB,ag,spD]
 refine mU e (Mir.joinO (λv9:Int×(List ap)=>([.gr 4 0,U,U,U,U,.d (.int .i64 v9.1)]++us 36)) (λv9=>⟨[(cA v1.2),(cG e1),(cA y1.1),(cG e1),[.rowc 127 0 (zB ao v9.2)]],[(96,v1.1.length)]⟩) (λ_=>rfl) ?_ ?_) h
 refine .block (Mir.loop (λv6:Int×Int×(List ap)=>([.gr 4 0,.fn 70 [.ptr 0 0],U,U,U,.d (.int .i64 v6.1),.d (.int .i64 v6.2.1)]++us 35)) (λv6=>⟨[(cA v1.2),(cG e1),(cA y1.1),(cG e1),[.rowc 127 0 (zB ao v6.2.2)]],[(96,v1.1.length)]⟩) (λ_=>rfl) (by simp only[seval,FMB,ag,spD]) (by simp only[seval,FMB,ag,spD]) λv6=>.seqK (.seqK (.regionW λe h=>regW.alt 2 rfl ?_)))
 simp only[seval,EMB,al,w_eq,ag,spD]
 refine alt_lenR rfl rfl und_94 (regW.of ?_)
 simp only[seval,EMB,al,w_eq,ag,spD]
 refine mU e (.cond rfl (λh12=>?_) (λh12=>?_)) h
 refine .skip (Mir.toK (.seqK (Mir.joinO (λv8:Int×(List ap)=>([.gr 4 0,.fn 70 [.ptr 0 0],U,U,U,.d (.int .i64 v8.1),.d (.int .i64 v6.2.1)]++us 35)) (λv8=>⟨[(cA v1.2),(cG e1),(cA y1.1),(cG e1),[.rowc 127 0 (zB ao v8.2)]],[(96,v1.1.length)]⟩) (λ_=>rfl) ?_ ?_)))
 refine .block (.seqK (.bind λe4 q7=>?_))
 replace q7:=gt_ok q7
 refine .regionW λe h=>regW.alt 2 rfl ?_
 simp only[seval,EMB,al,w_eq,ag,spD]
 refine ic rfl rfl rfl und_94 sz_127 (row_lo q7.1) (row_hi q7.2 q7.1) (regW.alt 0 rfl ?_)
 simp only[seval,EMB,al,w_eq,ag,spD]
 refine alt_loadR rfl rfl (row_at q7.2) (by simp only[↓reduceIte,nA,nL,pt_eq,ag_127,sz_127,dc_cons,dc_nil,SV,ao]<;>rfl) (regW.of ?_)
 simp only[seval,EMB,al,w_eq,ag,spD]
 refine mU e (.seqK (.bind λv7 h13=>.region λe h=>?_)) h
 simp only[seval,EMB,ag,spD]
 refine SpecS.inl Tryz.func70 rfl (by kernel_rfl) (by kernel_rfl) (λv7:Bool=>.d (.bool v7)) (λv7=>⟨[(cA v1.2),(cG e1),(cA y1.1),(cG e1),[.rowc 127 0 (zB ao v6.2.2)],(cJ e4)],[(96,v1.1.length)]⟩) h13 rfl ?_ ?_
 simp only[zF,zH,nS,nA,Tryz.ntmps70,SV]
 refine .sR λe h=>?_
 simp only[seval,EMB,ag,spD]
 refine mU e (.seqK (.bind λy4 h14=>.region λe h=>?_)) h
 simp only[seval,EMB,ag,spD]
 refine SpecS.by (md_idle_spec h14) (by simp only[seval,FMB,ag,spD]) ?_
 simp only[seval,EMB,ag,spD]
 refine mU e (.ret λe h=>?_) h
 cases h
 simp only[seval,FMB,ag,spD]
 simp only[seval,EMB,ag,spD]
 refine mU e (.cond rfl (λh15=>?_) (λh15=>?_)) h
 refine .seqK (.bind λe5 q8=>?_)
 replace q8:=gt_ok q8
 refine .regionW λe h=>regW.alt 3 rfl ?_
 simp only[seval,EMB,al,w_eq,ag,spD]
 refine ic rfl rfl rfl und_94 sz_127 (row_lo q8.1) (row_hi q8.2 q8.1) (regW.alt 0 rfl ?_)
 simp only[seval,EMB,al,w_eq,ag,spD]
 refine alt_storeR rfl rfl (row_at q8.2) rfl rfl sz_127 rfl (zZ rfl) (regW.of ?_)
 simp only[seval,EMB,al,w_eq,ag,spD]
 refine mU e (.region λe h=>?_) h
 simp only[seval,EMB,ag,spD]
 cases h
 simp only[seval,FMB,ag,spD]
 refine .skip λe h=>?_
 cases h
 simp only[seval,FMB,ag,spD]
 intro v8
 refine Mir.toK (.region λe h=>?_)
 simp only[seval,EMB,ag,spD]
 cases h
 simp only[seval,FMB,ag,spD]
 refine .exit λe h=>?_
 cases h
 simp only[seval,FMB,ag,spD]
 intro v9
 refine Mir.toK (.seqK (.guard λq9=>?_))
 replace q9:=gsl_of q9
 refine .regionW λe h=>regW.alt 2 rfl ?_
 simp only[seval,EMB,al,w_eq,ag,spD]
 refine alt_sliceR (l:=zJ v9.1) (h:=v9.2.length) rfl rfl und_94 sz_127 (by simp only[seval,EMB,bd_some,bd_none,zW,zX,lm,q9.1,q9.2.1]) (by simp only[seval,EMB,bd_some,bd_none,zW,zX,lm,q9.1,q9.2.1]) (by have:=q9.2.2.1;simpa only [zE] using this) (by rw[lm];exact zO _) (regW.alt 0 rfl ?_)
 simp only[seval,EMB,al,w_eq,ag,spD]
 refine alt_clearM ao v9.2 (ap.mk 0 0) rfl rfl kj zero_127 rfl rfl rfl (by have h1:=((by have:=q9.2.2.1;simpa only [zE] using this):zJ v9.1≤v9.2.length);have h2:=(zO v9.2.length);omega) (regW.of ?_)
 simp only[seval,EMB,al,w_eq,ag,spD]
 refine mU e (.seqK (.guard λq10=>?_)) h
 replace q10:=gsl_of q10
 refine .regionW λe h=>regW.alt 2 rfl ?_
 simp only[seval,EMB,al,w_eq,ag,spD]
 refine alt_sliceR (l:=0) (h:=zJ v9.1) rfl rfl und_94 sz_127 (by simp only[seval,EMB,bd_some,bd_none,zW,zX,lm,q10.1,q10.2.1]) (by simp only[seval,EMB,bd_some,bd_none,zW,zX,lm,q10.1,q10.2.1]) (zY _) (by rw[lm];exact q10.2.2.2) (regW.of ?_)
 simp only[seval,EMB,al,w_eq,ag,spD]
 refine mU e (.frz 4 rfl ?_) h
 simp only[seval,us_0,us_s,xCA,xNA,and_self,and_true,true_and,and_false,false_and,SZ,tk_map,dr_map]
 repeat first | rw[if_pos (show _≤(_:Nat) by simp only[lm,zG,zK,zL,zI];have h1:=((by have:=q9.2.2.1;simpa only [zE] using this):zJ v9.1≤v9.2.length);have h2:=(zO v9.2.length);simp only[zG,zK,zL,zI]at h1 h2;omega)] | rw[if_pos (show _≤(_:Nat) by simp only[lm,zG,zK,zL,zI];have h1:=((by have:=q9.2.2.1;simpa only [zE] using this):zJ v9.1≤v9.2.length);have h2:=(zO v9.2.length);omega)] | rw[if_pos (show _≤(_:Nat) by simp only[lm,zG,zK,zL,zI];have h1:=((zY _):0≤zJ v9.1);have h2:=q10.2.2.2;simp only[zG,zK,zL,zI]at h1 h2;omega)] | rw[if_pos (show _≤(_:Nat) by simp only[lm,zG,zK,zL,zI];have h1:=((zY _):0≤zJ v9.1);have h2:=q10.2.2.2;omega)] | rw[if_pos (show _≤(_:Nat) by simp only[lm,zG,zK,zL,zI];have h1:=((zY _):0≤zJ v9.1);have h2:=q10.2.2.2;simp only[zG,zK,zL,zI]at h1 h2;omega)] | rw[if_pos (show _≤(_:Nat) by simp only[lm,zG,zK,zL,zI];have h1:=((zY _):0≤zJ v9.1);have h2:=q10.2.2.2;omega)]
 refine .ret λe h=>?_
 cases h
 simp only[seval,FMB,ag,spD]
 simp only[seval,EMB,ag,spD]
 refine mU e (.seqK (.seqK (.joinV ([U,U,.ptr 0 0,U,U,U,.own 0 (zB ac v1.1),U,U,.ptr 2 0,U,.ptr 3 0,.d (.list (zB ac a1)),.d (.int .i64 (a1.length:Int)),.d (.int .i64 (i1:Int)),U,U,U,U,U,U,U,U,U,U,U,U,U,U,U,U,U,U,U,U,U,U,U,U,U,U,U,U,U,U,U,.d (.bool ((decide ((v10.length:Int)>0))||(!(e1.Comment==[])||e1.Skip)))]++us 7) ⟨[(cA v1.2),(cG e1),(cA y1.1),[.d (.bool e1.Skip),.d (.list (zB ao v10)),.d (.str e1.Comment)],[.rowc 127 1 (zB ao [])]],[(96,v1.1.length)]⟩ rfl ?_ ?_))) h
 refine SWs.region ?_
 rcases zD (decide ((v10.length:Int)>0))with h16 | h16
 simp only[seval,EMB,SL,PB,h16,ag,spD]
 rcases zD (e1.Comment==[])with h17 | h17
 simp only[seval,EMB,SL,PB,h16,h17,ag,spD]
 simp only[seval,EMB,SL,PB,h16,h17,ag,spD]
 refine Mir.toK (Mir.joinO (λv11:(List aa)=>([U,U,.ptr 0 0,U,U,U,.own 0 (zB ac v11),U,U,.ptr 2 0,U,U,.d (.list (zB ac a1)),.d (.int .i64 (a1.length:Int)),.d (.int .i64 (i1:Int))]++us 39)) (λv11=>⟨[(cA v1.2),(cG e1),(cA y1.1),[.d (.bool e1.Skip),.d (.list (zB ao v10)),.d (.str e1.Comment)],[.rowc 127 1 (zB ao [])]],[(96,v11.length)]⟩) (λ_=>rfl) ?_ ?_)
 refine .cond rfl (λh18=>?_) (λh18=>?_)
 refine .guard λq11=>.region λe h=>?_
 simp only[seval,EMB,(oL 3),q11,ag,spD]
 cases h
 simp only[seval,FMB,ag,spD]
 refine .skip λe h=>?_
 cases h
 simp only[seval,FMB,ag,spD]
 intro v11
 refine Mir.toK (.region λe h=>?_)
 simp only[seval,EMB,ag,spD]
 refine mU e (.region λe h=>?_) h
 simp only[seval,EMB,ag,spD]
 cases h
 simp only[seval,FMB,ag,spD,q2]
 intro v1 q12
 refine .sR λe h=>?_
 simp only[seval,EMB,q12,ag,spD]
 refine mU e (.seqK (.condF rfl (.exit λe h=>?_))) h
 cases h
 simp only[seval,FMB,ag,spD]
 intro v12
 refine Mir.toK (.sR λe h=>?_)
 simp only[seval,EMB,ag,spD]
 refine mU e (.ret λe h=>?_) h
 cases h
 simp only[seval,FMB,ag,spD]
def cu(a0:aa)(a1:Int):Option (List Int):=bindO (az (okIdx a0.Words) ( aI (λ(i1:Nat) (e1:ap) (v1:(List Int))=>bindO (if (e1.Letter==a1)=true then az (okLen (v1.length+1)) ( some (v1++[e1.Value]))else some v1) λ(v2:(List Int))=>some (.go v2)) (λ(v1:(List Int))=>some v1) a0.Words 0 [])) λ(v3:(List Int))=>some v3
theorem bE{a0:aa}{a1:Int}{y:(List Int)}(h:cu a0 a1=some y):Spec gP 57 [.agg (cG a0),.d (.int .u8 a1)] (.d (.list (zB (eInt .i64) y))):=by
 refine auB Tryz.func57 (λy:(List Int)=>.d (.list (zB (eInt .i64) y))) ?_ h
 unfold cu
 refine .sR λe h=>?_
 simp only[seval,EMB,eInt]
 refine mU e (.sR λe h=>?_) h
 simp only[seval,EMB,eInt]
 refine mU e (.seqK (.sR λe h=>?_)) h
 simp only[seval,EMB,eInt]
 refine mU e (.gh [.slot 5 2] rfl (Mir.joinO (λv3:(List Int)=>([U,U,U,U,U,.own 0 (zB (eInt .i64) v3)]++us 20)) (λv3=>⟨[(cG a0)],[(2,v3.length)]⟩) (λ_=>rfl) ?_ ?_)) h
 refine .block (.guard λqg91=>Mir.range (λ(i1:Nat) (v1:(List Int))=>([U,.d (.int .u8 a1),U,U,U,.own 0 (zB (eInt .i64) v1),U,U,U,.d (.list (zB ao a0.Words)),.d (.int .i64 (a0.Words.length:Int)),.d (.int .i64 (i1:Int))]++us 14)) (λi1 v1=>⟨[(cG a0)],[(2,v1.length)]⟩) qg91 (λ_ _=>rfl) (by simp only[seval,FMB,eInt,zNI]) (by simp only[seval,FMB,eInt,zNI]) ?_ ?_)
 intro i1 e1 v1 qr89
 refine .sR λe h=>?_
 simp only[seval,EMB,qr89,eInt]
 refine mU e (.seqK (.condT rfl (.skip (Mir.toK (.seqK (Mir.joinO (λv2:(List Int)=>([U,.d (.int .u8 a1),U,U,U,.own 0 (zB (eInt .i64) v2),U,U,U,.d (.list (zB ao a0.Words)),.d (.int .i64 (a0.Words.length:Int)),.d (.int .i64 (i1:Int))]++us 14)) (λv2=>⟨[(cG a0)],[(2,v2.length)]⟩) (λ_=>rfl) ?_ ?_)))))) h
 refine .block (.sR λe h=>?_)
 simp only[seval,EMB,qr89,zE,eInt]
 refine mU e (.sR λe h=>?_) h
 simp only[seval,EMB,eInt]
 refine mU e (.cond rfl (λhb94=>?_) (λhb94=>?_)) h
 refine .guard λq95=>.region λe h=>?_
 simp only[seval,EMB,(oL 1),q95,eInt]
 cases h
 simp only[seval,FMB,eInt]
 refine .skip λe h=>?_
 cases h
 simp only[seval,FMB,eInt]
 intro v2
 refine Mir.toK (.region λe h=>?_)
 simp only[seval,EMB,eInt]
 cases h
 simp only[seval,FMB,eInt,qr89]
 intro v1 qd90
 refine .sR λe h=>?_
 simp only[seval,EMB,qd90,eInt]
 refine mU e (.seqK (.condF rfl (.exit λe h=>?_))) h
 cases h
 simp only[seval,FMB,eInt]
 intro v3
 refine Mir.toK (.sR λe h=>?_)
 simp only[seval,EMB,eInt]
 refine mU e (.ret λe h=>?_) h
 cases h
 simp only[seval,FMB,eInt]
def bA(a0:(List Int))(a1:Int):Option Int:=bindX (az (okIdx a0) ( aI (λ(i1:Nat) (e1:Int) (v1:Unit)=>if (a1==e1)=true then some (.ret (.ret (i1:Int)))else some (.go ())) (λ(v1:Unit)=>some (.go ())) a0 0 ())) λ(v2:Unit)=>some (-1)
theorem fj{a0:(List Int)}{a1:Int}{y:Int}(h:bA a0 a1=some y):Spec gP 108 [.d (.list (zB (eInt .i64) a0)),.d (.int .i64 a1)] (.d (.int .i64 y)):=by
 refine auB Tryz.func108 (λy:Int=>.d (.int .i64 y)) ?_ h
 unfold bA
 refine .sR λe h=>?_
 simp only[seval,EMB,eInt]
 refine mU e (.seqK (.sR λe h=>?_)) h
 simp only[seval,EMB,eInt]
 refine mU e (Mir.join (λv2:Unit=>(us 19)) (λv2=>⟨[],[]⟩) (λ_=>rfl) ?_ ?_) h
 refine .block (.guard λqg51=>Mir.range (λ(i1:Nat) (v1:Unit)=>([.d (.list (zB (eInt .i64) a0)),.d (.int .i64 a1),U,U,U,U,U,.d (.int .i64 (a0.length:Int)),.d (.int .i64 (i1:Int))]++us 10)) (λi1 v1=>⟨[],[]⟩) qg51 (λ_ _=>rfl) (by simp only[seval,FMB,eInt,zNI]) (by simp only[seval,FMB,eInt,zNI]) ?_ ?_)
 intro i1 e1 v1 qr49
 refine .sR λe h=>?_
 simp only[seval,EMB,qr49,eInt]
 refine mU e (.seqK (.condT rfl (.skip (Mir.toK (.seqK (.block (.sR λe h=>?_))))))) h
 simp only[seval,EMB,eInt]
 refine mU e (.sR λe h=>?_) h
 simp only[seval,EMB,qr49,zE,eInt]
 refine mU e (.cond rfl (λhb54=>?_) (λhb54=>?_)) h
 refine .sR λe h=>?_
 simp only[seval,EMB,eInt]
 refine mU e (.ret λe h=>?_) h
 cases h
 simp only[seval,FMB,eInt]
 refine .skip (Mir.toB (Mir.toK (.region λe h=>?_)))
 simp only[seval,EMB,eInt]
 cases h
 simp only[seval,FMB,eInt,qr49]
 intro v1 qd50
 refine .sR λe h=>?_
 simp only[seval,EMB,qd50,eInt]
 refine mU e (.seqK (.condF rfl (.exit λe h=>?_))) h
 cases h
 simp only[seval,FMB,eInt]
 intro v2
 refine Mir.toK (.sR λe h=>?_)
 simp only[seval,EMB,eInt]
 refine mU e (.ret λe h=>?_) h
 cases h
 simp only[seval,FMB,eInt]
def aM(a0:(List Int))(a1:Int):Option Bool:=bindO (bA a0 a1) λ(y1:Int)=>some (decide (y1≥0))
theorem bF{a0:(List Int)}{a1:Int}{y:Bool}(h:aM a0 a1=some y):Spec gP 56 [.d (.list (zB (eInt .i64) a0)),.d (.int .i64 a1)] (.d (.bool y)):=by
 refine auB Tryz.func56 (λy:Bool=>.d (.bool y)) ?_ h
 unfold aM
 refine .sR λe h=>?_
 simp only[seval,EMB,eInt]
 refine mU e (.seqK (.bind λy1 hy1=>.region λe h=>?_)) h
 simp only[seval,EMB,eInt]
 refine SpecS.by (fj hy1) (by simp only[seval,FMB,eInt]) ?_
 simp only[seval,EMB,eInt]
 refine mU e (.ret λe h=>?_) h
 cases h
 simp only[seval,FMB,eInt]
def iM(a0:aa)(a1:Int)(a2:Int):Option Bool:=bindO (cu a0 a1) λ(y1:(List Int))=>bindO (aM y1 a2) λ(y2:Bool)=>some y2
theorem bJ{a0:aa}{a1:Int}{a2:Int}{y:Bool}(h:iM a0 a1 a2=some y):Spec gP 44 [.agg (cG a0),.d (.int .u8 a1),.d (.int .i64 a2)] (.d (.bool y)):=by
 refine auB Tryz.func44 (λy:Bool=>.d (.bool y)) ?_ h
 unfold iM
 refine .sB ?_
 refine .seqK (.bind λy1 hy1=>.bind λy2 hy2=>.region λe h=>WB ?_)
 refine .byB (bE hy1) (WB ?_)
 refine .byB (bF hy2) (mB ?_ h)
 refine .ret QB
def dB(a0:aa):Option Bool:=bindO (bindO (cu a0 79) λ(y1:(List Int))=>if (decide ((y1.length:Int)>0))=true then some true else bindO (iM a0 77 30000) λ(y2:Bool)=>if y2=true then some true else bindO (iM a0 77 99000) λ(y3:Bool)=>some y3) λ(v1:Bool)=>some v1
theorem dA{a0:aa}{y:Bool}(h:dB a0=some y):Spec gP 93 [.agg (cG a0)] (.d (.bool y)):=by
 refine auB Tryz.func93 (λy:Bool=>.d (.bool y)) ?_ h
 unfold dB
 refine .sB ?_
 refine .seqK (Mir.joinO (λv1:Bool=>([U,U,.d (.bool v1)]++us 12)) (λv1=>⟨[(cG a0)],[]⟩) (λ_=>rfl) ?_ ?_)
 refine .bind λy1 hy1=>.ite (λhb2=>?_) (λhb2=>?_)
 refine .region λe h=>?_
 simp only[seval,EMB,hb2]
 refine SpecS.by (bE hy1) (by simp only[seval,FMB,hb2]) ?_
 simp only[seval,EMB,hb2]
 cases h
 simp only[seval,FMB,hb2]
 refine .bind λy2 hy3=>.ite (λhb4=>?_) (λhb4=>?_)
 refine .region λe h=>?_
 simp only[seval,EMB,hb2,hb4]
 refine SpecS.by (bE hy1) (by simp only[seval,FMB,hb2,hb4]) ?_
 simp only[seval,EMB,hb2,hb4]
 refine SpecS.by (bJ hy3) (by simp only[seval,FMB,hb2,hb4]) ?_
 simp only[seval,EMB,hb2,hb4]
 cases h
 simp only[seval,FMB,hb2,hb4]
 refine .bind λy3 hy5=>.region λe h=>?_
 simp only[seval,EMB,hb2,hb4]
 refine SpecS.by (bE hy1) (by simp only[seval,FMB,hb2,hb4]) ?_
 simp only[seval,EMB,hb2,hb4]
 refine SpecS.by (bJ hy3) (by simp only[seval,FMB,hb2,hb4]) ?_
 simp only[seval,EMB,hb2,hb4]
 refine SpecS.by (bJ hy5) (by simp only[seval,FMB,hb2,hb4]) ?_
 simp only[seval,EMB,hb2,hb4]
 cases h
 simp only[seval,FMB,hb2,hb4]
 intro v1
 refine Mir.toK (.ret QB)
def fW(a0:aa):Option Bool:=bindO (bindO (dB a0) λ(y1:Bool)=>if y1=true then some false else bindO (cu a0 78) λ(y2:(List Int))=>if ((y2.length:Int)==0)=true then bindO (iM a0 77 98000) λ(y3:Bool)=>some (!y3)else some false) λ(v1:Bool)=>some v1
theorem iO{a0:aa}{y:Bool}(h:fW a0=some y):Spec gP 113 [.agg (cG a0)] (.d (.bool y)):=by
 refine auB Tryz.func113 (λy:Bool=>.d (.bool y)) ?_ h
 unfold fW
 refine .sB ?_
 refine .seqK (Mir.joinO (λv1:Bool=>([U,U,.d (.bool v1)]++us 14)) (λv1=>⟨[(cG a0)],[]⟩) (λ_=>rfl) ?_ ?_)
 refine .bind λy1 hy1=>.ite (λhb2=>?_) (λhb2=>?_)
 refine .region λe h=>?_
 simp only[seval,EMB,hb2]
 refine SpecS.by (dA hy1) (by simp only[seval,FMB,hb2]) ?_
 simp only[seval,EMB,hb2]
 cases h
 simp only[seval,FMB,hb2]
 refine .bind λy2 hy3=>.ite (λhb4=>?_) (λhb4=>?_)
 refine .bind λy3 hy5=>.region λe h=>?_
 simp only[seval,EMB,hb2,hb4]
 refine SpecS.by (dA hy1) (by simp only[seval,FMB,hb2,hb4]) ?_
 simp only[seval,EMB,hb2,hb4]
 refine SpecS.by (bE hy3) (by simp only[seval,FMB,hb2,hb4]) ?_
 simp only[seval,EMB,hb2,hb4]
 refine SpecS.by (bJ hy5) (by simp only[seval,FMB,hb2,hb4]) ?_
 simp only[seval,EMB,hb2,hb4]
 cases h
 simp only[seval,FMB,hb2,hb4]
 refine .region λe h=>?_
 simp only[seval,EMB,hb2,hb4]
 refine SpecS.by (dA hy1) (by simp only[seval,FMB,hb2,hb4]) ?_
 simp only[seval,EMB,hb2,hb4]
 refine SpecS.by (bE hy3) (by simp only[seval,FMB,hb2,hb4]) ?_
 simp only[seval,EMB,hb2,hb4]
 cases h
 simp only[seval,FMB,hb2,hb4]
 intro v1
 refine Mir.toK (.ret QB)
def bk(a0:(List ap))(a1:(List ap)):Option Bool:=if ((a0.length:Int) != (a1.length:Int))=true then some false else bindX (az (okIdx a0) ( aI (λ(i1:Nat) (e1:ap) (v1:Unit)=>bindO (gt a1 (i1:Int)) λ(e2:ap)=>if (!((e1.Letter==e2.Letter)&&(e1.Value==e2.Value)))=true then some (.ret (.ret false))else some (.go ())) (λ(v1:Unit)=>some (.go ())) a0 0 ())) λ(v2:Unit)=>some true
theorem dP{a0:(List ap)}{a1:(List ap)}{y:Bool}(h:bk a0 a1=some y):Spec gP 140 [.d (.list (zB ao a0)),.d (.list (zB ao a1))] (.d (.bool y)):=by
 refine auB Tryz.func140 (λy:Bool=>.d (.bool y)) ?_ h
 unfold bk
 refine .sB ?_
 refine .seqK (.sB ?_)
 refine .cond rfl (λhb2=>?_) (λhb2=>?_)
 refine .sB ?_
 refine .ret QB
 refine .skip (Mir.toK (.seqK (.sB ?_)))
 refine Mir.join (λv2:Unit=>(us 26)) (λv2=>⟨[],[]⟩) (λ_=>rfl) ?_ ?_
 refine .block (.guard λqg67=>Mir.range (λ(i1:Nat) (v1:Unit)=>([.d (.list (zB ao a0)),.d (.list (zB ao a1)),U,U,U,U,U,U,U,U,U,U,.d (.int .i64 (a0.length:Int)),.d (.int .i64 (i1:Int))]++us 12)) (λi1 v1=>⟨[],[]⟩) qg67 (λ_ _=>rfl) (by simp only[seval,FMB,zNI]) (by simp only[seval,FMB,zNI]) ?_ ?_)
 intro i1 e1 v1 qr65
 refine .sR λe h=>?_
 simp only[seval,EMB,qr65]
 refine mU e (.seqK (.condT rfl (.skip (Mir.toK (.seqK (.block (.sB ?_))))))) h
 refine .seqK (.bind λe2 q70=>?_)
 replace q70:=gt_ok q70
 simp only[zE]at q70
 refine .regionD [] (by kernel_rfl) λe h=>?_
 simp only[seval,EMB,SB,qr65,zE,q70,gE_127]
 refine mU e (.cond rfl (λhb72=>?_) (λhb72=>?_)) h
 refine .sB ?_
 refine .ret QB
 refine .skip (Mir.toB (Mir.toK (.region λe h=>?_)))
 simp only[seval,EMB]
 cases h
 simp only[seval,FMB,qr65]
 intro v1 qd66
 refine .sR λe h=>?_
 simp only[seval,EMB,qd66]
 refine mU e (.seqK (.condF rfl (.exit QB))) h
 intro v2
 refine Mir.toK (.sB ?_)
 refine .ret QB
def bk_Equal(a0:aa)(a1:aa):Option Bool:=bindO (if (a0.Skip==a1.Skip)=true then if (a0.Comment==a1.Comment)=true then bindO (bk a0.Words a1.Words) λ(y1:Bool)=>some y1 else some false else some false) λ(v1:Bool)=>some v1
theorem bk_Equal_spec{a0:aa}{a1:aa}{y:Bool}(h:bk_Equal a0 a1=some y):Spec gP 114 [.agg (cG a0),.agg (cG a1)] (.d (.bool y)):=by
 refine auB Tryz.func114 (λy:Bool=>.d (.bool y)) ?_ h
 unfold bk_Equal
 refine .sB ?_
 refine .seqK (Mir.joinO (λv1:Bool=>([U,U,U,U,.d (.bool v1)]++us 19)) (λv1=>⟨[(cG a0),(cG a1)],[]⟩) (λ_=>rfl) ?_ ?_)
 refine .ite (λhb1=>?_) (λhb1=>?_)
 refine .ite (λhb2=>?_) (λhb2=>?_)
 refine .bind λy1 hy3=>.region λe h=>?_
 simp only[seval,EMB,hb1,hb2]
 refine SpecS.by (dP hy3) (by simp only[seval,FMB,hb1,hb2]) ?_
 simp only[seval,EMB,hb1,hb2]
 cases h
 simp only[seval,FMB,hb1,hb2]
 refine .region λe h=>?_
 simp only[seval,EMB,hb1,hb2]
 cases h
 simp only[seval,FMB,hb1,hb2]
 refine .region λe h=>?_
 simp only[seval,EMB,hb1]
 cases h
 simp only[seval,FMB,hb1]
 intro v1
 refine Mir.toK (.ret QB)
def sp_run(a0:(List aa))(a1:Int)(a2:Int)(a3:Int):Option Bool:=bindX (loopX (λ(v1:Int)=>if (decide (v1<a3))=true then bindO (bindO (gt a0 (kP.wrap (a1+v1))) λ(e1:aa)=>bindO (fW e1) λ(y1:Bool)=>if y1=true then bindO (gt a0 (kP.wrap (a2+v1))) λ(e2:aa)=>bindO (bk_Equal e1 e2) λ(y2:Bool)=>some (!y2)else some true) λ(v2:Bool)=>if v2=true then some (.ret (.ret false))else some (.go (kP.wrap (v1+1)))else some (.ret (.go ()))) fuel 0) λ(v3:Unit)=>some true
theorem sp_run_spec{a0:(List aa)}{a1:Int}{a2:Int}{a3:Int}{y:Bool}(h:sp_run a0 a1 a2 a3=some y):Spec gP 73 [.d (.list (zB ac a0)),.d (.int .i64 a1),.d (.int .i64 a2),.d (.int .i64 a3)] (.d (.bool y)):=by
 refine auB Tryz.func73 (λy:Bool=>.d (.bool y)) ?_ h
 unfold sp_run
 refine .sB ?_
 refine .seqK (.sB ?_)
 refine Mir.join (λv3:Unit=>(us 39)) (λv3=>⟨[],[]⟩) (λ_=>rfl) ?_ ?_
 refine .block (Mir.loop (λv1:Int=>([.d (.list (zB ac a0)),.d (.int .i64 a1),.d (.int .i64 a2),U,U,U,U,U,U,U,.d (.int .i64 a3),.d (.int .i64 v1)]++us 27)) (λv1=>⟨[],[]⟩) (λ_=>rfl) (by simp only[seval,FMB]) (by simp only[seval,FMB]) λv1=>.sB ?_)
 refine .seqK (.cond rfl (λhb77=>?_) (λhb77=>?_))
 refine .skip (Mir.toK (.seqK (.block (.sB ?_))))
 refine .seqK (Mir.joinO (λv2:Bool=>[.d (.list (zB ac a0)),.d (.int .i64 a1),.d (.int .i64 a2),U,U,U,U,U,U,U,.d (.int .i64 a3),.d (.int .i64 v1),U,U,U,U,U,U,U,U,U,U,U,U,U,U,U,U,U,U,U,U,U,U,U,U,U,.d (.bool v2),U]) (λv2=>⟨[],[]⟩) (λ_=>rfl) ?_ ?_)
 refine .bind λe1 q84=>?_
 replace q84:=gt_ok q84
 refine .bind λy1 hy85=>.ite (λhb86=>?_) (λhb86=>?_)
 refine .bind λe2 q87=>?_
 replace q87:=gt_ok q87
 refine .bind λy2 hy88=>.regionD [] (by kernel_rfl) λe h=>?_
 simp only[seval,EMB,SB,q84,hb86]
 refine Spec.by (iO hy85) (by simp only[seval,FMB,hb86]) ?_
 simp only[seval,EMB,SB,q84,q87,hb86]
 refine Spec.by (bk_Equal_spec hy88) (by simp only[seval,FMB,hb86]) ?_
 simp only[seval,EMB,SB,hb86]
 cases h
 simp only[seval,FMB,hb86]
 refine .regionD [] (by kernel_rfl) λe h=>?_
 simp only[seval,EMB,SB,q84,hb86]
 refine Spec.by (iO hy85) (by simp only[seval,FMB,hb86]) ?_
 simp only[seval,EMB,SB,hb86]
 cases h
 simp only[seval,FMB,hb86]
 intro v2
 refine Mir.toK (.cond rfl (λhb90=>?_) (λhb90=>?_))
 refine .sB ?_
 refine .ret QB
 refine .skip (Mir.toB (Mir.toK (.rB)))
 refine .exit QB
 intro v3
 refine Mir.toK (.sB ?_)
 refine .ret QB
def sp_first(a0:(List aa))(a1:Int):Option Int:=bindX (loopX (λ(v1:Int)=>if (decide ((kP.wrap (v1+a1))≤(kP.wrap ((a0.length:Int)-a1))))=true then bindX (loopX (λ(v2:Int)=>if (decide ((kP.wrap (v2+a1))≤(a0.length:Int)))=true then bindO (sp_run a0 v1 v2 a1) λ(y1:Bool)=>if y1=true then some (.ret (.ret (.ret (.ret v1))))else some (.go (kP.wrap (v2+1)))else some (.ret (.go ()))) fuel (kP.wrap (v1+a1))) λ(v3:Unit)=>some (.go (kP.wrap (v1+1)))else some (.ret (.go ()))) fuel 0) λ(v4:Unit)=>some (-1)
theorem sp_first_spec{a0:(List aa)}{a1:Int}{y:Int}(h:sp_first a0 a1=some y):Spec gP 72 [.d (.list (zB ac a0)),.d (.int .i64 a1)] (.d (.int .i64 y)):=by
 refine auB Tryz.func72 (λy:Int=>.d (.int .i64 y)) ?_ h
 unfold sp_first
 refine .sB ?_
 refine .seqK (.sB ?_)
 refine Mir.join (λv4:Unit=>(us 34)) (λv4=>⟨[],[]⟩) (λ_=>rfl) ?_ ?_
 refine .block (Mir.loop (λv1:Int=>([.d (.list (zB ac a0)),.d (.int .i64 a1),U,U,U,.d (.int .i64 v1)]++us 28)) (λv1=>⟨[],[]⟩) (λ_=>rfl) (by simp only[seval,FMB]) (by simp only[seval,FMB]) λv1=>.seqK (.sB ?_))
 refine .cond rfl (λh1=>?_) (λh1=>?_)
 refine .skip (Mir.toK (.seqK (Mir.join (λv3:Unit=>([.d (.list (zB ac a0)),.d (.int .i64 a1),U,U,U,.d (.int .i64 v1)]++us 28)) (λv3=>⟨[],[]⟩) (λ_=>rfl) ?_ ?_)))
 refine .block (.sB ?_)
 refine .block (Mir.loop (λv2:Int=>([.d (.list (zB ac a0)),.d (.int .i64 a1),U,U,U,.d (.int .i64 v1),.d (.int .i64 v2)]++us 27)) (λv2=>⟨[],[]⟩) (λ_=>rfl) (by simp only[seval,FMB]) (by simp only[seval,FMB]) λv2=>.seqK (.sB ?_))
 refine .cond rfl (λh2=>?_) (λh2=>?_)
 refine .skip (Mir.toK (.seqK (.block (.seqK (.bind λy1 h3=>.region λe h=>WB ?_)))))
 refine .byB (sp_run_spec h3) (mB ?_ h)
 refine .cond rfl (λh4=>?_) (λh4=>?_)
 refine .sB ?_
 refine .ret QB
 refine .skip (Mir.toB (Mir.toK (.rB)))
 refine .exit QB
 intro v3
 refine Mir.toK (.rB)
 refine .exit QB
 intro v4
 refine Mir.toK (.sB ?_)
 refine .ret QB
def aC(a0:List aa):Option (List aa):=az (okLen a0.length) (some a0)
theorem ea{c0:Nat}{y:List aa}(h:(some [])=some y):Spec gP 45 [.d (.other (.slice none 0 c0))] (.d (.list (zB ac y))):=by
 refine fA Tryz.func45 rfl (by kernel_rfl) (by kernel_rfl) (λy:List aa=>.d (.list (zB ac y))) ?_ h
 simp only[zF,zH,nS,nA,Tryz.ntmps45,SV]
 refine .sB ?_
 refine .seqK (.sB ?_)
 refine .condT rfl (.sB ?_)
 refine .ret QB
theorem d9{p0:Addr}{c0:Nat}{y:List aa}(h:(some [])=some y):Spec gP 45 [.d (.other (.slice (some p0) 0 c0))] (.d (.list (zB ac y))):=by
 refine fA Tryz.func45 rfl (by kernel_rfl) (by kernel_rfl) (λy:List aa=>.d (.list (zB ac y))) ?_ h
 simp only[zF,zH,nS,nA,Tryz.ntmps45,SV]
 refine .sB ?_
 refine .seqK (.sB ?_)
 refine .condF rfl (.skip (Mir.toK (.sR λe h=>?_)))
 simp only[seval,EMB,(oL 0),kN,kO]
 refine mU e (.ret QB) h
theorem ec{x0:aa}{l0:List aa}{y:List aa}(h:(az (okLen ((x0::l0).length)) (   some (x0::l0)))=some y):Spec gP 45 [.d (.list (zB ac (x0::l0)))] (.d (.list (zB ac y))):=by
 refine fA Tryz.func45 rfl (by kernel_rfl) (by kernel_rfl) (λy:List aa=>.d (.list (zB ac y))) ?_ h
 simp only[zF,zH,nS,nA,Tryz.ntmps45,SV]
 refine .sB ?_
 refine .seqK (.sB ?_)
 refine .condF rfl (.skip (Mir.toK (.seqK (.guard λq1=>.region λe h=>?_))))
 simp only[seval,EMB,(oL 0),q1]
 refine mU e (.ret QB) h
theorem bf{a0:List aa}{y:List aa}(h:aC a0=some y):Spec gP 45 [.d (.list (zB ac a0))] (.d (.list (zB ac y))):=by
 obtain⟨hl,h⟩:=bS h
 cases h
 cases a0 with
 | nil =>
  refine Spec.nilcase λA c=>?_
  cases A with
  | none=>exact ea rfl
  | some p=>exact d9 rfl
 | cons x l=>exact ec (by simp only[az,hl])
theorem dS{c0:Nat}{y:List aa}(h:(some [])=some y):SpecO gP 45 [.d (.other (.slice none 0 c0))] 96 (zB ac y):=by
 refine specO_mir Tryz.func45 rfl (by kernel_rfl) (by kernel_rfl) (λy:List aa=>zB ac y) ?_ h
 simp only[zF,zH,nS,nA,Tryz.ntmps45,SV]
 refine .sB ?_
 refine .seqK (.sB ?_)
 refine .condT rfl (.sB ?_)
 refine .ret λe h=>?_
 cases h
 simp only[seval,FMB,fy_r,fy_n,yr_o,yr_n]
theorem dR{p0:Addr}{c0:Nat}{y:List aa}(h:(some [])=some y):SpecO gP 45 [.d (.other (.slice (some p0) 0 c0))] 96 (zB ac y):=by
 refine specO_mir Tryz.func45 rfl (by kernel_rfl) (by kernel_rfl) (λy:List aa=>zB ac y) ?_ h
 simp only[zF,zH,nS,nA,Tryz.ntmps45,SV]
 refine .sB ?_
 refine .seqK (.sB ?_)
 refine .condF rfl (.skip (Mir.toK (.seqK (.regionW λe h=>regW.alt 0 rfl ?_))))
 simp only[seval,EMB,al,w_eq]
 refine d8 app_61 (regW.of ?_)
 simp only[seval,EMB,al,w_eq,(oL 0)]
 refine mU e (.ret λe h=>?_) h
 cases h
 simp only[seval,FMB,fy_r,fy_n,yr_o,yr_n]
theorem dU{x0:aa}{l0:List aa}{y:List aa}(h:(az (okLen (0+(x0::l0).length)) (   some ([]++(x0::l0))))=some y):SpecO gP 45 [.d (.list (zB ac (x0::l0)))] 96 (zB ac y):=by
 refine specO_mir Tryz.func45 rfl (by kernel_rfl) (by kernel_rfl) (λy:List aa=>zB ac y) ?_ h
 simp only[zF,zH,nS,nA,Tryz.ntmps45,SV]
 refine .sB ?_
 refine .seqK (.sB ?_)
 refine .condF rfl (.skip (Mir.toK (.seqK (.guard λq1=>.regionW λe h=>regW.alt 0 rfl ?_))))
 simp only[seval,EMB,al,w_eq]
 refine d8 app_61 (regW.of ?_)
 simp only[seval,EMB,al,w_eq,(oL 0),q1]
 refine mU e (.ret λe h=>?_) h
 cases h
 simp only[seval,FMB,fy_r,fy_n,yr_o,yr_n]
theorem dh{a0:List aa}{y:List aa}(h:aC a0=some y):SpecO gP 45 [.d (.list (zB ac a0))] 96 (zB ac y):=by
 obtain⟨hl,h⟩:=bS h
 cases h
 cases a0 with
 | nil =>
  refine SpecO.nilcase λA c=>?_
  cases A with
  | none=>exact dS rfl
  | some p=>exact dR rfl
 | cons x l=>exact dU (by simp only[az,zU,kL,hl])
def kr(a0:(List aa))(a1:Int)(a2:Int):Option (aA×Int):=if ((decide (a1<1))||((decide (a1>9999))||(decide (a2<1))))=true then some (aA.mk [] [],1)else bindO (if (decide (a2≤(kP.wrap (Int.tdiv (a0.length:Int) 2))))=true then bindO (sp_first a0 a2) λ(y1:Int)=>some y1 else some (-1)) λ(v1:Int)=>if (decide (v1<0))=true then bindO (aC a0) λ(y2:(List aa))=>some (aA.mk y2 [],0)else bindO (loopX (λ(v2:(List aa)×Int)=>if (decide (v2.2<(a0.length:Int)))=true then bindO (if (decide ((kP.wrap (v2.2+a2))≤(a0.length:Int)))=true then bindO (sp_run a0 v1 v2.2 a2) λ(y3:Bool)=>some y3 else some false) λ(v3:Bool)=>if v3=true then az (okLen (v2.1.length+1)) ( some (.go (v2.1++[aa.mk false [ap.mk 77 98000,ap.mk 80 (kP.wrap (1000*a1))] []],kP.wrap (v2.2+a2))))else bindO (gt a0 v2.2) λ(e1:aa)=>az (okLen (v2.1.length+1)) ( some (.go (v2.1++[e1],kP.wrap (v2.2+1))))else some (.ret v2.1)) fuel ([],0)) λ(v4:(List aa))=>bindO (cutL a0 v1 (kP.wrap (v1+a2))) λ(s1:(List aa))=>bindO (aC s1) λ(y4:(List aa))=>some (aA.mk v4 [aE.mk a1 y4],0)
theorem sp_Fold_spec{a0:(List aa)}{a1:Int}{a2:Int}{y:aA×Int}(h:kr a0 a1 a2=some y):Spec gP 29 [.d (.list (zB ac a0)),.d (.int .i64 a1),.d (.int .i64 a2)] (.tuple [.agg [.d (.list (zB ac y.1.Main)),.d (.list (zB aG y.1.Subs))],.d (.int .i64 y.2)]):=by
 refine auB Tryz.func29 (λy:aA×Int=>.tuple [.agg [.d (.list (zB ac y.1.Main)),.d (.list (zB aG y.1.Subs))],.d (.int .i64 y.2)]) ?_ h
 unfold kr
 refine .sB ?_
 refine .seqK (.seqK (.joinV ([.d (.list (zB ac a0)),.d (.int .i64 a1),.d (.int .i64 a2),U,U,U,.ptr 0 0,U,U,U,U,U,U,U,U,U,U,U,U,U,.d (.bool ((decide (a1<1))||((decide (a1>9999))||(decide (a2<1)))))]++us 64) ⟨[[.nil,.nil]],[]⟩ rfl ?_ ?_))
 refine SWs.region ?_
 rcases zD (decide (a1<1))with hb1 | hb1
 simp only[seval,EMB,SL,PB,hb1]
 rcases zD (decide (a1>9999))with hb2 | hb2
 simp only[seval,EMB,SL,PB,hb1,hb2]
 simp only[seval,EMB,SL,PB,hb1,hb2]
 refine Mir.toK (.cond rfl (λhb4=>?_) (λhb4=>?_))
 refine .sB ?_
 refine .ret QB
 refine .skip (Mir.toK (.sB ?_))
 refine .seqK (.sB ?_)
 refine Mir.joinO (λv1:Int=>([.d (.list (zB ac a0)),.d (.int .i64 a1),.d (.int .i64 a2),U,U,U,.ptr 0 0,U,.d (.int .i64 v1)]++us 76)) (λv1=>⟨[[.nil,.nil]],[]⟩) (λ_=>rfl) ?_ ?_
 refine .cond rfl (λhb7=>?_) (λhb7=>?_)
 refine .bind λy1 hy8=>.region λe h=>WB ?_
 refine .byB (sp_first_spec hy8) ?_
 simp only[seval,EMB]
 cases h
 simp only[seval,FMB]
 refine .skip QB
 intro v1
 refine Mir.toK (.seqK (.sB ?_))
 refine .cond rfl (λhb11=>?_) (λhb11=>?_)
 refine .seqK (.bind λy2 hy12=>.region λe h=>WB ?_)
 refine .byB (bf hy12) (mB ?_ h)
 refine .ret QB
 refine .skip (Mir.toK (.sB ?_))
 refine .seqK (.sB ?_)
 refine .gh [.slot 9 96] rfl (Mir.joinO (λv4:(List aa)=>([.d (.list (zB ac a0)),.d (.int .i64 a1),.d (.int .i64 a2),U,U,U,.ptr 0 0,U,.d (.int .i64 v1),.own 0 (zB ac v4)]++us 75)) (λv4=>⟨[[.nil,.nil]],[(96,v4.length)]⟩) (λ_=>rfl) ?_ ?_)
 refine .block (Mir.loop (λv2:(List aa)×Int=>([.d (.list (zB ac a0)),.d (.int .i64 a1),.d (.int .i64 a2),U,U,U,.ptr 0 0,U,.d (.int .i64 v1),.own 0 (zB ac v2.1),.d (.int .i64 v2.2)]++us 74)) (λv2=>⟨[[.nil,.nil]],[(96,v2.1.length)]⟩) (λ_=>rfl) (by simp only[seval,FMB]) (by simp only[seval,FMB]) λv2=>.seqK (.sB ?_))
 refine .cond rfl (λh1=>?_) (λh1=>?_)
 refine .skip (Mir.toK (.block (.seqK (.seqK (Mir.joinO (λv3:Bool=>([.d (.list (zB ac a0)),.d (.int .i64 a1),.d (.int .i64 a2),U,U,U,.ptr 0 0,U,.d (.int .i64 v1),.own 0 (zB ac v2.1),.d (.int .i64 v2.2),U,U,U,U,U,U,U,U,U,U,U,U,U,U,U,U,U,U,U,U,U,U,U,U,U,U,U,U,U,U,U,U,U,U,U,U,U,U,U,U,.d (.bool v3)]++us 33)) (λv3=>⟨[[.nil,.nil]],[(96,v2.1.length)]⟩) (λ_=>rfl) ?_ ?_)))))
 refine .ite (λh2=>?_) (λh2=>?_)
 refine .bind λy3 h3=>.region λe h=>?_
 simp only[seval,EMB,h2]
 refine SpecS.by (sp_run_spec h3) (by simp only[seval,FMB,h2]) ?_
 simp only[seval,EMB,h2]
 cases h
 simp only[seval,FMB,h2]
 refine .region λe h=>?_
 simp only[seval,EMB,h2]
 cases h
 simp only[seval,FMB,h2]
 intro v3
 refine Mir.toK (.cond rfl (λh4=>?_) (λh4=>?_))
 refine .seqK (.guard λq1=>.region λe h=>?_)
 simp only[seval,EMB,(oL 4),(oL 3),q1]
 refine mU e (.sB ?_) h
 refine .exit QB
 refine .skip (Mir.toK (.seqK (.bind λe1 q2=>?_)))
 replace q2:=gt_ok q2
 refine .guard λq3=>.region λe h=>?_
 simp only[seval,EMB,q2,(oL 3),q3]
 refine mU e (.rB) h
 refine .exit QB
 intro v4
 refine Mir.toK (.seqK (.bind λs1 q4=>?_))
 replace q4:=cutL_ok q4
 refine .bind λy4 h5=>.region λe h=>?_
 simp only[seval,EMB,q4,zO,and_true,true_and,dm,tm]
 refine .byB (bf h5) ?_
 simp only[seval,EMB,(oL 2)]
 refine mU e (.ret QB) h
def sp_Join(a0:aA):Option (List aa):=bindO (aC a0.Main) λ(y1:(List aa))=>bindO (az (okIdx a0.Subs) ( aI (λ(i1:Nat) (e1:aE) (v1:(List aa))=>az (okLen (v1.length+1)) ( az (okLen (v1.length+1+e1.Blocks.length)) ( az (okLen (v1.length+1+e1.Blocks.length+1)) ( some (.go (v1++[aa.mk false [ap.mk 79 (kP.wrap (1000*e1.Number))] []]++e1.Blocks++[aa.mk false [ap.mk 77 99000] []])))))) (λ(v1:(List aa))=>some v1) a0.Subs 0 y1)) λ(v2:(List aa))=>some v2
theorem sp_Join_spec{a0:aA}{y:(List aa)}(h:sp_Join a0=some y):Spec gP 30 [.agg (cL a0)] (.d (.list (zB ac y))):=by
 refine auB Tryz.func30 (λy:(List aa)=>.d (.list (zB ac y))) ?_ h
 unfold sp_Join
 refine .sB ?_
 refine .seqK (.bind λy1 hy1=>.region λe h=>WB ?_)
 refine SpecO.toS (dh hy1) (by simp only[seval,FMB]) ?_
 simp only[seval,EMB]
 refine mU e (.seqK (.sB ?_)) h
 refine Mir.joinO (λv2:(List aa)=>([U,U,U,.own 0 (zB ac v2)]++us 33)) (λv2=>⟨[(cL a0)],[(96,v2.length)]⟩) (λ_=>rfl) ?_ ?_
 refine .block (.guard λqg73=>Mir.range (λ(i1:Nat) (v1:(List aa))=>([U,U,U,.own 0 (zB ac v1),U,U,U,U,U,U,.d (.list (zB aG a0.Subs)),.d (.int .i64 (a0.Subs.length:Int)),.d (.int .i64 (i1:Int))]++us 24)) (λi1 v1=>⟨[(cL a0)],[(96,v1.length)]⟩) qg73 (λ_ _=>rfl) (by simp only[seval,FMB,zNI]) (by simp only[seval,FMB,zNI]) ?_ ?_)
 intro i1 e1 v1 qr71
 refine .sR λe h=>?_
 simp only[seval,EMB,qr71]
 refine mU e (.seqK (.condT rfl (.skip (Mir.toK (.seqK (.block (.sR λe h=>?_))))))) h
 simp only[seval,EMB,qr71,zE]
 refine mU e (.seqK (.guard λq77=>.region λe h=>?_)) h
 simp only[seval,EMB,(oL 2),(oL 3),q77]
 refine mU e (.seqK (.guard λq78=>.region λe h=>?_)) h
 simp only[seval,EMB,xLA,q78]
 refine mU e (.guard λq79=>.region λe h=>?_) h
 simp only[seval,EMB,(oL 2),(oL 3),xLA,q79]
 refine mU e (.region λe h=>?_) h
 simp only[seval,EMB]
 cases h
 simp only[seval,FMB,qr71]
 intro v1 qd72
 refine .sR λe h=>?_
 simp only[seval,EMB,qd72]
 refine mU e (.seqK (.condF rfl (.exit QB))) h
 intro v2
 refine Mir.toK (.sB ?_)
 refine .ret QB
def eP(a0:aa)(a1:Int):Option (Int×Bool):=bindX (az (okIdx a0.Words) ( aI (λ(i1:Nat) (e1:ap) (v1:Unit)=>if (e1.Letter==a1)=true then some (.ret (.ret (e1.Value,true)))else some (.go ())) (λ(v1:Unit)=>some (.go ())) a0.Words 0 ())) λ(v2:Unit)=>some (0,false)
theorem dZ{a0:aa}{a1:Int}{y:Int×Bool}(h:eP a0 a1=some y):Spec gP 74 [.agg (cG a0),.d (.int .u8 a1)] (.tuple [.d (.int .i64 y.1),.d (.bool y.2)]):=by
 refine auB Tryz.func74 (λy:Int×Bool=>.tuple [.d (.int .i64 y.1),.d (.bool y.2)]) ?_ h
 unfold eP
 refine .sB ?_
 refine .seqK (.sB ?_)
 refine Mir.join (λv2:Unit=>(us 22)) (λv2=>⟨[(cG a0)],[]⟩) (λ_=>rfl) ?_ ?_
 refine .block (.guard λqg51=>Mir.range (λ(i1:Nat) (v1:Unit)=>([U,.d (.int .u8 a1),U,U,U,U,U,U,U,.d (.list (zB ao a0.Words)),.d (.int .i64 (a0.Words.length:Int)),.d (.int .i64 (i1:Int))]++us 10)) (λi1 v1=>⟨[(cG a0)],[]⟩) qg51 (λ_ _=>rfl) (by simp only[seval,FMB,zNI]) (by simp only[seval,FMB,zNI]) ?_ ?_)
 intro i1 e1 v1 qr49
 refine .sR λe h=>?_
 simp only[seval,EMB,qr49]
 refine mU e (.seqK (.condT rfl (.skip (Mir.toK (.seqK (.block (.sR λe h=>?_))))))) h
 simp only[seval,EMB,qr49,zE]
 refine mU e (.sB ?_) h
 refine .cond rfl (λhb54=>?_) (λhb54=>?_)
 refine .sB ?_
 refine .ret QB
 refine .skip (Mir.toB (Mir.toK (.region λe h=>?_)))
 simp only[seval,EMB]
 cases h
 simp only[seval,FMB,qr49]
 intro v1 qd50
 refine .sR λe h=>?_
 simp only[seval,EMB,qd50]
 refine mU e (.seqK (.condF rfl (.exit QB))) h
 intro v2
 refine Mir.toK (.sB ?_)
 refine .ret QB
def gS(a0:aa):Option Bool:=bindO (cu a0 77) λ(y1:(List Int))=>bindX (az (okIdx y1) ( aI (λ(i1:Nat) (e1:Int) (v1:Unit)=>if (e1==99000)=true then some (.ret (.ret true))else some (.go ())) (λ(v1:Unit)=>some (.go ())) y1 0 ())) λ(v2:Unit)=>some false
theorem po_returns_spec{a0:aa}{y:Bool}(h:gS a0=some y):Spec gP 75 [.agg (cG a0)] (.d (.bool y)):=by
 refine auB Tryz.func75 (λy:Bool=>.d (.bool y)) ?_ h
 unfold gS
 refine .sR λe h=>?_
 simp only[seval,EMB,eInt]
 refine mU e (.seqK (.seqK (.bind λy1 hy1=>.region λe h=>?_))) h
 simp only[seval,EMB,eInt]
 refine SpecS.by (bE hy1) (by simp only[seval,FMB,eInt]) ?_
 simp only[seval,EMB,eInt]
 refine mU e (Mir.join (λv2:Unit=>(us 15)) (λv2=>⟨[(cG a0)],[]⟩) (λ_=>rfl) ?_ ?_) h
 refine .block (.guard λqg52=>Mir.range (λ(i1:Nat) (v1:Unit)=>([U,U,U,U,U,U,.d (.list (zB (eInt .i64) y1)),.d (.int .i64 (y1.length:Int)),.d (.int .i64 (i1:Int))]++us 6)) (λi1 v1=>⟨[(cG a0)],[]⟩) qg52 (λ_ _=>rfl) (by simp only[seval,FMB,eInt,zNI]) (by simp only[seval,FMB,eInt,zNI]) ?_ ?_)
 intro i1 e1 v1 qr50
 refine .sR λe h=>?_
 simp only[seval,EMB,qr50,eInt]
 refine mU e (.seqK (.condT rfl (.skip (Mir.toK (.seqK (.block (.sR λe h=>?_))))))) h
 simp only[seval,EMB,qr50,zE,eInt]
 refine mU e (.sR λe h=>?_) h
 simp only[seval,EMB,eInt]
 refine mU e (.cond rfl (λhb55=>?_) (λhb55=>?_)) h
 refine .sR λe h=>?_
 simp only[seval,EMB,eInt]
 refine mU e (.ret λe h=>?_) h
 cases h
 simp only[seval,FMB,eInt]
 refine .skip (Mir.toB (Mir.toK (.region λe h=>?_)))
 simp only[seval,EMB,eInt]
 cases h
 simp only[seval,FMB,eInt,qr50]
 intro v1 qd51
 refine .sR λe h=>?_
 simp only[seval,EMB,qd51,eInt]
 refine mU e (.seqK (.condF rfl (.exit λe h=>?_))) h
 cases h
 simp only[seval,FMB,eInt]
 intro v2
 refine Mir.toK (.sR λe h=>?_)
 simp only[seval,EMB,eInt]
 refine mU e (.ret λe h=>?_) h
 cases h
 simp only[seval,FMB,eInt]
def eM(a0:(List aa))(a1:Int):Option (List aa):=bindO (az (okIdx a0) ( aI (λ(i1:Nat) (e1:aa) (v1:(List aa)×Int)=>bindO (eP e1 79) λ(y1:Int×Bool)=>bindO (if y1.2=true then some false else bindO (gS e1) λ(y2:Bool)=>some (!y2)) λ(v2:Bool)=>bindO (if v2=true then bindO (bn 78 v1.2) λ(y3:ap)=>az (okLen (1+e1.Words.length)) ( some (kP.wrap (v1.2+a1),[y3]++e1.Words))else some (v1.2,e1.Words)) λ(v3:Int×(List ap))=>az (okLen (v1.1.length+1)) ( some (.go (v1.1++[aa.mk e1.Skip v3.2 e1.Comment],v3.1)))) (λ(v1:(List aa)×Int)=>some v1.1) a0 0 ([],a1))) λ(v4:(List aa))=>some v4
theorem po_numbered_spec{a0:(List aa)}{a1:Int}{y:(List aa)}(h:eM a0 a1=some y):Spec gP 31 [.d (.list (zB ac a0)),.d (.int .i64 a1)] (.d (.list (zB ac y))):=by
 refine auB Tryz.func31 (λy:(List aa)=>.d (.list (zB ac y))) ?_ h
 unfold eM
 refine .sB ?_
 refine .sB ?_
 refine .sB ?_
 refine .seqK (.sB ?_)
 refine .gh [.slot 5 96] rfl (Mir.joinO (λv4:(List aa)=>([U,U,U,U,U,.own 0 (zB ac v4)]++us 40)) (λv4=>⟨[],[(96,v4.length)]⟩) (λ_=>rfl) ?_ ?_)
 refine .block (.guard λq1=>Mir.range (λ(i1:Nat) (v1:(List aa)×Int)=>([U,.d (.int .i64 a1),U,U,U,.own 0 (zB ac v1.1),.d (.int .i64 v1.2),U,U,U,U,U,.d (.list (zB ac a0)),.d (.int .i64 (a0.length:Int)),.d (.int .i64 (i1:Int))]++us 31)) (λi1 v1=>⟨[],[(96,v1.1.length)]⟩) q1 (λ_ _=>rfl) (by simp only[seval,FMB,zNI]) (by simp only[seval,FMB,zNI]) ?_ ?_)
 intro i1 e1 v1 q2
 refine .sR λe h=>?_
 simp only[seval,EMB,q2]
 refine mU e (.seqK (.condT rfl (.skip (Mir.toK (.seqK (.block (.sR λe h=>?_))))))) h
 simp only[seval,EMB,q2,zE]
 refine mU e (.seqK (.seqK (.bind λy1 h1=>.region λe h=>WB ?_))) h
 refine .byB (dZ h1) (mB ?_ h)
 refine .seqK (Mir.joinO (λv2:Bool=>([U,.d (.int .i64 a1),U,U,U,.own 0 (zB ac v1.1),.d (.int .i64 v1.2),U,.ptr 0 0,U,U,U,.d (.list (zB ac a0)),.d (.int .i64 (a0.length:Int)),.d (.int .i64 (i1:Int)),U,U,U,U,U,U,U,U,U,U,U,U,U,U,.d (.bool v2)]++us 16)) (λv2=>⟨[(cG e1)],[(96,v1.1.length)]⟩) (λ_=>rfl) ?_ ?_)
 refine .ite (λh2=>?_) (λh2=>?_)
 refine .region λe h=>?_
 simp only[seval,EMB,h2]
 cases h
 simp only[seval,FMB,h2]
 refine .bind λy2 h3=>.region λe h=>?_
 simp only[seval,EMB,h2]
 refine SpecS.by (po_returns_spec h3) (by simp only[seval,FMB,h2]) ?_
 simp only[seval,EMB,h2]
 cases h
 simp only[seval,FMB,h2]
 intro v2
 refine Mir.toK (Mir.joinO (λv3:Int×(List ap)=>([U,.d (.int .i64 a1),U,U,U,.own 0 (zB ac v1.1),.d (.int .i64 v3.1),U,.ptr 0 0,U,U,U,.d (.list (zB ac a0)),.d (.int .i64 (a0.length:Int)),.d (.int .i64 (i1:Int))]++us 31)) (λv3=>⟨[[.d (.bool e1.Skip),.d (.list (zB ao v3.2)),.d (.str e1.Comment)]],[(96,v1.1.length)]⟩) (λ_=>rfl) ?_ ?_)
 refine .cond rfl (λh4=>?_) (λh4=>?_)
 refine .seqK (.bind λy3 h5=>.guard λq3=>Mir.regionA 0 [] ([U,.d (.int .i64 a1),U,U,U,.own 0 (zB ac v1.1),.d (.int .i64 v1.2),U,.ptr 0 0,U,U,U,.d (.list (zB ac a0)),.d (.int .i64 (a0.length:Int)),.d (.int .i64 (i1:Int)),U,U,U,U,U,U,U,U,U,U,U,U,U,U,.d (.bool v2),.d (.int .i64 v1.2),.agg (cJ y3),.own 1 (zB ao [y3]),.ptr 0 1,.d (.list (zB ao e1.Words)),.own 1 (zB ao ([y3]++e1.Words)),.ptr 0 1]++us 9) ⟨[[.d (.bool e1.Skip),.own 1 (zB ao ([y3]++e1.Words)),.d (.str e1.Comment)]],[(96,v1.1.length),(127,1+e1.Words.length)]⟩ (by kernel_rfl) (λe h=>?_) (λe h=>?_))
 simp only[seval,EMB,al,w_eq,SB]
 refine regA.pureB (j:=0) (d:=30) (by kernel_rfl) rfl rfl (by kernel_rfl) rfl rfl (zZ rfl) ?_
 simp only[seval,EMB,al,w_eq]
 refine⟨rfl,?_⟩
 refine regA.two (j:=1) (k:=3) (by kernel_rfl) rfl rfl ?_ ?_
 refine regW.of ?_
 simp only[seval,EMB,al,w_eq]
 refine .byB (bc h5) ?_
 simp only[seval,EMB,al,w_eq]
 refine regA.two (j:=2) (k:=3) (by kernel_rfl) rfl rfl ?_ ?_
 refine regW.alt 0 rfl ?_
 simp only[seval,EMB,al,w_eq]
 refine dt (es:=zB ao [y3]) kj (by simp only[seval,EMB,(oL 2)]) (by decide) (regW.of ?_)
 simp only[seval,EMB,al,w_eq,(oL 2)]
 refine regA.one (j:=3) (by kernel_rfl) rfl (regW.of ?_)
 simp only[seval,EMB,al,w_eq]
 refine regA.one (j:=4) (by kernel_rfl) rfl (regW.of ?_)
 simp only[seval,EMB,al,w_eq]
 refine regA.one (j:=5) (by kernel_rfl) rfl (regW.of ?_)
 simp only[seval,EMB,al,w_eq,q3]
 refine regA.one (j:=6) (by kernel_rfl) rfl (regW.of ?_)
 simp only[seval,EMB,al,w_eq]
 refine regA.one (j:=7) (by kernel_rfl) rfl (regW.of ?_)
 simp only[seval,EMB,al,w_eq]
 exact regA.nil (by kernel_rfl) ⟨by first | rfl | simp only[seval,FMB,xMA,xLA],by first | rfl | simp only[seval,FMB,xMA,xLA]⟩
 refine regW.of ?_
 simp only[seval,EMB,al,w_eq]
 refine regA.two (j:=2) (k:=4) (by kernel_rfl) rfl rfl ?_ ?_
 refine regW.alt 0 rfl ?_
 simp only[seval,EMB,al,w_eq]
 refine dt (es:=zB ao [y3]) kj (by simp only[seval,EMB,(oL 2)]) (by decide) (regW.of ?_)
 simp only[seval,EMB,al,w_eq,(oL 2)]
 refine regA.one (j:=4) (by kernel_rfl) rfl (regW.of ?_)
 simp only[seval,EMB,al,w_eq]
 refine regA.one (j:=5) (by kernel_rfl) rfl (regW.of ?_)
 simp only[seval,EMB,al,w_eq,q3]
 refine regA.one (j:=6) (by kernel_rfl) rfl (regW.of ?_)
 simp only[seval,EMB,al,w_eq]
 refine regA.one (j:=7) (by kernel_rfl) rfl (regW.of ?_)
 simp only[seval,EMB,al,w_eq]
 exact regA.nil (by kernel_rfl) ⟨by first | rfl | simp only[seval,FMB,xMA,xLA],by first | rfl | simp only[seval,FMB,xMA,xLA]⟩
 refine regW.of ?_
 simp only[seval,EMB,al,w_eq]
 refine regA.one (j:=2) (by kernel_rfl) rfl (regW.alt 0 rfl ?_)
 simp only[seval,EMB,al,w_eq]
 refine dt (es:=zB ao [y3]) kj (by simp only[seval,EMB,(oL 2)]) (by decide) (regW.of ?_)
 simp only[seval,EMB,al,w_eq,(oL 2)]
 refine regA.one (j:=5) (by kernel_rfl) rfl (regW.of ?_)
 simp only[seval,EMB,al,w_eq,q3]
 refine regA.one (j:=6) (by kernel_rfl) rfl (regW.of ?_)
 simp only[seval,EMB,al,w_eq]
 refine regA.one (j:=7) (by kernel_rfl) rfl (regW.of ?_)
 simp only[seval,EMB,al,w_eq]
 exact regA.nil (by kernel_rfl) ⟨by first | rfl | simp only[seval,FMB,xMA,xLA],by first | rfl | simp only[seval,FMB,xMA,xLA]⟩
 refine regW.of ?_
 simp only[seval,EMB,al,w_eq]
 refine regA.two (j:=1) (k:=4) (by kernel_rfl) rfl rfl ?_ ?_
 refine regW.of ?_
 simp only[seval,EMB,al,w_eq]
 refine .byB (bc h5) ?_
 simp only[seval,EMB,al,w_eq]
 refine regA.two (j:=2) (k:=4) (by kernel_rfl) rfl rfl ?_ ?_
 refine regW.alt 0 rfl ?_
 simp only[seval,EMB,al,w_eq]
 refine dt (es:=zB ao [y3]) kj (by simp only[seval,EMB,(oL 2)]) (by decide) (regW.of ?_)
 simp only[seval,EMB,al,w_eq,(oL 2)]
 refine regA.one (j:=4) (by kernel_rfl) rfl (regW.of ?_)
 simp only[seval,EMB,al,w_eq]
 refine regA.one (j:=5) (by kernel_rfl) rfl (regW.of ?_)
 simp only[seval,EMB,al,w_eq,q3]
 refine regA.one (j:=6) (by kernel_rfl) rfl (regW.of ?_)
 simp only[seval,EMB,al,w_eq]
 refine regA.one (j:=7) (by kernel_rfl) rfl (regW.of ?_)
 simp only[seval,EMB,al,w_eq]
 exact regA.nil (by kernel_rfl) ⟨by first | rfl | simp only[seval,FMB,xMA,xLA],by first | rfl | simp only[seval,FMB,xMA,xLA]⟩
 refine regW.of ?_
 simp only[seval,EMB,al,w_eq]
 refine regA.one (j:=2) (by kernel_rfl) rfl (regW.alt 0 rfl ?_)
 simp only[seval,EMB,al,w_eq]
 refine dt (es:=zB ao [y3]) kj (by simp only[seval,EMB,(oL 2)]) (by decide) (regW.of ?_)
 simp only[seval,EMB,al,w_eq,(oL 2)]
 refine regA.one (j:=5) (by kernel_rfl) rfl (regW.of ?_)
 simp only[seval,EMB,al,w_eq,q3]
 refine regA.one (j:=6) (by kernel_rfl) rfl (regW.of ?_)
 simp only[seval,EMB,al,w_eq]
 refine regA.one (j:=7) (by kernel_rfl) rfl (regW.of ?_)
 simp only[seval,EMB,al,w_eq]
 exact regA.nil (by kernel_rfl) ⟨by first | rfl | simp only[seval,FMB,xMA,xLA],by first | rfl | simp only[seval,FMB,xMA,xLA]⟩
 refine regW.of ?_
 simp only[seval,EMB,al,w_eq]
 refine regA.one (j:=1) (by kernel_rfl) rfl (regW.of ?_)
 simp only[seval,EMB,al,w_eq]
 refine .byB (bc h5) ?_
 simp only[seval,EMB,al,w_eq]
 refine regA.one (j:=2) (by kernel_rfl) rfl (regW.alt 0 rfl ?_)
 simp only[seval,EMB,al,w_eq]
 refine dt (es:=zB ao [y3]) kj (by simp only[seval,EMB,(oL 2)]) (by decide) (regW.of ?_)
 simp only[seval,EMB,al,w_eq,(oL 2)]
 refine regA.one (j:=5) (by kernel_rfl) rfl (regW.of ?_)
 simp only[seval,EMB,al,w_eq,q3]
 refine regA.one (j:=6) (by kernel_rfl) rfl (regW.of ?_)
 simp only[seval,EMB,al,w_eq]
 refine regA.one (j:=7) (by kernel_rfl) rfl (regW.of ?_)
 simp only[seval,EMB,al,w_eq]
 exact regA.nil (by kernel_rfl) ⟨by first | rfl | simp only[seval,FMB,xMA,xLA],by first | rfl | simp only[seval,FMB,xMA,xLA]⟩
 refine mU e (.rB) h
 refine .skip QB
 intro v3
 refine Mir.toK (.guard λq4=>.region λe h=>?_)
 simp only[seval,EMB,(oL 3),q4]
 refine mU e (.region λe h=>?_) h
 simp only[seval,EMB]
 cases h
 simp only[seval,FMB,q2]
 intro v1 q5
 refine .sR λe h=>?_
 simp only[seval,EMB,q5]
 refine mU e (.seqK (.condF rfl (.exit QB))) h
 intro v4
 refine Mir.toK (.sB ?_)
 refine .ret QB
def jm(a0:(List aW))(a1:ae)(a2:bo):Option ((List aa)×Int):=bindO (po_Valid a2) λ(y1:Int)=>if (y1 != 0)=true then some ([],y1)else bindO (po_plain a0 (ae.mk a1.X a1.Y a1.Z) a2) λ(y2:(List aa)×Int)=>if (y2.2 != 0)=true then some ([],y2.2)else bindX (if a2.Compress=true then bindO (md_New ) λ(y3:ak)=>bindO (dV y3 y2.1) λ(y4:(List aa)×Int)=>if (y4.2 != 0)=true then some (.ret ([],y4.2))else some (.go y4.1)else some (.go y2.1)) λ(v1:(List aa))=>bindX (if (a2.Fold != 0)=true then bindO (kr v1 1000 a2.Fold) λ(y5:aA×Int)=>if (y5.2 != 0)=true then some (.ret ([],y5.2))else bindO (sp_Join y5.1) λ(y6:(List aa))=>some (.go y6)else some (.go v1)) λ(v2:(List aa))=>if (decide ((v2.length:Int)>20000))=true then some ([],3)else bindO (if (a2.Numbers != 0)=true then bindO (eM v2 a2.Numbers) λ(y7:(List aa))=>some y7 else some v2) λ(v3:(List aa))=>some (v3,0)
theorem po_Blocks_spec{a0:(List aW)}{a1:ae}{a2:bo}{y:(List aa)×Int}(h:jm a0 a1 a2=some y):Spec gP 14 [.d (.list (zB bi a0)),.agg (cF a1),.agg (cE a2)] (.tuple [.d (.list (zB ac y.1)),.d (.int .i64 y.2)]):=by
 refine auB Tryz.func14 (λy:(List aa)×Int=>.tuple [.d (.list (zB ac y.1)),.d (.int .i64 y.2)]) ?_ h
 unfold jm
 refine .sB ?_
 refine .seqK (.seqK (.bind λy1 hy1=>.region λe h=>WB ?_))
 refine .byB (po_Valid_spec hy1) (mB ?_ h)
 refine .sB ?_
 refine .cond rfl (λhb3=>?_) (λhb3=>?_)
 refine .sB ?_
 refine .ret QB
 refine .skip (Mir.toK (.seqK (.bind λy2 hy4=>.region λe h=>WB ?_)))
 refine .byB (po_plain_spec hy4) (mB ?_ h)
 refine .seqK (.sB ?_)
 refine .cond rfl (λhb6=>?_) (λhb6=>?_)
 refine .sB ?_
 refine .ret QB
 refine .skip (Mir.toK (.seqK (.sB ?_)))
 refine Mir.join (λv1:(List aa)=>([U,U,U,U,U,.ptr 1 0,U,U,U,.d (.list (zB ac v1))]++us 55)) (λv1=>⟨[(cF a1),(cE a2)],[]⟩) (λ_=>rfl) ?_ ?_
 refine .cond rfl (λhb11=>?_) (λhb11=>?_)
 refine .seqK (.bind λy3 hy12=>.bind λy4 hy13=>.region λe h=>WB ?_)
 refine SpecS.by (md_New_spec hy12) (rfl) ?_
 simp only[seval,EMB]
 refine .byB (md_Compress_spec hy13) (mB ?_ h)
 refine .sB ?_
 refine .cond rfl (λhb14=>?_) (λhb14=>?_)
 refine .sB ?_
 refine .ret QB
 refine .skip QB
 refine .skip QB
 intro v1
 refine Mir.toK (.seqK (.sB ?_))
 refine Mir.join (λv2:(List aa)=>([U,U,U,U,U,.ptr 1 0,U,U,U,.d (.list (zB ac v2))]++us 55)) (λv2=>⟨[(cF a1),(cE a2)],[]⟩) (λ_=>rfl) ?_ ?_
 refine .cond rfl (λhb20=>?_) (λhb20=>?_)
 refine .seqK (.bind λy5 hy21=>.region λe h=>WB ?_)
 refine .byB (sp_Fold_spec hy21) (mB ?_ h)
 refine .seqK (.sB ?_)
 refine .cond rfl (λhb23=>?_) (λhb23=>?_)
 refine .sB ?_
 refine .ret QB
 refine .skip (Mir.toK (.bind λy6 hy24=>.region λe h=>WB ?_))
 refine .byB (sp_Join_spec hy24) ?_
 simp only[seval,EMB]
 cases h
 simp only[seval,FMB]
 refine .skip QB
 intro v2
 refine Mir.toK (.seqK (.sB ?_))
 refine .cond rfl (λhb26=>?_) (λhb26=>?_)
 refine .sB ?_
 refine .ret QB
 refine .skip (Mir.toK (.seqK (.sB ?_)))
 refine Mir.joinO (λv3:(List aa)=>([U,U,U,U,U,U,U,U,U,.d (.list (zB ac v3))]++us 55)) (λv3=>⟨[(cF a1),(cE a2)],[]⟩) (λ_=>rfl) ?_ ?_
 refine .cond rfl (λhb29=>?_) (λhb29=>?_)
 refine .bind λy7 hy30=>.region λe h=>WB ?_
 refine .byB (po_numbered_spec hy30) ?_
 simp only[seval,EMB]
 cases h
 simp only[seval,FMB]
 refine .skip QB
 intro v3
 refine Mir.toK (.sB ?_)
 refine .ret QB
def cZ(a0:Int):Option Bool:=some ((decide (a0≥32))&&((decide (a0≤126))&&((a0 != 40)&&(a0 != 41))))
theorem ib{a0:Int}{y:Bool}(h:cZ a0=some y):Spec gP 115 [.d (.int .u8 a0)] (.d (.bool y)):=by
 refine auB Tryz.func115 (λy:Bool=>.d (.bool y)) ?_ h
 unfold cZ
 refine .sB ?_
 refine .seqK (.joinV ([U,U,.d (.bool ((decide (a0≥32))&&((decide (a0≤126))&&((a0 != 40)&&(a0 != 41)))))]++us 14) ⟨[],[]⟩ rfl ?_ ?_)
 refine SWs.region ?_
 rcases zD (decide (a0≥32))with hb1 | hb1
 rcases zD (decide (a0≤126))with hb2 | hb2
 rcases zD (a0 != 40)with hb3 | hb3
 simp only[seval,EMB,SL,PB,hb1,hb2,hb3]
 simp only[seval,EMB,SL,PB,hb1,hb2,hb3]
 simp only[seval,EMB,SL,PB,hb1,hb2]
 simp only[seval,EMB,SL,PB,hb1]
 refine Mir.toK (.ret QB)
def fI(a0:aa):Option Int:=if ((decide ((a0.Words.length:Int)>16))||(decide ((a0.Comment.length:Int)>100)))=true then some 1 else bindX (az (okIdx a0.Words) ( aI (λ(i1:Nat) (e1:ap) (v1:Unit)=>if ((decide (e1.Letter<65))||((decide (e1.Letter>90))||((decide (e1.Value>1000000000000))||(decide (e1.Value<(-1000000000000))))))=true then some (.ret (.ret 1))else some (.go ())) (λ(v1:Unit)=>some (.go ())) a0.Words 0 ())) λ(v2:Unit)=>bindX (az (okIdx (iR a0.Comment)) ( aI (λ(i2:Nat) (e2:Int) (v3:Unit)=>bindO (cZ e2) λ(y1:Bool)=>if (!y1)=true then some (.ret (.ret 1))else some (.go ())) (λ(v3:Unit)=>some (.go ())) (iR a0.Comment) 0 ())) λ(v4:Unit)=>some 0
theorem fH{a0:aa}{y:Int}(h:fI a0=some y):Spec gP 76 [.agg (cG a0)] (.d (.int .i64 y)):=by
 refine auB Tryz.func76 (λy:Int=>.d (.int .i64 y)) ?_ h
 unfold fI
 refine .sR λe h=>?_
 simp only[seval,EMB,eInt]
 refine mU e (.seqK (.seqK (.joinV ([U,.ptr 0 0,U,U,U,U,U,U,U,U,U,U,U,U,U,U,.d (.bool ((decide ((a0.Words.length:Int)>16))||(decide ((a0.Comment.length:Int)>100))))]++us 38) ⟨[(cG a0)],[]⟩ rfl ?_ ?_))) h
 refine SWs.region ?_
 rcases zD (decide ((a0.Words.length:Int)>16))with hb1 | hb1
 simp only[seval,EMB,SL,PB,hb1,eInt]
 simp only[seval,EMB,SL,PB,hb1,eInt]
 refine Mir.toK (.cond rfl (λhb3=>?_) (λhb3=>?_))
 refine .sB ?_
 refine .ret QB
 refine .skip (Mir.toK (.seqK (.sR λe h=>?_)))
 simp only[seval,EMB,eInt]
 refine mU e (Mir.join (λv2:Unit=>([U,.ptr 0 0]++us 53)) (λv2=>⟨[(cG a0)],[]⟩) (λ_=>rfl) ?_ ?_) h
 refine .block (.guard λqg96=>Mir.range (λ(i1:Nat) (v1:Unit)=>([U,.ptr 0 0,U,U,U,U,U,U,U,U,U,U,U,U,U,U,U,U,.d (.list (zB ao a0.Words)),.d (.int .i64 (a0.Words.length:Int)),.d (.int .i64 (i1:Int))]++us 34)) (λi1 v1=>⟨[(cG a0)],[]⟩) qg96 (λ_ _=>rfl) (by simp only[seval,FMB,zNI]) (by simp only[seval,FMB,zNI]) ?_ ?_)
 intro i1 e1 v1 qr94
 refine .sR λe h=>?_
 simp only[seval,EMB,qr94]
 refine mU e (.seqK (.condT rfl (.skip (Mir.toK (.seqK (.block (.sR λe h=>?_))))))) h
 simp only[seval,EMB,qr94,zE]
 refine mU e (.seqK (.joinV ([U,.ptr 0 0,U,U,U,U,U,U,U,U,U,U,U,U,U,U,U,U,.d (.list (zB ao a0.Words)),.d (.int .i64 (a0.Words.length:Int)),.d (.int .i64 (i1:Int)),U,U,U,U,U,U,U,U,U,U,U,U,U,U,U,U,U,U,U,U,.d (.bool ((decide (e1.Letter<65))||((decide (e1.Letter>90))||((decide (e1.Value>1000000000000))||(decide (e1.Value<(-1000000000000)))))))]++us 13) ⟨[(cG a0),(cJ e1)],[]⟩ rfl ?_ ?_)) h
 refine SWs.region ?_
 rcases zD (decide (e1.Letter<65))with h1 | h1
 simp only[seval,EMB,SL,PB,h1]
 rcases zD (decide (e1.Letter>90))with h2 | h2
 simp only[seval,EMB,SL,PB,h1,h2]
 rcases zD (decide (e1.Value>1000000000000))with h3 | h3
 simp only[seval,EMB,SL,PB,h1,h2,h3]
 simp only[seval,EMB,SL,PB,h1,h2,h3]
 refine Mir.toK (.cond rfl (λh4=>?_) (λh4=>?_))
 refine .sB ?_
 refine .ret QB
 refine .skip (Mir.toB (Mir.toK (.region λe h=>?_)))
 simp only[seval,EMB]
 cases h
 simp only[seval,FMB,qr94]
 intro v1 qd95
 refine .sR λe h=>?_
 simp only[seval,EMB,qd95]
 refine mU e (.seqK (.condF rfl (.exit QB))) h
 intro v2
 refine Mir.toK (.seqK (.sR λe h=>?_))
 simp only[seval,EMB,bytes_enc,eInt]
 refine mU e (Mir.join (λv4:Unit=>(us 55)) (λv4=>⟨[(cG a0)],[]⟩) (λ_=>rfl) ?_ ?_) h
 refine .block (.guard λq1=>Mir.range (λ(i2:Nat) (v3:Unit)=>([U,U,U,U,U,U,U,U,U,U,U,U,U,U,U,U,U,U,U,U,U,U,U,U,U,U,U,U,U,U,U,U,U,U,U,U,U,U,U,U,U,U,U,U,U,.d (.list (zB (eInt .u8) (iR a0.Comment))),.d (.int .i64 ((iR a0.Comment).length:Int)),.d (.int .i64 (i2:Int))]++us 7)) (λi2 v3=>⟨[(cG a0)],[]⟩) q1 (λ_ _=>rfl) (by simp only[seval,FMB,eInt,zNI]) (by simp only[seval,FMB,eInt,zNI]) ?_ ?_)
 intro i2 e2 v3 q2
 refine .sR λe h=>?_
 simp only[seval,EMB,q2,eInt]
 refine mU e (.seqK (.condT rfl (.skip (Mir.toK (.seqK (.block (.sR λe h=>?_))))))) h
 simp only[seval,EMB,q2,zE,eInt]
 refine mU e (.seqK (.bind λy1 h5=>.region λe h=>?_)) h
 simp only[seval,EMB,eInt]
 refine SpecS.by (ib h5) (by simp only[seval,FMB,eInt]) ?_
 simp only[seval,EMB,eInt]
 refine mU e (.cond rfl (λh6=>?_) (λh6=>?_)) h
 refine .sR λe h=>?_
 simp only[seval,EMB,eInt]
 refine mU e (.ret λe h=>?_) h
 cases h
 simp only[seval,FMB,eInt]
 refine .skip (Mir.toB (Mir.toK (.region λe h=>?_)))
 simp only[seval,EMB,eInt]
 cases h
 simp only[seval,FMB,eInt,q2]
 intro v3 q3
 refine .sR λe h=>?_
 simp only[seval,EMB,q3,eInt]
 refine mU e (.seqK (.condF rfl (.exit λe h=>?_))) h
 cases h
 simp only[seval,FMB,eInt]
 intro v4
 refine Mir.toK (.sR λe h=>?_)
 simp only[seval,EMB,eInt]
 refine mU e (.ret λe h=>?_) h
 cases h
 simp only[seval,FMB,eInt]
def bk_Text(a0:Int):Option (List UInt8):=bindO (if (decide (a0<0))=true then some (kR.wrap (0-(kR.wrap a0)),[45])else some (kR.wrap a0,[])) λ(v1:Int×(List UInt8))=>bindO (bX (kR.wrap (Int.tdiv v1.1 1000)) 10) λ(y1:(List UInt8))=>az (okStr v1.2 y1) ( bindO (if (decide ((kK v1.1 1000)>0))=true then bindO (bX (kR.wrap (1000+(kK v1.1 1000))) 10) λ(y2:(List UInt8))=>bindO (cutF y2 1) λ(s1:(List UInt8))=>bindO (dc s1 [48]) λ(y3:(List UInt8))=>az (okStr [46] y3) ( az (okStr (v1.2++y1) ([46]++y3)) ( some ((v1.2++y1)++([46]++y3))))else some (v1.2++y1)) λ(v2:(List UInt8))=>some v2)
theorem bk_Text_spec{a0:Int}{y:(List UInt8)}(h:bk_Text a0=some y):Spec gP 77 [.d (.int .i64 a0)] (.d (.str y)):=by
 refine auB Tryz.func77 (λy:(List UInt8)=>.d (.str y)) ?_ h
 unfold bk_Text
 refine .sB ?_
 refine .sB ?_
 refine .seqK (.sB ?_)
 refine Mir.joinO (λv1:Int×(List UInt8)=>([U,U,U,.d (.int .u64 v1.1),.d (.str v1.2)]++us 26)) (λv1=>⟨[],[]⟩) (λ_=>rfl) ?_ ?_
 refine .cond rfl (λ_=>.rB) (λ_=>.skip QB)
 intro v1
 refine Mir.toK (.seqK (.bind λy1 hy3=>.guard λq4=>?_))
 replace q4:=fC q4
 refine .region λe h=>WB ?_
 refine .byB (ef hy3) ?_
 simp only[seval,EMB,q4]
 refine mU e (.seqK (.sB ?_)) h
 refine .sB ?_
 refine Mir.joinO (λv2:(List UInt8)=>([U,U,U,U,U,.d (.str v2)]++us 25)) (λv2=>⟨[],[]⟩) (λ_=>rfl) ?_ ?_
 refine .cond rfl (λhb11=>?_) (λhb11=>?_)
 refine .bind λy2 hy12=>.bind λs1 q13=>?_
 replace q13:=kF q13
 simp only[kM,Int.reduceLT,Nat.sub_zero,dp0]at q13
 refine .bind λy3 hy14=>.guard λq15=>?_
 replace q15:=fC q15
 try simp only[lm,xNA,xCA,xAN,xLC,xLN,xAC,xAL,nA,zU]at q15
 refine .guard λq16=>?_
 replace q16:=fC q16
 try simp only[lm,xNA,xCA,xAN,xLC,xLN,xAC,xAL,nA,zU]at q16
 refine .region λe h=>WB ?_
 refine .byB (ef hy12) ?_
 simp only[seval,EMB,q13,zO,and_true,true_and,dm,tm]
 refine .byB (iU hy14) ?_
 simp only[seval,EMB,q15,q16]
 cases h
 simp only[seval,FMB]
 refine .skip QB
 intro v2
 refine Mir.toK (.sB ?_)
 refine .ret QB
def jB(a0:aa):Option ((List UInt8)×Int):=bindO (fI a0) λ(y1:Int)=>if (y1 != 0)=true then some ([],y1)else bindO (az (okIdx a0.Words) ( aI (λ(i1:Nat) (e1:ap) (v1:(List (List UInt8)))=>bindO (bk_Text e1.Value) λ(y2:(List UInt8))=>az (okStr (runeS (IntKind.i32.wrap e1.Letter)) y2) ( az (okLen (v1.length+1)) ( some (.go (v1++[(runeS (IntKind.i32.wrap e1.Letter))++y2]))))) (λ(v1:(List (List UInt8)))=>some v1) a0.Words 0 [])) λ(v2:(List (List UInt8)))=>bindO (if (!(a0.Comment==[]))=true then az (okStr [40] a0.Comment) ( az (okStr ([40]++a0.Comment) [41]) ( az (okLen (v2.length+1)) ( some (v2++[([40]++a0.Comment)++[41]]))))else some v2) λ(v3:(List (List UInt8)))=>bindO (strings_Join v3 [32]) λ(y3:(List UInt8))=>bindO (if a0.Skip=true then az (okStr [47] y3) ( some ([47]++y3))else some y3) λ(v4:(List UInt8))=>some (v4,0)
theorem bk_Format_spec{a0:aa}{y:(List UInt8)×Int}(h:jB a0=some y):Spec gP 32 [.agg (cG a0)] (.tuple [.d (.str y.1),.d (.int .i64 y.2)]):=by
 refine auB Tryz.func32 (λy:(List UInt8)×Int=>.tuple [.d (.str y.1),.d (.int .i64 y.2)]) ?_ h
 unfold jB
 refine .sR λe h=>?_
 simp only[seval,EMB,eStr]
 refine mU e (.seqK (.seqK (.bind λy1 hy1=>.region λe h=>?_))) h
 simp only[seval,EMB,eStr]
 refine SpecS.by (fH hy1) (by simp only[seval,FMB,eStr]) ?_
 simp only[seval,EMB,eStr]
 refine mU e (.sR λe h=>?_) h
 simp only[seval,EMB,eStr]
 refine mU e (.cond rfl (λhb3=>?_) (λhb3=>?_)) h
 refine .sB ?_
 refine .ret QB
 refine .skip (Mir.toK (.sR λe h=>?_))
 simp only[seval,EMB,eStr]
 refine mU e (.seqK (.sR λe h=>?_)) h
 simp only[seval,EMB,eStr]
 refine mU e (.gh [.slot 5 9] rfl (Mir.joinO (λv2:(List (List UInt8))=>([U,.ptr 0 0,U,U,U,.own 0 (zB eStr v2)]++us 44)) (λv2=>⟨[(cG a0)],[(9,v2.length)]⟩) (λ_=>rfl) ?_ ?_)) h
 refine .block (.guard λq1=>Mir.range (λ(i1:Nat) (v1:(List (List UInt8)))=>([U,.ptr 0 0,U,U,U,.own 0 (zB eStr v1),U,U,U,U,U,U,U,U,U,.d (.list (zB ao a0.Words)),.d (.int .i64 (a0.Words.length:Int)),.d (.int .i64 (i1:Int))]++us 32)) (λi1 v1=>⟨[(cG a0)],[(9,v1.length)]⟩) q1 (λ_ _=>rfl) (by simp only[seval,FMB,eStr,zNI]) (by simp only[seval,FMB,eStr,zNI]) ?_ ?_)
 intro i1 e1 v1 q2
 refine .sR λe h=>?_
 simp only[seval,EMB,q2,eStr]
 refine mU e (.seqK (.condT rfl (.skip (Mir.toK (.seqK (.block (.sR λe h=>?_))))))) h
 simp only[seval,EMB,q2,zE,eStr]
 refine mU e (.bind λy2 h1=>.guard λq3=>?_) h
 replace q3:=fC q3
 refine .guard λq4=>.regionD [] (by kernel_rfl) λe h=>?_
 simp only[seval,EMB,SB,rune_enc,eStr]
 refine Spec.by (bk_Text_spec h1) (by simp only[seval,FMB,eStr]) ?_
 simp only[seval,EMB,SB,q3,(oL 1),q4,eStr]
 refine mU e (.region λe h=>?_) h
 simp only[seval,EMB,eStr]
 cases h
 simp only[seval,FMB,eStr,q2]
 intro v1 q5
 refine .sR λe h=>?_
 simp only[seval,EMB,q5,eStr]
 refine mU e (.seqK (.condF rfl (.exit λe h=>?_))) h
 cases h
 simp only[seval,FMB,eStr]
 intro v2
 refine Mir.toK (.seqK (.sR λe h=>?_))
 simp only[seval,EMB,eStr]
 refine mU e (Mir.joinO (λv3:(List (List UInt8))=>([U,.ptr 0 0,U,U,U,.own 0 (zB eStr v3)]++us 44)) (λv3=>⟨[(cG a0)],[(9,v3.length)]⟩) (λ_=>rfl) ?_ ?_) h
 refine .cond rfl (λh2=>?_) (λh2=>?_)
 refine .guard λq6=>?_
 replace q6:=fC q6
 try simp only[lm,xNA,xCA,xAN,xLC,xLN,xAC,xAL,nA,zU]at q6
 refine .guard λq7=>?_
 replace q7:=fC q7
 try simp only[lm,xNA,xCA,xAN,xLC,xLN,xAC,xAL,nA,zU]at q7
 refine .guard λq8=>.region λe h=>?_
 simp only[seval,EMB,q6,q7,(oL 1),q8,eStr]
 cases h
 simp only[seval,FMB,eStr]
 refine .skip λe h=>?_
 cases h
 simp only[seval,FMB,eStr]
 intro v3
 refine Mir.toK (.seqK (.bind λy3 h3=>.region λe h=>?_))
 simp only[seval,EMB,eStr]
 refine SpecS.by (strings_Join_spec h3) (by simp only[seval,FMB,eStr]) ?_
 simp only[seval,EMB,eStr]
 refine mU e (.seqK (.sR λe h=>?_)) h
 simp only[seval,EMB,eStr]
 refine mU e (Mir.joinO (λv4:(List UInt8)=>([U,U,U,U,U,U,U,U,.d (.str v4)]++us 41)) (λv4=>⟨[(cG a0)],[(9,v3.length)]⟩) (λ_=>rfl) ?_ ?_) h
 refine .cond rfl (λh4=>?_) (λh4=>?_)
 refine .guard λq9=>?_
 replace q9:=fC q9
 try simp only[lm,xNA,xCA,xAN,xLC,xLN,xAC,xAL,nA,zU]at q9
 refine .region λe h=>?_
 simp only[seval,EMB,q9,eStr]
 cases h
 simp only[seval,FMB,eStr]
 refine .skip λe h=>?_
 cases h
 simp only[seval,FMB,eStr]
 intro v4
 refine Mir.toK (.sR λe h=>?_)
 simp only[seval,EMB,eStr]
 refine mU e (.ret λe h=>?_) h
 cases h
 simp only[seval,FMB,eStr]
def j0(a0:(List aa)):Option ((List UInt8)×Int):=bindX (az (okIdx a0) ( aI (λ(i1:Nat) (e1:aa) (v1:(List UInt8))=>bindO (jB e1) λ(y1:(List UInt8)×Int)=>if (y1.2 != 0)=true then some (.ret (.ret ([],y1.2)))else az (okLen (v1.length+y1.1.length)) ( az (okLen ((v1++y1.1).length+1)) ( some (.go (v1++y1.1++[10]))))) (λ(v1:(List UInt8))=>some (.go v1)) a0 0 [])) λ(v2:(List UInt8))=>some (v2,0)
theorem bk_Print_spec{a0:(List aa)}{y:(List UInt8)×Int}(h:j0 a0=some y):Spec gP 15 [.d (.list (zB ac a0))] (.tuple [.d (.str y.1),.d (.int .i64 y.2)]):=by
 refine auB Tryz.func15 (λy:(List UInt8)×Int=>.tuple [.d (.str y.1),.d (.int .i64 y.2)]) ?_ h
 unfold j0
 refine .sB ?_
 refine .seqK (.regionW λe h=>regW.alt 0 rfl ?_)
 simp only[seval,EMB,al,w_eq]
 refine alt_allocB (e:=5) (zv:=.agg #[.pointer none,.slice none 0 0]) rfl (by kernel_rfl) rfl (regW.of ?_)
 simp only[seval,EMB,al,w_eq]
 refine mU e (.seqK (.sB ?_)) h
 refine Mir.join (λv2:(List UInt8)=>([U,U,U,U,.ptr 0 0]++us 23)) (λv2=>⟨[[.adr 0,.own 0 (zB byteE v2)]],[(5,v2.length)]⟩) (λ_=>rfl) ?_ ?_
 refine .block (.guard λq1=>Mir.range (λ(i1:Nat) (v1:(List UInt8))=>([U,U,U,U,.ptr 0 0,U,U,U,U,.d (.list (zB ac a0)),.d (.int .i64 (a0.length:Int)),.d (.int .i64 (i1:Int))]++us 16)) (λi1 v1=>⟨[[.adr 0,.own 0 (zB byteE v1)]],[(5,v1.length)]⟩) q1 (λ_ _=>rfl) (by simp only[seval,FMB,zNI]) (by simp only[seval,FMB,zNI]) ?_ ?_)
 intro i1 e1 v1 qr98
 refine .sR λe h=>?_
 simp only[seval,EMB,qr98]
 refine mU e (.seqK (.condT rfl (.skip (Mir.toK (.seqK (.block (.sR λe h=>?_))))))) h
 simp only[seval,EMB,qr98,zE]
 refine mU e (.seqK (.bind λy1 h1=>.region λe h=>WB ?_)) h
 refine .byB (bk_Format_spec h1) (mB ?_ h)
 refine .seqK (.sB ?_)
 refine .cond rfl (λh2=>?_) (λh2=>?_)
 refine .sB ?_
 refine .ret QB
 refine .skip (Mir.toK (.seqK (.guard λq2=>.region λe h=>WB ?_)))
 refine specS_wsN (n:=(v1++y1.1).length) rfl (lns_at (by simp only[zQ,zG,zR,zN,zV,zT,xOS,xON]<;>omega)) (ok2 q2 (by simp only[zQ,zG,zR,zN,zV,zT,xOS,xON]<;>omega) rfl) (by simp only[zQ,zG,zR,zN,zV,zT,xOS,xON]<;>omega) ?_
 simp only[seval,EMB]
 refine mU e (.guard λq3=>.region λe h=>WB ?_) h
 refine specS_wbN (b:=10) (n:=(v1++y1.1++[10]).length) rfl rfl (lns_at (by simp only[zQ,zG,zR,zN,zV,zT,xOS,xON]<;>omega)) (ok2 q3 (by simp only[zQ,zG,zR,zN,zV,zT,xOS,xON]<;>omega) rfl) (by simp only[zQ,zG,zR,zN,zV,zT,xOS,xON]<;>omega) ?_
 simp only[seval,EMB]
 refine mU e (.region λe h=>?_) h
 simp only[seval,EMB]
 cases h
 simp only[seval,FMB,qr98]
 intro v1 qd99
 refine .sR λe h=>?_
 simp only[seval,EMB,qd99]
 refine mU e (.seqK (.condF rfl (.exit QB))) h
 intro v2
 refine Mir.toK (.sR λe h=>WB ?_)
 refine specS_st rfl (lns_at (by simp only[zQ,zG,zR,zN,zV,zT,xOS,xON]<;>omega)) ?_
 simp only[seval,EMB]
 refine mU e (.ret QB) h
def fY(a0:(List aW))(a1:ae)(a2:bo):Option ((List UInt8)×Int):=bindO (jm a0 (ae.mk a1.X a1.Y a1.Z) a2) λ(y1:(List aa)×Int)=>if (y1.2 != 0)=true then some ([],y1.2)else bindO (j0 y1.1) λ(y2:(List UInt8)×Int)=>if (y2.2 != 0)=true then some ([],y2.2)else if (decide ((y2.1.length:Int)>65536))=true then some ([],3)else some (y2.1,0)
theorem jj{a0:(List aW)}{a1:ae}{a2:bo}{y:(List UInt8)×Int}(h:fY a0 a1 a2=some y):Spec gP 6 [.d (.list (zB bi a0)),.agg (cF a1),.agg (cE a2)] (.tuple [.d (.str y.1),.d (.int .i64 y.2)]):=by
 refine auB Tryz.func6 (λy:(List UInt8)×Int=>.tuple [.d (.str y.1),.d (.int .i64 y.2)]) ?_ h
 unfold fY
 refine .sB ?_
 refine .seqK (.bind λy1 hy1=>.region λe h=>WB ?_)
 refine .byB (po_Blocks_spec hy1) (mB ?_ h)
 refine .seqK (.sB ?_)
 refine .cond rfl (λhb3=>?_) (λhb3=>?_)
 refine .sB ?_
 refine .ret QB
 refine .skip (Mir.toK (.seqK (.bind λy2 hy4=>.region λe h=>WB ?_)))
 refine .byB (bk_Print_spec hy4) (mB ?_ h)
 refine .seqK (.sB ?_)
 refine .cond rfl (λhb6=>?_) (λhb6=>?_)
 refine .sB ?_
 refine .ret QB
 refine .skip (Mir.toK (.seqK (.sB ?_)))
 refine .cond rfl (λhb8=>?_) (λhb8=>?_)
 refine .sB ?_
 refine .ret QB
 refine .skip (Mir.toK (.sB ?_))
 refine .ret QB
def ee(a0:ae):Option aw:=bindO (some ()) λ(v1:Unit)=>some (aw.mk (j5.mk (ae.mk 0 0 0) a0 (ae.mk 0 0 0) (ae.mk 0 0 0) (ae.mk 0 0 0) (ae.mk 0 0 0)) [aQ.mk 1 11000,aQ.mk 2 12000,aQ.mk 3 13000,aQ.mk 4 14000,aQ.mk 5 15000,aQ.mk 6 16000,aQ.mk 7 17000,aQ.mk 8 18000,aQ.mk 9 19000])
theorem gz{a0:ae}{y:aw}(h:ee a0=some y):Spec gP 8 [.agg (cF a0)] (.agg (w6 y.Work [.d (.list (zB ar y.Lengths))])):=by
 refine auB Tryz.func8 (λy:aw=>.agg (w6 y.Work [.d (.list (zB ar y.Lengths))])) ?_ h
 unfold ee
 refine .sB ?_
 refine .sB ?_
 refine .sB ?_
 refine .seqK (.sB ?_)
 refine .gh [.cell 2 18 67] rfl (Mir.joinO (λv1:Unit=>([U,U,.ptr 1 0,.ptr 2 0]++us 19)) (λv1=>⟨[(cF a0),[.d (.int .i64 0),.d (.int .i64 0),.d (.int .i64 0),.d (.int .i64 0),.d (.int .i64 0),.d (.int .i64 0),.d (.int .i64 0),.d (.int .i64 0),.d (.int .i64 0),.d (.int .i64 0),.d (.int .i64 0),.d (.int .i64 0),.d (.int .i64 0),.d (.int .i64 0),.d (.int .i64 0),.d (.int .i64 0),.d (.int .i64 0),.d (.int .i64 0),.nil],[.d (.int .i64 0),.d (.int .i64 0),.d (.int .i64 0),.d (.int .i64 a0.X),.d (.int .i64 a0.Y),.d (.int .i64 a0.Z),.d (.int .i64 0),.d (.int .i64 0),.d (.int .i64 0),.d (.int .i64 0),.d (.int .i64 0),.d (.int .i64 0),.d (.int .i64 0),.d (.int .i64 0),.d (.int .i64 0),.d (.int .i64 0),.d (.int .i64 0),.d (.int .i64 0),.own 0 (zB ar [aQ.mk 1 11000,aQ.mk 2 12000,aQ.mk 3 13000,aQ.mk 4 14000,aQ.mk 5 15000,aQ.mk 6 16000,aQ.mk 7 17000,aQ.mk 8 18000,aQ.mk 9 19000])]],[(67,9)]⟩) (λ_=>rfl) ?_ ?_)
 refine .block (.loopR 15 (.seqK (.sR λe h=>?_)))
 simp only[seval,EMB,(nr rfl:(decide ((1:Int)≤9))=true)]
 refine mU e (.condT rfl (.skip (Mir.toK (.seqK (.block (.region λe h=>?_)))))) h
 simp only[seval,EMB,(nr rfl:kP.wrap 1000=1000),(nr rfl:kP.wrap 11000=11000),(oL 2),(oL 1)]
 refine mU e (.region λe h=>?_) h
 simp only[seval,EMB,(nr rfl:kP.wrap 2=2)]
 refine Mir.useN (e:=e) ?_ h
 refine .seqK (.sR λe h=>?_)
 simp only[seval,EMB,(nr rfl:(decide ((2:Int)≤9))=true)]
 refine mU e (.condT rfl (.skip (Mir.toK (.seqK (.block (.region λe h=>?_)))))) h
 simp only[seval,EMB,(nr rfl:kP.wrap 2000=2000),(nr rfl:kP.wrap 12000=12000),(oL 2)]
 refine mU e (.region λe h=>?_) h
 simp only[seval,EMB,(nr rfl:kP.wrap 3=3)]
 refine Mir.useN (e:=e) ?_ h
 refine .seqK (.sR λe h=>?_)
 simp only[seval,EMB,(nr rfl:(decide ((3:Int)≤9))=true)]
 refine mU e (.condT rfl (.skip (Mir.toK (.seqK (.block (.region λe h=>?_)))))) h
 simp only[seval,EMB,(nr rfl:kP.wrap 3000=3000),(nr rfl:kP.wrap 13000=13000),(oL 2),(oL 3)]
 refine mU e (.region λe h=>?_) h
 simp only[seval,EMB,(nr rfl:kP.wrap 4=4)]
 refine Mir.useN (e:=e) ?_ h
 refine .seqK (.sR λe h=>?_)
 simp only[seval,EMB,(nr rfl:(decide ((4:Int)≤9))=true)]
 refine mU e (.condT rfl (.skip (Mir.toK (.seqK (.block (.region λe h=>?_)))))) h
 simp only[seval,EMB,(nr rfl:kP.wrap 4000=4000),(nr rfl:kP.wrap 14000=14000),(oL 2),(oL 4)]
 refine mU e (.region λe h=>?_) h
 simp only[seval,EMB,(nr rfl:kP.wrap 5=5)]
 refine Mir.useN (e:=e) ?_ h
 refine .seqK (.sR λe h=>?_)
 simp only[seval,EMB,(nr rfl:(decide ((5:Int)≤9))=true)]
 refine mU e (.condT rfl (.skip (Mir.toK (.seqK (.block (.region λe h=>?_)))))) h
 simp only[seval,EMB,(nr rfl:kP.wrap 5000=5000),(nr rfl:kP.wrap 15000=15000),(oL 2),(oL 5)]
 refine mU e (.region λe h=>?_) h
 simp only[seval,EMB,(nr rfl:kP.wrap 6=6)]
 refine Mir.useN (e:=e) ?_ h
 refine .seqK (.sR λe h=>?_)
 simp only[seval,EMB,(nr rfl:(decide ((6:Int)≤9))=true)]
 refine mU e (.condT rfl (.skip (Mir.toK (.seqK (.block (.region λe h=>?_)))))) h
 simp only[seval,EMB,(nr rfl:kP.wrap 6000=6000),(nr rfl:kP.wrap 16000=16000),(oL 2),(oL 6)]
 refine mU e (.region λe h=>?_) h
 simp only[seval,EMB,(nr rfl:kP.wrap 7=7)]
 refine Mir.useN (e:=e) ?_ h
 refine .seqK (.sR λe h=>?_)
 simp only[seval,EMB,(nr rfl:(decide ((7:Int)≤9))=true)]
 refine mU e (.condT rfl (.skip (Mir.toK (.seqK (.block (.region λe h=>?_)))))) h
 simp only[seval,EMB,(nr rfl:kP.wrap 7000=7000),(nr rfl:kP.wrap 17000=17000),(oL 2),(oL 7)]
 refine mU e (.region λe h=>?_) h
 simp only[seval,EMB,(nr rfl:kP.wrap 8=8)]
 refine Mir.useN (e:=e) ?_ h
 refine .seqK (.sR λe h=>?_)
 simp only[seval,EMB,(nr rfl:(decide ((8:Int)≤9))=true)]
 refine mU e (.condT rfl (.skip (Mir.toK (.seqK (.block (.region λe h=>?_)))))) h
 simp only[seval,EMB,(nr rfl:kP.wrap 8000=8000),(nr rfl:kP.wrap 18000=18000),(oL 2),(oL 8)]
 refine mU e (.region λe h=>?_) h
 simp only[seval,EMB,(nr rfl:kP.wrap 9=9)]
 refine Mir.useN (e:=e) ?_ h
 refine .seqK (.sR λe h=>?_)
 simp only[seval,EMB,(nr rfl:(decide ((9:Int)≤9))=true)]
 refine mU e (.condT rfl (.skip (Mir.toK (.seqK (.block (.region λe h=>?_)))))) h
 simp only[seval,EMB,(nr rfl:kP.wrap 9000=9000),(nr rfl:kP.wrap 19000=19000),(oL 2),(oL 9)]
 refine mU e (.region λe h=>?_) h
 simp only[seval,EMB,(nr rfl:kP.wrap 10=10)]
 refine Mir.useN (e:=e) ?_ h
 refine .seqK (.sR λe h=>?_)
 simp only[seval,EMB,(nr rfl:(decide ((10:Int)≤9))=false)]
 refine mU e (.condF rfl (.exit QB)) h
 intro v1
 refine Mir.toK (.sB ?_)
 refine .ret QB
def iJ(a0:ae):Option Bool:=some ((decide ((mmI true (mmI true a0.X a0.Y) a0.Z)>10000000))||(decide ((mmI false (mmI false a0.X a0.Y) a0.Z)<(-10000000))))
theorem cR{a0:ae}{y:Bool}(h:iJ a0=some y):Spec gP 81 [.agg (cF a0)] (.d (.bool y)):=by
 refine auB Tryz.func81 (λy:Bool=>.d (.bool y)) ?_ h
 unfold iJ
 refine .sB ?_
 refine .sB ?_
 refine .sB ?_
 refine .seqK (.joinV ([U,U,.d (.bool ((decide ((mmI true (mmI true a0.X a0.Y) a0.Z)>10000000))||(decide ((mmI false (mmI false a0.X a0.Y) a0.Z)<(-10000000)))))]++us 22) ⟨[(cF a0)],[]⟩ rfl ?_ ?_)
 refine SWs.region ?_
 rcases zD (decide ((mmI true (mmI true a0.X a0.Y) a0.Z)>10000000))with hb1 | hb1
 simp only[seval,EMB,SL,PB,hb1]
 simp only[seval,EMB,SL,PB,hb1]
 refine Mir.toK (.ret QB)
def tb_entry(a0:aQ):Option Bool:=some ((decide (a0.Number≥1))&&((decide (a0.Number≤999))&&((decide (a0.Length≥0))&&(decide (a0.Length≤10000000)))))
theorem ij{a0:aQ}{y:Bool}(h:tb_entry a0=some y):Spec gP 82 [.agg [.d (.int .i64 a0.Number),.d (.int .i64 a0.Length)]] (.d (.bool y)):=by
 refine auB Tryz.func82 (λy:Bool=>.d (.bool y)) ?_ h
 unfold tb_entry
 refine .sB ?_
 refine .seqK (.joinV ([U,U,.d (.bool ((decide (a0.Number≥1))&&((decide (a0.Number≤999))&&((decide (a0.Length≥0))&&(decide (a0.Length≤10000000))))))]++us 18) ⟨[[.d (.int .i64 a0.Number),.d (.int .i64 a0.Length)]],[]⟩ rfl ?_ ?_)
 refine SWs.region ?_
 rcases zD (decide (a0.Number≥1))with hb1 | hb1
 rcases zD (decide (a0.Number≤999))with hb2 | hb2
 rcases zD (decide (a0.Length≥0))with hb3 | hb3
 simp only[seval,EMB,SL,PB,hb1,hb2,hb3]
 simp only[seval,EMB,SL,PB,hb1,hb2,hb3]
 simp only[seval,EMB,SL,PB,hb1,hb2]
 simp only[seval,EMB,SL,PB,hb1]
 refine Mir.toK (.ret QB)
def dI(a0:aw):Option Int:=bindO (bindO (bindX (bindO (iJ a0.Work.e0) λ(y1:Bool)=>if y1=true then some (.ret 0)else bindO (iJ a0.Work.e1) λ(y2:Bool)=>if y2=true then some (.ret 1)else bindO (iJ a0.Work.e2) λ(y3:Bool)=>if y3=true then some (.ret 2)else bindO (iJ a0.Work.e3) λ(y4:Bool)=>if y4=true then some (.ret 3)else bindO (iJ a0.Work.e4) λ(y5:Bool)=>if y5=true then some (.ret 4)else bindO (iJ a0.Work.e5) λ(y6:Bool)=>if y6=true then some (.ret 5)else some (.go ())) λ(v1:Unit)=>some (-1)) λ(v2:Int)=>some (decide (v2≥0))) λ(v3:Bool)=>if v3=true then some 1 else bindX (az (okIdx a0.Lengths) ( aI (λ(i1:Nat) (e1:aQ) (v4:Unit)=>bindO (bindO (tb_entry e1) λ(y7:Bool)=>if y7=true then if (decide ((i1:Int)>0))=true then bindO (gt a0.Lengths (kP.wrap ((i1:Int)-1))) λ(e2:aQ)=>some (decide (e2.Number≥e1.Number))else some false else some true) λ(v5:Bool)=>if v5=true then some (.ret (.ret 1))else some (.go ())) (λ(v4:Unit)=>some (.go ())) a0.Lengths 0 ())) λ(v6:Unit)=>some 0
theorem tb_Valid_spec{a0:aw}{y:Int}(h:dI a0=some y):Spec gP 36 [.agg (w6 a0.Work [.d (.list (zB ar a0.Lengths))])] (.d (.int .i64 y)):=by
 refine auB Tryz.func36 (λy:Int=>.d (.int .i64 y)) ?_ h
 unfold dI
 refine .sB ?_
 refine .seqK (.seqK (.bind λv3 hv62=>.region λe h=>WB ?_))
 refine SpecS.inl Tryz.func80 rfl (by kernel_rfl) (by kernel_rfl) (λv3:Bool=>.d (.bool v3)) (λv3=>⟨[(w6 a0.Work [.d (.list (zB ar a0.Lengths))])],[]⟩) hv62 rfl ?_ ?_
 simp only[zF,zH,nS,nA,Tryz.ntmps80,SV]
 refine .sB ?_
 refine .seqK (.bind λv2 h1=>.region λe h=>WB ?_)
 refine SpecS.inl Tryz.func120 rfl (by kernel_rfl) (by kernel_rfl) (λv2:Int=>.d (.int .i64 v2)) (λv2=>⟨[(w6 a0.Work [.d (.list (zB ar a0.Lengths))])],[]⟩) h1 rfl ?_ ?_
 simp only[zF,zH,nS,nA,Tryz.ntmps120,SV]
 refine .sB ?_
 refine .seqK (.sR λe h=>?_)
 simp only[seval,EMB,(nr rfl:((6:Nat):Int)=6)]
 refine mU e (Mir.join (λv1:Unit=>(us 19)) (λv1=>⟨[(w6 a0.Work [.d (.list (zB ar a0.Lengths))])],[]⟩) (λ_=>rfl) ?_ ?_) h
 refine .block (.loopR 15 (.sB ?_))
 refine .seqK (.condT rfl (.skip (Mir.toK (.seqK (.block (.sB ?_))))))
 refine .seqK (.bind λy1 h2=>.region λe h=>WB ?_)
 refine .byB (cR h2) (mB ?_ h)
 refine .cond rfl (λh3=>?_) (λh3=>?_)
 refine .sB ?_
 refine .ret QB
 refine .skip (Mir.toB (Mir.toK (.region λe h=>?_)))
 simp only[seval,EMB,(nr rfl:kP.wrap 1=1)]
 refine Mir.useN (e:=e) ?_ h
 refine .sB ?_
 refine .seqK (.condT rfl (.skip (Mir.toK (.seqK (.block (.sB ?_))))))
 refine .seqK (.bind λy2 h4=>.region λe h=>WB ?_)
 refine .byB (cR h4) (mB ?_ h)
 refine .cond rfl (λh5=>?_) (λh5=>?_)
 refine .sB ?_
 refine .ret QB
 refine .skip (Mir.toB (Mir.toK (.region λe h=>?_)))
 simp only[seval,EMB,(nr rfl:kP.wrap 2=2)]
 refine Mir.useN (e:=e) ?_ h
 refine .sB ?_
 refine .seqK (.condT rfl (.skip (Mir.toK (.seqK (.block (.sB ?_))))))
 refine .seqK (.bind λy3 h6=>.region λe h=>WB ?_)
 refine .byB (cR h6) (mB ?_ h)
 refine .cond rfl (λh7=>?_) (λh7=>?_)
 refine .sB ?_
 refine .ret QB
 refine .skip (Mir.toB (Mir.toK (.region λe h=>?_)))
 simp only[seval,EMB,(nr rfl:kP.wrap 3=3)]
 refine Mir.useN (e:=e) ?_ h
 refine .sB ?_
 refine .seqK (.condT rfl (.skip (Mir.toK (.seqK (.block (.sB ?_))))))
 refine .seqK (.bind λy4 h8=>.region λe h=>WB ?_)
 refine .byB (cR h8) (mB ?_ h)
 refine .cond rfl (λh9=>?_) (λh9=>?_)
 refine .sB ?_
 refine .ret QB
 refine .skip (Mir.toB (Mir.toK (.region λe h=>?_)))
 simp only[seval,EMB,(nr rfl:kP.wrap 4=4)]
 refine Mir.useN (e:=e) ?_ h
 refine .sB ?_
 refine .seqK (.condT rfl (.skip (Mir.toK (.seqK (.block (.sB ?_))))))
 refine .seqK (.bind λy5 h10=>.region λe h=>WB ?_)
 refine .byB (cR h10) (mB ?_ h)
 refine .cond rfl (λh11=>?_) (λh11=>?_)
 refine .sB ?_
 refine .ret QB
 refine .skip (Mir.toB (Mir.toK (.region λe h=>?_)))
 simp only[seval,EMB,(nr rfl:kP.wrap 5=5)]
 refine Mir.useN (e:=e) ?_ h
 refine .sB ?_
 refine .seqK (.condT rfl (.skip (Mir.toK (.seqK (.block (.sB ?_))))))
 refine .seqK (.bind λy6 h12=>.region λe h=>WB ?_)
 refine .byB (cR h12) (mB ?_ h)
 refine .cond rfl (λh13=>?_) (λh13=>?_)
 refine .sB ?_
 refine .ret QB
 refine .skip (Mir.toB (Mir.toK (.region λe h=>?_)))
 simp only[seval,EMB,(nr rfl:kP.wrap 6=6)]
 refine Mir.useN (e:=e) ?_ h
 refine .sB ?_
 refine .seqK (.condF rfl (.exit QB))
 intro v1
 refine Mir.toK (.sB ?_)
 refine .ret QB
 simp only[seval,EMB]
 refine mU e (.ret QB) h
 simp only[seval,EMB]
 refine mU e (.cond rfl (λh14=>?_) (λh14=>?_)) h
 refine .sB ?_
 refine .ret QB
 refine .skip (Mir.toK (.seqK (.sB ?_)))
 refine Mir.join (λv6:Unit=>(us 36)) (λv6=>⟨[(w6 a0.Work [.d (.list (zB ar a0.Lengths))])],[]⟩) (λ_=>rfl) ?_ ?_
 refine .block (.guard λq1=>Mir.range (λ(i1:Nat) (v4:Unit)=>([U,.ptr 0 0,U,U,U,U,U,U,U,.d (.list (zB ar a0.Lengths)),.d (.int .i64 (a0.Lengths.length:Int)),.d (.int .i64 (i1:Int))]++us 24)) (λi1 v4=>⟨[(w6 a0.Work [.d (.list (zB ar a0.Lengths))])],[]⟩) q1 (λ_ _=>rfl) (by simp only[seval,FMB,zNI]) (by simp only[seval,FMB,zNI]) ?_ ?_)
 intro i1 e1 v4 q2
 refine .sR λe h=>?_
 simp only[seval,EMB,q2]
 refine mU e (.seqK (.condT rfl (.skip (Mir.toK (.seqK (.block (.sR λe h=>?_))))))) h
 simp only[seval,EMB,q2,zE]
 refine mU e (.seqK (Mir.joinO (λv5:Bool=>[U,.ptr 0 0,U,U,U,U,U,U,U,.d (.list (zB ar a0.Lengths)),.d (.int .i64 (a0.Lengths.length:Int)),.d (.int .i64 (i1:Int)),U,U,U,U,U,U,U,U,U,U,U,U,U,U,U,U,U,U,U,U,U,U,.d (.bool v5),U]) (λv5=>⟨[(w6 a0.Work [.d (.list (zB ar a0.Lengths))]),[.d (.int .i64 e1.Number),.d (.int .i64 e1.Length)]],[]⟩) (λ_=>rfl) ?_ ?_)) h
 refine .bind λy7 h15=>.ite (λh16=>?_) (λh16=>?_)
 refine .ite (λh17=>?_) (λh17=>?_)
 refine .bind λe2 q3=>?_
 replace q3:=gt_ok q3
 refine .regionD [] (by kernel_rfl) λe h=>?_
 simp only[seval,EMB,SB,h16,h17]
 refine Spec.by (ij h15) (by simp only[seval,FMB,h16,h17]) ?_
 simp only[seval,EMB,SB,q3,h16,h17]
 cases h
 simp only[seval,FMB,h16,h17]
 refine .regionD [] (by kernel_rfl) λe h=>?_
 simp only[seval,EMB,SB,h16,h17]
 refine Spec.by (ij h15) (by simp only[seval,FMB,h16,h17]) ?_
 simp only[seval,EMB,SB,h16,h17]
 cases h
 simp only[seval,FMB,h16,h17]
 refine .regionD [] (by kernel_rfl) λe h=>?_
 simp only[seval,EMB,SB,h16]
 refine Spec.by (ij h15) (by simp only[seval,FMB,h16]) ?_
 simp only[seval,EMB,SB,h16]
 cases h
 simp only[seval,FMB,h16]
 intro v5
 refine Mir.toK (.cond rfl (λh18=>?_) (λh18=>?_))
 refine .sB ?_
 refine .ret QB
 refine .skip (Mir.toB (Mir.toK (.region λe h=>?_)))
 simp only[seval,EMB]
 cases h
 simp only[seval,FMB,q2]
 intro v4 q4
 refine .sR λe h=>?_
 simp only[seval,EMB,q4]
 refine mU e (.seqK (.condF rfl (.exit QB))) h
 intro v6
 refine Mir.toK (.sB ?_)
 refine .ret QB
def dn(a0:Int):Option Bool:=some ((decide (a0<(-10000000)))||(decide (a0>10000000)))
theorem eA{a0:Int}{y:Bool}(h:dn a0=some y):Spec gP 84 [.d (.int .i64 a0)] (.d (.bool y)):=by
 refine auB Tryz.func84 (λy:Bool=>.d (.bool y)) ?_ h
 unfold dn
 refine .sB ?_
 refine .seqK (.joinV ([U,U,.d (.bool ((decide (a0<(-10000000)))||(decide (a0>10000000))))]++us 6) ⟨[],[]⟩ rfl ?_ ?_)
 refine SWs.region ?_
 rcases zD (decide (a0<(-10000000)))with hb1 | hb1
 simp only[seval,EMB,SL,PB,hb1]
 simp only[seval,EMB,SL,PB,hb1]
 refine Mir.toK (.ret QB)
def gZ(a0:ae):Option Bool:=bindO (bindO (bindX (bindO (dn a0.X) λ(y1:Bool)=>if y1=true then some (.ret 0)else bindO (dn a0.Y) λ(y2:Bool)=>if y2=true then some (.ret 1)else bindO (dn a0.Z) λ(y3:Bool)=>if y3=true then some (.ret 2)else some (.go ())) λ(v1:Unit)=>some (-1)) λ(v2:Int)=>some (decide (v2≥0))) λ(v3:Bool)=>some (!v3)
theorem inp_inside_spec{a0:ae}{y:Bool}(h:gZ a0=some y):Spec gP 37 [.agg (cF a0)] (.d (.bool y)):=by
 refine auB Tryz.func37 (λy:Bool=>.d (.bool y)) ?_ h
 unfold gZ
 refine .sR λe h=>?_
 simp only[seval,EMB,eInt]
 refine mU e (.seqK (.bind λv3 hv32=>.region λe h=>?_)) h
 simp only[seval,EMB,(oL 3),eInt]
 refine SpecS.inl Tryz.func83 rfl (by kernel_rfl) (by kernel_rfl) (λv3:Bool=>.d (.bool v3)) (λv3=>⟨[(cF a0)],[]⟩) hv32 rfl ?_ ?_
 simp only[zF,zH,nS,nA,Tryz.ntmps83,SV]
 refine .sR λe h=>?_
 simp only[seval,EMB,eInt]
 refine mU e (.seqK (.bind λv2 hv63=>.region λe h=>?_)) h
 simp only[seval,EMB,eInt]
 refine SpecS.inl Tryz.func121 rfl (by kernel_rfl) (by kernel_rfl) (λv2:Int=>.d (.int .i64 v2)) (λv2=>⟨[(cF a0)],[]⟩) hv63 rfl ?_ ?_
 simp only[zF,zH,nS,nA,Tryz.ntmps121,SV]
 refine .sR λe h=>?_
 simp only[seval,EMB,eInt]
 refine mU e (.seqK (.sR λe h=>?_)) h
 simp only[seval,EMB,(nr rfl:((3:Nat):Int)=3),eInt]
 refine mU e (Mir.join (λv1:Unit=>(us 19)) (λv1=>⟨[(cF a0)],[]⟩) (λ_=>rfl) ?_ ?_) h
 refine .block (.loopR 15 (.sR λe h=>?_))
 simp only[seval,EMB,eInt]
 refine mU e (.seqK (.condT rfl (.skip (Mir.toK (.seqK (.block (.sR λe h=>?_))))))) h
 simp only[seval,EMB,eInt]
 refine mU e (.seqK (.bind λy1 hy81=>.region λe h=>?_)) h
 simp only[seval,EMB,eInt]
 refine SpecS.by (eA hy81) (by simp only[seval,FMB,eInt]) ?_
 simp only[seval,EMB,eInt]
 refine mU e (.cond rfl (λhb83=>?_) (λhb83=>?_)) h
 refine .sR λe h=>?_
 simp only[seval,EMB,eInt]
 refine mU e (.ret λe h=>?_) h
 cases h
 simp only[seval,FMB,eInt]
 refine .skip (Mir.toB (Mir.toK (.region λe h=>?_)))
 simp only[seval,EMB,(nr rfl:kP.wrap 1=1),eInt]
 refine Mir.useN (e:=e) ?_ h
 refine .sR λe h=>?_
 simp only[seval,EMB,eInt]
 refine mU e (.seqK (.condT rfl (.skip (Mir.toK (.seqK (.block (.sR λe h=>?_))))))) h
 simp only[seval,EMB,eInt]
 refine mU e (.seqK (.bind λy2 hy86=>.region λe h=>?_)) h
 simp only[seval,EMB,eInt]
 refine SpecS.by (eA hy86) (by simp only[seval,FMB,eInt]) ?_
 simp only[seval,EMB,eInt]
 refine mU e (.cond rfl (λhb88=>?_) (λhb88=>?_)) h
 refine .sR λe h=>?_
 simp only[seval,EMB,eInt]
 refine mU e (.ret λe h=>?_) h
 cases h
 simp only[seval,FMB,eInt]
 refine .skip (Mir.toB (Mir.toK (.region λe h=>?_)))
 simp only[seval,EMB,(nr rfl:kP.wrap 2=2),eInt]
 refine Mir.useN (e:=e) ?_ h
 refine .sR λe h=>?_
 simp only[seval,EMB,eInt]
 refine mU e (.seqK (.condT rfl (.skip (Mir.toK (.seqK (.block (.sR λe h=>?_))))))) h
 simp only[seval,EMB,eInt]
 refine mU e (.seqK (.bind λy3 hy91=>.region λe h=>?_)) h
 simp only[seval,EMB,eInt]
 refine SpecS.by (eA hy91) (by simp only[seval,FMB,eInt]) ?_
 simp only[seval,EMB,eInt]
 refine mU e (.cond rfl (λhb93=>?_) (λhb93=>?_)) h
 refine .sR λe h=>?_
 simp only[seval,EMB,eInt]
 refine mU e (.ret λe h=>?_) h
 cases h
 simp only[seval,FMB,eInt]
 refine .skip (Mir.toB (Mir.toK (.region λe h=>?_)))
 simp only[seval,EMB,(nr rfl:kP.wrap 3=3),eInt]
 refine Mir.useN (e:=e) ?_ h
 refine .sR λe h=>?_
 simp only[seval,EMB,eInt]
 refine mU e (.seqK (.condF rfl (.exit λe h=>?_))) h
 cases h
 simp only[seval,FMB,eInt]
 intro v1
 refine Mir.toK (.sR λe h=>?_)
 simp only[seval,EMB,eInt]
 refine mU e (.ret λe h=>?_) h
 cases h
 simp only[seval,FMB,eInt]
 simp only[seval,EMB,eInt]
 refine mU e (.ret λe h=>?_) h
 cases h
 simp only[seval,FMB,eInt]
 simp only[seval,EMB,eInt]
 refine mU e (.ret λe h=>?_) h
 cases h
 simp only[seval,FMB,eInt]
def bK(a0:aw)(a1:ae):Option Int:=bindO (dI (aw.mk a0.Work a0.Lengths)) λ(y1:Int)=>if (y1 != 0)=true then some 1 else bindO (gZ a1) λ(y2:Bool)=>if (!y2)=true then some 11 else some 0
theorem fp{a0:aw}{a1:ae}{y:Int}(h:bK a0 a1=some y):Spec gP 16 [.agg (w6 a0.Work [.d (.list (zB ar a0.Lengths))]),.agg (cF a1)] (.d (.int .i64 y)):=by
 refine auB Tryz.func16 (λy:Int=>.d (.int .i64 y)) ?_ h
 unfold bK
 refine .sB ?_
 refine .seqK (.block (.seqK (.bind λy1 hy5=>.region λe h=>WB ?_)))
 refine .byB (tb_Valid_spec hy5) (mB ?_ h)
 refine .cond rfl (λhb9=>?_) (λhb9=>?_)
 refine .sB ?_
 refine .ret QB
 refine .seqK (.bind λy2 hy10=>.region λe h=>WB ?_)
 refine .byB (inp_inside_spec hy10) (mB ?_ h)
 refine .cond rfl (λhb12=>?_) (λhb12=>?_)
 refine .sB ?_
 refine .ret QB
 refine .skip (Mir.toB (Mir.toK (.sB ?_)))
 refine .ret QB
def cS(a0:(List UInt8))(a1:(List UInt8)):Option Bool:=bindO (if (decide ((a0.length:Int)≥(a1.length:Int)))=true then bindO (cutF a0 (kP.wrap ((a0.length:Int)-(a1.length:Int)))) λ(s1:(List UInt8))=>some (s1==a1)else some false) λ(v1:Bool)=>some v1
theorem gu{a0:(List UInt8)}{a1:(List UInt8)}{y:Bool}(h:cS a0 a1=some y):Spec gP 88 [.d (.str a0),.d (.str a1)] (.d (.bool y)):=by
 refine auB Tryz.func88 (λy:Bool=>.d (.bool y)) ?_ h
 unfold cS
 refine .sB ?_
 refine .seqK (Mir.joinO (λv1:Bool=>([U,U,U,U,.d (.bool v1)]++us 16)) (λv1=>⟨[],[]⟩) (λ_=>rfl) ?_ ?_)
 refine .ite (λhb1=>?_) (λhb1=>?_)
 refine .bind λs1 q2=>?_
 replace q2:=kF q2
 refine .region λe h=>?_
 simp only[seval,EMB,q2,zO,and_true,true_and,dm,tm,hb1]
 cases h
 simp only[seval,FMB,hb1]
 refine .region λe h=>?_
 simp only[seval,EMB,hb1]
 cases h
 simp only[seval,FMB,hb1]
 intro v1
 refine Mir.toK (.ret QB)
def de(a0:(List UInt8))(a1:(List UInt8)):Option Bool:=bindO (cS a0 a1) λ(y1:Bool)=>some y1
theorem iV{a0:(List UInt8)}{a1:(List UInt8)}{y:Bool}(h:de a0 a1=some y):Spec gP 39 [.d (.str a0),.d (.str a1)] (.d (.bool y)):=by
 refine auB Tryz.func39 (λy:Bool=>.d (.bool y)) ?_ h
 unfold de
 refine .sB ?_
 refine .seqK (.bind λy1 hy1=>.region λe h=>WB ?_)
 refine .byB (gu hy1) (mB ?_ h)
 refine .ret QB
def bI(a0:(List UInt8))(a1:(List UInt8)):Option Int:=if (((a1.length:Int)==0)||(a1==a0))=true then some 0 else if ((a1.length:Int)==1)=true then bindO (gt a1 0) λ(c1:UInt8)=>bindO (stringslite_IndexByte a0 (c1.toNat:Int)) λ(y1:Int)=>some y1 else if (decide ((a1.length:Int)≥(a0.length:Int)))=true then some (-1)else none
theorem iS{a0:(List UInt8)}{a1:(List UInt8)}{y:Int}(h:bI a0 a1=some y):Spec gP 122 [.d (.str a0),.d (.str a1)] (.d (.int .i64 y)):=by
 refine auB Tryz.func122 (λy:Int=>.d (.int .i64 y)) ?_ h
 unfold bI
 refine .sB ?_
 refine .sB ?_
 refine .seqK (.block (.seqK (.joinV ([.d (.str a0),.d (.str a1),U,U,U,.d (.int .i64 (a1.length:Int)),U,U,U,U,U,U,U,U,U,U,.d (.bool (((a1.length:Int)==0)||(a1==a0)))]++us 126) ⟨[],[]⟩ rfl ?_ ?_)))
 refine SWs.region ?_
 rcases zD ((a1.length:Int)==0)with hb7 | hb7
 simp only[seval,EMB,SL,PB,hb7]
 simp only[seval,EMB,SL,PB,hb7]
 refine Mir.toK (.cond rfl (λhb13=>?_) (λhb13=>?_))
 refine .sB ?_
 refine .ret QB
 refine .sB ?_
 refine .cond rfl (λhb18=>?_) (λhb18=>?_)
 refine .seqK (.bind λc1 q19=>?_)
 replace q19:=gt_ok q19
 simp only[kM,Int.reduceLT,Nat.sub_zero,dp0]at q19
 refine .bind λy1 hy20=>.region λe h=>?_
 simp only[seval,EMB,q19]
 refine .byB (gq hy20) (mB ?_ h)
 refine .ret QB
 refine .sB ?_
 refine .cond rfl (λhb22=>?_) (λhb22=>?_)
 refine .sB ?_
 refine .ret QB
 exact Mir.no
def cT(a0:(List UInt8))(a1:(List UInt8)):Option ((List UInt8)×(List UInt8)×Bool):=bindO (bI a0 a1) λ(y1:Int)=>if (decide (y1≥0))=true then bindO (cutT a0 y1) λ(s1:(List UInt8))=>bindO (cutF a0 (kP.wrap (y1+(a1.length:Int)))) λ(s2:(List UInt8))=>some (s1,s2,true)else some (a0,[],false)
theorem j6{a0:(List UInt8)}{a1:(List UInt8)}{y:(List UInt8)×(List UInt8)×Bool}(h:cT a0 a1=some y):Spec gP 89 [.d (.str a0),.d (.str a1)] (.tuple [.d (.str y.1),.d (.str y.2.1),.d (.bool y.2.2)]):=by
 refine auB Tryz.func89 (λy:(List UInt8)×(List UInt8)×Bool=>.tuple [.d (.str y.1),.d (.str y.2.1),.d (.bool y.2.2)]) ?_ h
 unfold cT
 refine .sB ?_
 refine .seqK (.seqK (.bind λy1 hy1=>.region λe h=>WB ?_))
 refine .byB (iS hy1) (mB ?_ h)
 refine .sB ?_
 refine .cond rfl (λhb5=>?_) (λhb5=>?_)
 refine .seqK (.bind λs1 q6=>?_)
 replace q6:=cutT_ok q6
 refine .bind λs2 q7=>?_
 replace q7:=kF q7
 refine .regionD [] (by kernel_rfl) λe h=>?_
 simp only[seval,EMB,SB,q6,zO,and_true,true_and,dm,tm,q7]
 refine mU e (.ret QB) h
 refine .skip (Mir.toK (.sB ?_))
 refine .ret QB
def cU(a0:(List UInt8))(a1:(List UInt8)):Option ((List UInt8)×(List UInt8)×Bool):=bindO (cT a0 a1) λ(y1:(List UInt8)×(List UInt8)×Bool)=>some (y1.1,y1.2.1,y1.2.2)
theorem iK{a0:(List UInt8)}{a1:(List UInt8)}{y:(List UInt8)×(List UInt8)×Bool}(h:cU a0 a1=some y):Spec gP 40 [.d (.str a0),.d (.str a1)] (.tuple [.d (.str y.1),.d (.str y.2.1),.d (.bool y.2.2)]):=by
 refine auB Tryz.func40 (λy:(List UInt8)×(List UInt8)×Bool=>.tuple [.d (.str y.1),.d (.str y.2.1),.d (.bool y.2.2)]) ?_ h
 unfold cU
 refine .sB ?_
 refine .seqK (.bind λy1 hy1=>.region λe h=>WB ?_)
 refine .byB (j6 hy1) (mB ?_ h)
 refine .ret QB
def bU(a0:(List UInt8))(a1:(List UInt8)):Option Bool:=bindO (if (decide ((a0.length:Int)≥(a1.length:Int)))=true then bindO (cutT a0 (a1.length:Int)) λ(s1:(List UInt8))=>some (s1==a1)else some false) λ(v1:Bool)=>some v1
theorem gv{a0:(List UInt8)}{a1:(List UInt8)}{y:Bool}(h:bU a0 a1=some y):Spec gP 202 [.d (.str a0),.d (.str a1)] (.d (.bool y)):=by
 refine auB Tryz.func202 (λy:Bool=>.d (.bool y)) ?_ h
 unfold bU
 refine .sB ?_
 refine .seqK (Mir.joinO (λv1:Bool=>([U,U,U,U,.d (.bool v1)]++us 13)) (λv1=>⟨[],[]⟩) (λ_=>rfl) ?_ ?_)
 refine .ite (λhb1=>?_) (λhb1=>?_)
 refine .bind λs1 q2=>?_
 replace q2:=cutT_ok q2
 refine .region λe h=>?_
 simp only[seval,EMB,q2,zO,and_true,true_and,dm,tm,hb1]
 cases h
 simp only[seval,FMB,hb1]
 refine .region λe h=>?_
 simp only[seval,EMB,hb1]
 cases h
 simp only[seval,FMB,hb1]
 intro v1
 refine Mir.toK (.ret QB)
def bV(a0:(List UInt8))(a1:(List UInt8)):Option ((List UInt8)×Bool):=bindO (bU a0 a1) λ(y1:Bool)=>if (!y1)=true then some (a0,false)else bindO (cutF a0 (a1.length:Int)) λ(s1:(List UInt8))=>some (s1,true)
theorem gw{a0:(List UInt8)}{a1:(List UInt8)}{y:(List UInt8)×Bool}(h:bV a0 a1=some y):Spec gP 190 [.d (.str a0),.d (.str a1)] (.tuple [.d (.str y.1),.d (.bool y.2)]):=by
 refine auB Tryz.func190 (λy:(List UInt8)×Bool=>.tuple [.d (.str y.1),.d (.bool y.2)]) ?_ h
 unfold bV
 refine .sB ?_
 refine .seqK (.seqK (.bind λy1 hy1=>.region λe h=>WB ?_))
 refine .byB (gv hy1) (mB ?_ h)
 refine .cond rfl (λhb3=>?_) (λhb3=>?_)
 refine .sB ?_
 refine .ret QB
 refine .skip (Mir.toK (.seqK (.bind λs1 q4=>?_)))
 replace q4:=kF q4
 refine .region λe h=>?_
 simp only[seval,EMB,q4,zO,and_true,true_and,dm,tm]
 refine mU e (.ret QB) h
def cf(a0:(List UInt8))(a1:(List UInt8)):Option ((List UInt8)×Bool):=bindO (bV a0 a1) λ(y1:(List UInt8)×Bool)=>some (y1.1,y1.2)
theorem iW{a0:(List UInt8)}{a1:(List UInt8)}{y:(List UInt8)×Bool}(h:cf a0 a1=some y):Spec gP 169 [.d (.str a0),.d (.str a1)] (.tuple [.d (.str y.1),.d (.bool y.2)]):=by
 refine auB Tryz.func169 (λy:(List UInt8)×Bool=>.tuple [.d (.str y.1),.d (.bool y.2)]) ?_ h
 unfold cf
 refine .sB ?_
 refine .seqK (.bind λy1 hy1=>.region λe h=>WB ?_)
 refine .byB (gw hy1) (mB ?_ h)
 refine .ret QB
def dG(a0:(List UInt8)):Option Bool:=bindO (if (a0==[])=true then some false else bindO (jc a0 [48,49,50,51,52,53,54,55,56,57]) λ(y1:(List UInt8))=>some (y1==[])) λ(v1:Bool)=>some v1
theorem aK{a0:(List UInt8)}{y:Bool}(h:dG a0=some y):Spec gP 170 [.d (.str a0)] (.d (.bool y)):=by
 refine auB Tryz.func170 (λy:Bool=>.d (.bool y)) ?_ h
 unfold dG
 refine .sB ?_
 refine .seqK (Mir.joinO (λv1:Bool=>([U,U,.d (.bool v1)]++us 7)) (λv1=>⟨[],[]⟩) (λ_=>rfl) ?_ ?_)
 refine .ite (λhb1=>?_) (λhb1=>?_)
 refine .region λe h=>?_
 simp only[seval,EMB,hb1]
 cases h
 simp only[seval,FMB,hb1]
 refine .bind λy1 hy2=>.region λe h=>?_
 simp only[seval,EMB,hb1]
 refine SpecS.by (strings_Trim_spec hy2) (by simp only[seval,FMB,hb1]) ?_
 simp only[seval,EMB,hb1]
 cases h
 simp only[seval,FMB,hb1]
 intro v1
 refine Mir.toK (.ret QB)
end Go.Proofs.YtgojngpeaknbnaaGreatDoor
