import Derived.Test.YtjemmjpdmbenkaaGreatDoorG1
import Derived.Test.YtjemmjpdmbenkaaGreatDoorTy
import Derived.Test.YtjemmjpdmbenkaaGreatDoorGz
import Derived.Test.YtjemmjpdmbenkaaGreatDoorSzz
import Derived.Test.YtjemmjpdmbenkaaGreatDoorLb
import Derived.Test.YtjemmjpdmbenkaaGreatDoorSzj2
import Derived.Test.YtjemmjpdmbenkaaGreatDoorSzk
import Derived.Test.YtjemmjpdmbenkaaGreatDoorGog
import Derived.Test.YtjemmjpdmbenkaaGreatDoorAu
open And renaming intro → zA
open List renaming map → zB,all_eq_true → zD
namespace Go.Proofs.YtjemmjpdmbenkaaGreatDoor
set_option linter.defProp false
open Go.RowKit
open Nat renaming reduceAdd → nA,reduceSub → nS,reduceMul → nM,reduceEqDiff → nE,reduceLeDiff → nL,reduceLT → nT,reduceBEq → nB
open Int renaming reduceLT → iT,reduceToNat → iN,reduceEq → iE
set_option linter.unusedVariables false
set_option linter.unusedSimpArgs false
set_option maxRecDepth 100000
set_option maxHeartbeats 8000000
structure ay where
 Letter:Int
 Value:Int
 deriving DecidableEq
def aw(x:ay):List D:=[.int .u8 x.Letter,.int .i64 x.Value]
theorem al_ApiWord{l:List ay}:(zB aw l).all (λx=>x.length==2)=true:=by simp[zD,aw]
structure aa where
 Skip:Bool
 Words:(List ay)
 Comment:(List UInt8)
 deriving DecidableEq
def ac(x:aa):List D:=[.bool x.Skip,.list (zB aw x.Words),.str x.Comment]
theorem al_ApiBlock{l:List aa}:(zB ac l).all (λx=>x.length==3)=true:=by simp[zD,ac]
structure ca where
 Number:Int
 Length:Int
 deriving DecidableEq
def aI(x:ca):List D:=[.int .i64 x.Number,.int .i64 x.Length]
structure ag where
 X:Int
 Y:Int
 Z:Int
 deriving DecidableEq
def bN(x:ag):List D:=[.int .i64 x.X,.int .i64 x.Y,.int .i64 x.Z]
theorem al_ApiPos{l:List ag}:(zB bN l).all (λx=>x.length==3)=true:=by simp[zD,bN]
structure iG where
 e0:ag
 e1:ag
 e2:ag
 e3:ag
 e4:ag
 e5:ag
 deriving DecidableEq
abbrev w6(W:iG)(r:List V):List V:=.d (.int .i64 W.e0.X)::.d (.int .i64 W.e0.Y)::.d (.int .i64 W.e0.Z)::.d (.int .i64 W.e1.X)::.d (.int .i64 W.e1.Y)::.d (.int .i64 W.e1.Z)::.d (.int .i64 W.e2.X)::.d (.int .i64 W.e2.Y)::.d (.int .i64 W.e2.Z)::.d (.int .i64 W.e3.X)::.d (.int .i64 W.e3.Y)::.d (.int .i64 W.e3.Z)::.d (.int .i64 W.e4.X)::.d (.int .i64 W.e4.Y)::.d (.int .i64 W.e4.Z)::.d (.int .i64 W.e5.X)::.d (.int .i64 W.e5.Y)::.d (.int .i64 W.e5.Z)::r
def encArr6ApiPos(x:iG):List D:=[.int .i64 x.e0.X,.int .i64 x.e0.Y,.int .i64 x.e0.Z,.int .i64 x.e1.X,.int .i64 x.e1.Y,.int .i64 x.e1.Z,.int .i64 x.e2.X,.int .i64 x.e2.Y,.int .i64 x.e2.Z,.int .i64 x.e3.X,.int .i64 x.e3.Y,.int .i64 x.e3.Z,.int .i64 x.e4.X,.int .i64 x.e4.Y,.int .i64 x.e4.Z,.int .i64 x.e5.X,.int .i64 x.e5.Y,.int .i64 x.e5.Z]
structure bg where
 Work:iG
 Lengths:(List ca)
 deriving DecidableEq
def encR45Table(x:bg):List D:=[.int .i64 x.Work.e0.X,.int .i64 x.Work.e0.Y,.int .i64 x.Work.e0.Z,.int .i64 x.Work.e1.X,.int .i64 x.Work.e1.Y,.int .i64 x.Work.e1.Z,.int .i64 x.Work.e2.X,.int .i64 x.Work.e2.Y,.int .i64 x.Work.e2.Z,.int .i64 x.Work.e3.X,.int .i64 x.Work.e3.Y,.int .i64 x.Work.e3.Z,.int .i64 x.Work.e4.X,.int .i64 x.Work.e4.Y,.int .i64 x.Work.e4.Z,.int .i64 x.Work.e5.X,.int .i64 x.Work.e5.Y,.int .i64 x.Work.e5.Z,.list (zB aI x.Lengths)]
structure bi where
 Number:Int
 Length:Int
 deriving DecidableEq
def au(x:bi):List D:=[.int .i64 x.Number,.int .i64 x.Length]
theorem al_TableLength{l:List bi}:(zB au l).all (λx=>x.length==2)=true:=by simp[zD,au]
structure aC where
 Work:iG
 Lengths:(List bi)
 deriving DecidableEq
def encTableTable(x:aC):List D:=[.int .i64 x.Work.e0.X,.int .i64 x.Work.e0.Y,.int .i64 x.Work.e0.Z,.int .i64 x.Work.e1.X,.int .i64 x.Work.e1.Y,.int .i64 x.Work.e1.Z,.int .i64 x.Work.e2.X,.int .i64 x.Work.e2.Y,.int .i64 x.Work.e2.Z,.int .i64 x.Work.e3.X,.int .i64 x.Work.e3.Y,.int .i64 x.Work.e3.Z,.int .i64 x.Work.e4.X,.int .i64 x.Work.e4.Y,.int .i64 x.Work.e4.Z,.int .i64 x.Work.e5.X,.int .i64 x.Work.e5.Y,.int .i64 x.Work.e5.Z,.list (zB au x.Lengths)]
structure aL where
 Block:Int
 Code:Int
 deriving DecidableEq
def nV(x:aL):List D:=[.int .i64 x.Block,.int .i64 x.Code]
structure aq where
 Motion:Int
 Distance:Int
 Work:Int
 Length:Int
 Return:Int
 Feed:Int
 Tool:Int
 Offset:Int
 deriving DecidableEq
def encModalState(x:aq):List D:=[.int .i64 x.Motion,.int .i64 x.Distance,.int .i64 x.Work,.int .i64 x.Length,.int .i64 x.Return,.int .i64 x.Feed,.int .i64 x.Tool,.int .i64 x.Offset]
structure ao where
 Code:Int
 R:Int
 Z:Int
 Q:Int
 Rate:Int
 Initial:Int
 High:Bool
 deriving DecidableEq
def encCycleCycle(x:ao):List D:=[.int .i64 x.Code,.int .i64 x.R,.int .i64 x.Z,.int .i64 x.Q,.int .i64 x.Rate,.int .i64 x.Initial,.bool x.High]
structure ap where
 at_:ag
 rate:Int
 deriving DecidableEq
def aX(x:ap):List D:=[.int .i64 x.at_.X,.int .i64 x.at_.Y,.int .i64 x.at_.Z,.int .i64 x.rate]
theorem md{l:List ap}:(zB aX l).all (λx=>x.length==4)=true:=by simp[zD,aX]
structure aO where
 X:Int
 Y:Int
 deriving DecidableEq
def br(x:aO):List D:=[.int .i64 x.X,.int .i64 x.Y]
structure ar where
 Kind:Int
 To:ag
 Center:aO
 Rate:Int
 deriving DecidableEq
def aA(x:ar):List D:=[.int .i64 x.Kind,.int .i64 x.To.X,.int .i64 x.To.Y,.int .i64 x.To.Z,.int .i64 x.Center.X,.int .i64 x.Center.Y,.int .i64 x.Rate]
theorem al_ApiMove{l:List ar}:(zB aA l).all (λx=>x.length==7)=true:=by simp[zD,aA]
structure al where
 From:ag
 To:ag
 Rate:Int
 Tool:Int
 Block:Int
 deriving DecidableEq
def aE(x:al):List D:=[.int .i64 x.From.X,.int .i64 x.From.Y,.int .i64 x.From.Z,.int .i64 x.To.X,.int .i64 x.To.Y,.int .i64 x.To.Z,.int .i64 x.Rate,.int .i64 x.Tool,.int .i64 x.Block]
theorem me{l:List al}:(zB aE l).all (λx=>x.length==9)=true:=by simp[zD,aE]
structure fm where
 Table:bg
 From:ag
 deriving DecidableEq
def encL47Setting(x:fm):List D:=[.int .i64 x.Table.Work.e0.X,.int .i64 x.Table.Work.e0.Y,.int .i64 x.Table.Work.e0.Z,.int .i64 x.Table.Work.e1.X,.int .i64 x.Table.Work.e1.Y,.int .i64 x.Table.Work.e1.Z,.int .i64 x.Table.Work.e2.X,.int .i64 x.Table.Work.e2.Y,.int .i64 x.Table.Work.e2.Z,.int .i64 x.Table.Work.e3.X,.int .i64 x.Table.Work.e3.Y,.int .i64 x.Table.Work.e3.Z,.int .i64 x.Table.Work.e4.X,.int .i64 x.Table.Work.e4.Y,.int .i64 x.Table.Work.e4.Z,.int .i64 x.Table.Work.e5.X,.int .i64 x.Table.Work.e5.Y,.int .i64 x.Table.Work.e5.Z,.list (zB aI x.Table.Lengths),.int .i64 x.From.X,.int .i64 x.From.Y,.int .i64 x.From.Z]
structure aS where
 Motion:Int
 Distance:Int
 Work:Int
 Length:Int
 Return:Int
 Feed:Int
 Tool:Int
 Offset:Int
 deriving DecidableEq
def encR42State(x:aS):List D:=[.int .i64 x.Motion,.int .i64 x.Distance,.int .i64 x.Work,.int .i64 x.Length,.int .i64 x.Return,.int .i64 x.Feed,.int .i64 x.Tool,.int .i64 x.Offset]
structure bc where
 Code:Int
 R:Int
 Z:Int
 Q:Int
 Rate:Int
 Initial:Int
 High:Bool
 deriving DecidableEq
def encR44Cycle(x:bc):List D:=[.int .i64 x.Code,.int .i64 x.R,.int .i64 x.Z,.int .i64 x.Q,.int .i64 x.Rate,.int .i64 x.Initial,.bool x.High]
structure ax where
 State:aS
 Cycle:bc
 At:ag
 deriving DecidableEq
def encR47Machine(x:ax):List D:=[.int .i64 x.State.Motion,.int .i64 x.State.Distance,.int .i64 x.State.Work,.int .i64 x.State.Length,.int .i64 x.State.Return,.int .i64 x.State.Feed,.int .i64 x.State.Tool,.int .i64 x.State.Offset,.int .i64 x.Cycle.Code,.int .i64 x.Cycle.R,.int .i64 x.Cycle.Z,.int .i64 x.Cycle.Q,.int .i64 x.Cycle.Rate,.int .i64 x.Cycle.Initial,.bool x.Cycle.High,.int .i64 x.At.X,.int .i64 x.At.Y,.int .i64 x.At.Z]
structure bl where
 At:ag
 Moves:(List ar)
 deriving DecidableEq
def encR44Path(x:bl):List D:=[.int .i64 x.At.X,.int .i64 x.At.Y,.int .i64 x.At.Z,.list (zB aA x.Moves)]
structure bE where
 Block:Int
 Code:Int
 deriving DecidableEq
def encR47Alarm(x:bE):List D:=[.int .i64 x.Block,.int .i64 x.Code]
structure bs where
 s:(List UInt8)
 at_:Int
 b:aa
 deriving DecidableEq
def encBlockParser(x:bs):List D:=[.str x.s,.int .i64 x.at_,.bool x.b.Skip,.list (zB aw x.b.Words),.str x.b.Comment]
structure aH where
 Number:Int
 Blocks:(List aa)
 deriving DecidableEq
def aJ(x:aH):List D:=[.int .i64 x.Number,.list (zB ac x.Blocks)]
theorem al_SubprogramSub{l:List aH}:(zB aJ l).all (λx=>x.length==2)=true:=by simp[zD,aJ]
structure aD where
 Main:(List aa)
 Subs:(List aH)
 deriving DecidableEq
def mR(x:aD):List D:=[.list (zB ac x.Main),.list (zB aJ x.Subs)]
structure dg where
 Number:Int
 Blocks:(List aa)
 deriving DecidableEq
def aB(x:dg):List D:=[.int .i64 x.Number,.list (zB ac x.Blocks)]
theorem al_R43Sub{l:List dg}:(zB aB l).all (λx=>x.length==2)=true:=by simp[zD,aB]
structure aZ where
 Main:(List aa)
 Subs:(List dg)
 deriving DecidableEq
def encR43Program(x:aZ):List D:=[.list (zB ac x.Main),.list (zB aB x.Subs)]
def SYK:=zA @kl_e<|zA @kl_n<|zA @kl_r<|zA @sy_at<|zA @sy_l2<|zA @sy_lt<|zA @sy_set<|zA @sy_t0<|zA @sy_t1<|zA @sy_tk<|@sy_tn
def RMX:=zA @b7<|zA @spD<|zA @xMA<|@xLA
abbrev dI(x:Int):V:=.d (.int .i64 x)
abbrev dB(x:Bool):V:=.d (.bool x)
abbrev dS(x:List UInt8):V:=.d (.str x)
abbrev dL{α:Type}(f:α→List D)(x:List α):V:=.d (.list (zB f x))
abbrev cX:List V:=[dI 0,dI 0,dI 0,dI 0,dI 0,dI 0,dI 0,dI 0]
abbrev cY:List V:=[dI 0,dI 0,dI 0,dI 0,dI 0,dI 0,dB false]
abbrev cZ:List V:=[dI 0,dI 0]
abbrev dA:List V:=[dI 0,dI 0,dI 0]
abbrev dC:List V:=[dI 0,dI 0,dI 0,dI 0,dI 0,dI 0,dI 0,dI 0,dI 0,dI 0,dI 0,dI 0,dI 0,dI 0,dB false,dI 0,dI 0,dI 0]
abbrev cA(x:aq):List V:=[.d (.int .i64 x.Motion),.d (.int .i64 x.Distance),.d (.int .i64 x.Work),.d (.int .i64 x.Length),.d (.int .i64 x.Return),.d (.int .i64 x.Feed),.d (.int .i64 x.Tool),.d (.int .i64 x.Offset)]
abbrev cB(x:ao):List V:=[.d (.int .i64 x.Code),.d (.int .i64 x.R),.d (.int .i64 x.Z),.d (.int .i64 x.Q),.d (.int .i64 x.Rate),.d (.int .i64 x.Initial),.d (.bool x.High)]
abbrev cC(x:aa):List V:=[.d (.bool x.Skip),.d (.list (zB aw x.Words)),.d (.str x.Comment)]
abbrev cE(x:ag):List V:=[.d (.int .i64 x.X),.d (.int .i64 x.Y),.d (.int .i64 x.Z)]
abbrev cG(x:ap):List V:=[.d (.int .i64 x.at_.X),.d (.int .i64 x.at_.Y),.d (.int .i64 x.at_.Z),.d (.int .i64 x.rate)]
abbrev cH(x:aL):List V:=[.d (.int .i64 x.Block),.d (.int .i64 x.Code)]
abbrev cJ(x:bi):List V:=[.d (.int .i64 x.Number),.d (.int .i64 x.Length)]
abbrev cK(x:ay):List V:=[.d (.int .u8 x.Letter),.d (.int .i64 x.Value)]
abbrev cL(x:aO):List V:=[.d (.int .i64 x.X),.d (.int .i64 x.Y)]
abbrev cM(x:ar):List V:=[.d (.int .i64 x.Kind),.d (.int .i64 x.To.X),.d (.int .i64 x.To.Y),.d (.int .i64 x.To.Z),.d (.int .i64 x.Center.X),.d (.int .i64 x.Center.Y),.d (.int .i64 x.Rate)]
abbrev cN(x:aH):List V:=[.d (.int .i64 x.Number),.d (.list (zB ac x.Blocks))]
abbrev cO(x:aD):List V:=[.d (.list (zB ac x.Main)),.d (.list (zB aJ x.Subs))]
abbrev cP(x:aZ):List V:=[.d (.list (zB ac x.Main)),.d (.list (zB aB x.Subs))]
abbrev cQ(x:dg):List V:=[.d (.int .i64 x.Number),.d (.list (zB ac x.Blocks))]
abbrev cS(x:ca):List V:=[.d (.int .i64 x.Number),.d (.int .i64 x.Length)]
abbrev cT(x:bE):List V:=[.d (.int .i64 x.Block),.d (.int .i64 x.Code)]
abbrev cU(x:aS):List V:=[.d (.int .i64 x.Motion),.d (.int .i64 x.Distance),.d (.int .i64 x.Work),.d (.int .i64 x.Length),.d (.int .i64 x.Return),.d (.int .i64 x.Feed),.d (.int .i64 x.Tool),.d (.int .i64 x.Offset)]
abbrev cV(x:bc):List V:=[.d (.int .i64 x.Code),.d (.int .i64 x.R),.d (.int .i64 x.Z),.d (.int .i64 x.Q),.d (.int .i64 x.Rate),.d (.int .i64 x.Initial),.d (.bool x.High)]
abbrev cW(x:ax):List V:=[.d (.int .i64 x.State.Motion),.d (.int .i64 x.State.Distance),.d (.int .i64 x.State.Work),.d (.int .i64 x.State.Length),.d (.int .i64 x.State.Return),.d (.int .i64 x.State.Feed),.d (.int .i64 x.State.Tool),.d (.int .i64 x.State.Offset),.d (.int .i64 x.Cycle.Code),.d (.int .i64 x.Cycle.R),.d (.int .i64 x.Cycle.Z),.d (.int .i64 x.Cycle.Q),.d (.int .i64 x.Cycle.Rate),.d (.int .i64 x.Cycle.Initial),.d (.bool x.Cycle.High),.d (.int .i64 x.At.X),.d (.int .i64 x.At.Y),.d (.int .i64 x.At.Z)]
def ENMA:=zA @aw.eq_1<|zA @ac.eq_1<|zA @aI.eq_1<|zA @bN.eq_1<|zA @encArr6ApiPos.eq_1<|zA @encR45Table.eq_1<|zA @au.eq_1<|zA @encTableTable.eq_1<|zA @nV.eq_1<|zA @encModalState.eq_1<|zA @encCycleCycle.eq_1<|zA @aX.eq_1<|zA @br.eq_1<|zA @aA.eq_1<|zA @aE.eq_1<|zA @encL47Setting.eq_1<|zA @encR42State.eq_1<|zA @encR44Cycle.eq_1<|zA @encR47Machine.eq_1<|zA @encR44Path.eq_1<|zA @encR47Alarm.eq_1<|zA @encBlockParser.eq_1<|zA @aJ.eq_1<|zA @mR.eq_1<|zA @aB.eq_1<|zA @encR43Program.eq_1<|zA @wrL<|zA @okLl<|zA @bytes_enc<|zA @dm<|@tm
def TMA:=zA @Tryz.ntmps10<|zA @Tryz.ntmps100<|zA @Tryz.ntmps101<|zA @Tryz.ntmps102<|zA @Tryz.ntmps105<|zA @Tryz.ntmps106<|zA @Tryz.ntmps107<|zA @Tryz.ntmps108<|zA @Tryz.ntmps109<|zA @Tryz.ntmps11<|zA @Tryz.ntmps110<|zA @Tryz.ntmps111<|zA @Tryz.ntmps112<|zA @Tryz.ntmps113<|zA @Tryz.ntmps114<|zA @Tryz.ntmps115<|zA @Tryz.ntmps116<|zA @Tryz.ntmps117<|zA @Tryz.ntmps118<|zA @Tryz.ntmps119<|zA @Tryz.ntmps12<|zA @Tryz.ntmps120<|zA @Tryz.ntmps121<|zA @Tryz.ntmps122<|zA @Tryz.ntmps123<|zA @Tryz.ntmps124<|zA @Tryz.ntmps125<|zA @Tryz.ntmps126<|zA @Tryz.ntmps127<|zA @Tryz.ntmps128<|zA @Tryz.ntmps129<|zA @Tryz.ntmps13<|zA @Tryz.ntmps130<|zA @Tryz.ntmps131<|zA @Tryz.ntmps132<|zA @Tryz.ntmps133<|zA @Tryz.ntmps134<|zA @Tryz.ntmps135<|zA @Tryz.ntmps136<|zA @Tryz.ntmps137<|zA @Tryz.ntmps138<|zA @Tryz.ntmps14<|zA @Tryz.ntmps140<|zA @Tryz.ntmps141<|zA @Tryz.ntmps142<|zA @Tryz.ntmps143<|zA @Tryz.ntmps144<|zA @Tryz.ntmps145<|zA @Tryz.ntmps146<|zA @Tryz.ntmps147<|zA @Tryz.ntmps148<|zA @Tryz.ntmps149<|zA @Tryz.ntmps15<|zA @Tryz.ntmps150<|zA @Tryz.ntmps151<|zA @Tryz.ntmps152<|zA @Tryz.ntmps153<|zA @Tryz.ntmps154<|zA @Tryz.ntmps155<|zA @Tryz.ntmps156<|zA @Tryz.ntmps16<|zA @Tryz.ntmps161<|zA @Tryz.ntmps163<|zA @Tryz.ntmps164<|zA @Tryz.ntmps165<|zA @Tryz.ntmps166<|zA @Tryz.ntmps167<|zA @Tryz.ntmps168<|zA @Tryz.ntmps169<|zA @Tryz.ntmps17<|zA @Tryz.ntmps170<|zA @Tryz.ntmps171<|zA @Tryz.ntmps172<|zA @Tryz.ntmps173<|zA @Tryz.ntmps174<|zA @Tryz.ntmps175<|zA @Tryz.ntmps176<|zA @Tryz.ntmps177<|zA @Tryz.ntmps178<|zA @Tryz.ntmps179<|zA @Tryz.ntmps18<|zA @Tryz.ntmps180<|zA @Tryz.ntmps181<|zA @Tryz.ntmps182<|zA @Tryz.ntmps183<|zA @Tryz.ntmps184<|zA @Tryz.ntmps185<|zA @Tryz.ntmps186<|zA @Tryz.ntmps187<|zA @Tryz.ntmps188<|zA @Tryz.ntmps189<|zA @Tryz.ntmps19<|zA @Tryz.ntmps192<|zA @Tryz.ntmps193<|zA @Tryz.ntmps195<|zA @Tryz.ntmps196<|zA @Tryz.ntmps197<|zA @Tryz.ntmps198<|zA @Tryz.ntmps199<|zA @Tryz.ntmps20<|zA @Tryz.ntmps200<|zA @Tryz.ntmps201<|zA @Tryz.ntmps202<|zA @Tryz.ntmps203<|zA @Tryz.ntmps204<|zA @Tryz.ntmps205<|zA @Tryz.ntmps206<|zA @Tryz.ntmps207<|zA @Tryz.ntmps21<|zA @Tryz.ntmps211<|zA @Tryz.ntmps212<|zA @Tryz.ntmps213<|zA @Tryz.ntmps22<|zA @Tryz.ntmps23<|zA @Tryz.ntmps24<|zA @Tryz.ntmps25<|zA @Tryz.ntmps26<|zA @Tryz.ntmps28<|zA @Tryz.ntmps29<|zA @Tryz.ntmps3<|zA @Tryz.ntmps30<|zA @Tryz.ntmps31<|zA @Tryz.ntmps32<|zA @Tryz.ntmps33<|zA @Tryz.ntmps34<|zA @Tryz.ntmps35<|zA @Tryz.ntmps36<|zA @Tryz.ntmps37<|zA @Tryz.ntmps38<|zA @Tryz.ntmps39<|zA @Tryz.ntmps4<|zA @Tryz.ntmps40<|zA @Tryz.ntmps41<|zA @Tryz.ntmps42<|zA @Tryz.ntmps43<|zA @Tryz.ntmps45<|zA @Tryz.ntmps46<|zA @Tryz.ntmps47<|zA @Tryz.ntmps48<|zA @Tryz.ntmps49<|zA @Tryz.ntmps5<|zA @Tryz.ntmps50<|zA @Tryz.ntmps52<|zA @Tryz.ntmps53<|zA @Tryz.ntmps54<|zA @Tryz.ntmps55<|zA @Tryz.ntmps56<|zA @Tryz.ntmps6<|zA @Tryz.ntmps60<|zA @Tryz.ntmps61<|zA @Tryz.ntmps62<|zA @Tryz.ntmps63<|zA @Tryz.ntmps64<|zA @Tryz.ntmps65<|zA @Tryz.ntmps66<|zA @Tryz.ntmps67<|zA @Tryz.ntmps68<|zA @Tryz.ntmps69<|zA @Tryz.ntmps7<|zA @Tryz.ntmps70<|zA @Tryz.ntmps71<|zA @Tryz.ntmps72<|zA @Tryz.ntmps73<|zA @Tryz.ntmps74<|zA @Tryz.ntmps75<|zA @Tryz.ntmps76<|zA @Tryz.ntmps77<|zA @Tryz.ntmps78<|zA @Tryz.ntmps79<|zA @Tryz.ntmps8<|zA @Tryz.ntmps80<|zA @Tryz.ntmps81<|zA @Tryz.ntmps82<|zA @Tryz.ntmps83<|zA @Tryz.ntmps84<|zA @Tryz.ntmps85<|zA @Tryz.ntmps86<|zA @Tryz.ntmps87<|zA @Tryz.ntmps88<|zA @Tryz.ntmps89<|zA @Tryz.ntmps9<|zA @Tryz.ntmps90<|zA @Tryz.ntmps94<|zA @Tryz.ntmps95<|zA @Tryz.ntmps96<|zA @Tryz.ntmps97<|zA @Tryz.ntmps98<|zA @Tryz.ntmps99<|zA @Tryz.results10<|zA @Tryz.results100<|zA @Tryz.results101<|zA @Tryz.results102<|zA @Tryz.results103<|zA @Tryz.results104<|zA @Tryz.results105<|zA @Tryz.results106<|zA @Tryz.results107<|zA @Tryz.results108<|zA @Tryz.results109<|zA @Tryz.results11<|zA @Tryz.results110<|zA @Tryz.results111<|zA @Tryz.results112<|zA @Tryz.results113<|zA @Tryz.results114<|zA @Tryz.results115<|zA @Tryz.results116<|zA @Tryz.results117<|zA @Tryz.results118<|zA @Tryz.results119<|zA @Tryz.results12<|zA @Tryz.results120<|zA @Tryz.results121<|zA @Tryz.results122<|zA @Tryz.results123<|zA @Tryz.results124<|zA @Tryz.results125<|zA @Tryz.results126<|zA @Tryz.results127<|zA @Tryz.results128<|zA @Tryz.results129<|zA @Tryz.results13<|zA @Tryz.results130<|zA @Tryz.results131<|zA @Tryz.results132<|zA @Tryz.results133<|zA @Tryz.results134<|zA @Tryz.results135<|zA @Tryz.results136<|zA @Tryz.results137<|zA @Tryz.results138<|zA @Tryz.results139<|zA @Tryz.results14<|zA @Tryz.results140<|zA @Tryz.results141<|zA @Tryz.results142<|zA @Tryz.results143<|zA @Tryz.results144<|zA @Tryz.results145<|zA @Tryz.results146<|zA @Tryz.results147<|zA @Tryz.results148<|zA @Tryz.results149<|zA @Tryz.results15<|zA @Tryz.results150<|zA @Tryz.results151<|zA @Tryz.results152<|zA @Tryz.results153<|zA @Tryz.results154<|zA @Tryz.results155<|zA @Tryz.results156<|zA @Tryz.results16<|zA @Tryz.results161<|zA @Tryz.results163<|zA @Tryz.results164<|zA @Tryz.results165<|zA @Tryz.results166<|zA @Tryz.results167<|zA @Tryz.results168<|zA @Tryz.results169<|zA @Tryz.results17<|zA @Tryz.results170<|zA @Tryz.results171<|zA @Tryz.results172<|zA @Tryz.results173<|zA @Tryz.results174<|zA @Tryz.results175<|zA @Tryz.results176<|zA @Tryz.results177<|zA @Tryz.results178<|zA @Tryz.results179<|zA @Tryz.results18<|zA @Tryz.results180<|zA @Tryz.results181<|zA @Tryz.results182<|zA @Tryz.results183<|zA @Tryz.results184<|zA @Tryz.results185<|zA @Tryz.results186<|zA @Tryz.results187<|zA @Tryz.results188<|zA @Tryz.results189<|zA @Tryz.results19<|zA @Tryz.results192<|zA @Tryz.results193<|zA @Tryz.results195<|zA @Tryz.results196<|zA @Tryz.results197<|zA @Tryz.results198<|zA @Tryz.results199<|zA @Tryz.results20<|zA @Tryz.results200<|zA @Tryz.results201<|zA @Tryz.results202<|zA @Tryz.results203<|zA @Tryz.results204<|zA @Tryz.results205<|zA @Tryz.results206<|zA @Tryz.results207<|zA @Tryz.results21<|zA @Tryz.results211<|zA @Tryz.results212<|zA @Tryz.results213<|zA @Tryz.results22<|zA @Tryz.results23<|zA @Tryz.results24<|zA @Tryz.results25<|zA @Tryz.results26<|zA @Tryz.results27<|zA @Tryz.results28<|zA @Tryz.results29<|zA @Tryz.results3<|zA @Tryz.results30<|zA @Tryz.results31<|zA @Tryz.results32<|zA @Tryz.results33<|zA @Tryz.results34<|zA @Tryz.results35<|zA @Tryz.results36<|zA @Tryz.results37<|zA @Tryz.results38<|zA @Tryz.results39<|zA @Tryz.results4<|zA @Tryz.results40<|zA @Tryz.results41<|zA @Tryz.results42<|zA @Tryz.results43<|zA @Tryz.results45<|zA @Tryz.results46<|zA @Tryz.results47<|zA @Tryz.results48<|zA @Tryz.results49<|zA @Tryz.results5<|zA @Tryz.results50<|zA @Tryz.results51<|zA @Tryz.results52<|zA @Tryz.results53<|zA @Tryz.results54<|zA @Tryz.results55<|zA @Tryz.results56<|zA @Tryz.results57<|zA @Tryz.results58<|zA @Tryz.results59<|zA @Tryz.results6<|zA @Tryz.results60<|zA @Tryz.results61<|zA @Tryz.results62<|zA @Tryz.results63<|zA @Tryz.results64<|zA @Tryz.results65<|zA @Tryz.results66<|zA @Tryz.results67<|zA @Tryz.results68<|zA @Tryz.results69<|zA @Tryz.results7<|zA @Tryz.results70<|zA @Tryz.results71<|zA @Tryz.results72<|zA @Tryz.results73<|zA @Tryz.results74<|zA @Tryz.results75<|zA @Tryz.results76<|zA @Tryz.results77<|zA @Tryz.results78<|zA @Tryz.results79<|zA @Tryz.results8<|zA @Tryz.results80<|zA @Tryz.results81<|zA @Tryz.results82<|zA @Tryz.results83<|zA @Tryz.results84<|zA @Tryz.results85<|zA @Tryz.results86<|zA @Tryz.results87<|zA @Tryz.results88<|zA @Tryz.results89<|zA @Tryz.results9<|zA @Tryz.results90<|zA @Tryz.results94<|zA @Tryz.results95<|zA @Tryz.results96<|zA @Tryz.results97<|zA @Tryz.results98<|zA @Tryz.results99<|zA @ag_103<|zA @ag_121<|zA @ag_130<|zA @ag_132<|zA @ag_134<|zA @ag_148<|zA @ag_177<|zA @ag_178<|zA @ag_179<|zA @ag_186<|zA @ag_192<|zA @ag_194<|zA @ag_2<|zA @ag_227<|zA @ag_23<|zA @ag_232<|zA @ag_24<|zA @ag_246<|zA @ag_25<|zA @ag_27<|zA @ag_29<|zA @ag_3<|zA @ag_31<|zA @ag_32<|zA @ag_38<|zA @ag_4<|zA @ag_41<|zA @ag_43<|zA @ag_45<|zA @ag_5<|zA @ag_55<|zA @ag_58<|zA @ag_60<|zA @ag_66<|zA @ag_68<|zA @ag_73<|zA @ag_74<|zA @ag_81<|zA @ag_84<|zA @ag_85<|zA @ag_87<|zA @ag_9<|zA @ag_92<|zA @ag_95<|zA @al_ApiBlock<|zA @me<|zA @al_ApiMove<|zA @al_ApiPos<|zA @al_ApiWord<|zA @md<|zA @al_R43Sub<|zA @al_SubprogramSub<|zA @al_TableLength<|zA @al_eInt<|zA @al_eList<|zA @mb<|zA @app_144<|zA @app_161<|zA @app_186<|zA @app_31<|zA @app_36<|zA @app_41<|zA @app_58<|zA @app_66<|zA @app_85<|zA @kv<|zA @bV.eq_1<|zA @eInt.eq_1<|zA @bC.eq_1<|zA @elL<|zA @elR<|zA @fld_103_0<|zA @fld_103_1<|zA @fld_121_0<|zA @fld_121_1<|zA @fld_130_0<|zA @fld_130_1<|zA @fld_130_2<|zA @fld_130_3<|zA @fld_130_4<|zA @fld_130_5<|zA @fld_130_6<|zA @fld_130_7<|zA @fld_132_0<|zA @fld_132_1<|zA @fld_132_2<|zA @fld_132_3<|zA @fld_132_4<|zA @fld_132_5<|zA @fld_132_6<|zA @fld_134_0<|zA @fld_134_1<|zA @fld_134_2<|zA @fld_148_0<|zA @fld_148_1<|zA @fld_167_0<|zA @fld_167_1<|zA @fld_167_2<|zA @fld_181_0<|zA @fld_181_1<|zA @fld_181_2<|zA @fld_181_3<|zA @fld_181_4<|zA @fld_192_0<|zA @fld_192_1<|zA @fld_194_0<|zA @fld_194_1<|zA @fld_194_2<|zA @fld_194_3<|zA @fld_232_0<|zA @fld_232_1<|zA @fld_23_0<|zA @fld_23_1<|zA @fld_23_2<|zA @fld_246_0<|zA @fld_246_1<|zA @fld_27_0<|zA @fld_27_1<|zA @fld_29_0<|zA @fld_29_1<|zA @fld_38_0<|zA @fld_38_1<|zA @fld_43_0<|zA @fld_43_1<|zA @fld_45_0<|zA @fld_45_1<|zA @fld_55_1<|zA @fld_55_4<|zA @fld_60_0<|zA @kT<|zA @fld_68_0<|zA @fld_68_1<|zA @fld_73_0<|zA @fld_73_1<|zA @fld_74_0<|zA @fld_74_1<|zA @fld_81_0<|zA @fld_81_1<|zA @fld_81_2<|zA @fld_81_3<|zA @fld_81_4<|zA @fld_81_5<|zA @fld_81_6<|zA @fld_81_7<|zA @fld_84_0<|zA @fld_84_1<|zA @fld_84_2<|zA @fld_84_3<|zA @fld_84_4<|zA @fld_84_5<|zA @fld_84_6<|zA @fld_87_0<|zA @fld_87_1<|zA @fld_87_2<|zA @fld_95_0<|zA @fld_95_1<|zA @gE_132<|zA @gE_23<|zA @gE_38<|zA @gE_55<|zA @gE_84<|zA @lit_pn<|zA @pl_103<|zA @pl_121<|zA @pl_130<|zA @pl_132<|zA @pl_134<|zA @pl_148<|zA @pl_167<|zA @pl_181<|zA @pl_192<|zA @pl_194<|zA @pl_23<|zA @pl_232<|zA @pl_246<|zA @pl_27<|zA @pl_38<|zA @pl_43<|zA @pl_45<|zA @pl_55<|zA @pl_60<|zA @pl_68<|zA @pl_73<|zA @pl_74<|zA @pl_81<|zA @pl_84<|zA @pl_87<|zA @pl_95<|zA @b7<|zA @spD<|zA @sz_103<|zA @sz_121<|zA @sz_130<|zA @sz_132<|zA @sz_134<|zA @sz_148<|zA @sz_167<|zA @sz_177<|zA @sz_178<|zA @sz_179<|zA @sz_186<|zA @sz_192<|zA @sz_194<|zA @sz_2<|zA @sz_227<|zA @sz_23<|zA @sz_232<|zA @sz_24<|zA @sz_246<|zA @sz_25<|zA @sz_27<|zA @sz_29<|zA @sz_3<|zA @jE<|zA @sz_32<|zA @sz_38<|zA @sz_4<|zA @sz_41<|zA @sz_43<|zA @sz_45<|zA @sz_5<|zA @sz_55<|zA @kA<|zA @sz_60<|zA @sz_66<|zA @sz_68<|zA @sz_73<|zA @sz_74<|zA @sz_81<|zA @sz_84<|zA @sz_85<|zA @sz_87<|zA @sz_9<|zA @sz_92<|zA @sz_95<|zA @und_107<|zA @ld<|zA @und_144<|zA @und_161<|zA @und_186<|zA @und_196<|zA @lc<|zA @und_208<|zA @und_225<|zA @und_228<|zA @und_233<|zA @und_238<|zA @und_24<|zA @und_25<|zA @und_3<|zA @und_31<|zA @und_36<|zA @und_4<|zA @und_41<|zA @nq<|zA @und_58<|zA @und_66<|zA @und_85<|zA @und_9<|zA @und_92<|zA @w_eq<|zA @w_none<|zA @zero_103<|zA @zero_121<|zA @zero_130<|zA @zero_132<|zA @zero_134<|zA @zero_148<|zA @zero_167<|zA @zero_181<|zA @zero_186<|zA @zero_192<|zA @zero_194<|zA @iH<|zA @zero_227<|zA @zero_23<|zA @zero_232<|zA @zero_246<|zA @zero_27<|zA @gQ<|zA @zero_38<|zA @zero_43<|zA @zero_45<|zA @zero_55<|zA @zero_60<|zA @zero_68<|zA @zero_73<|zA @zero_74<|zA @zero_81<|zA @zero_84<|zA @zero_87<|@zero_95
def EMA:=zA @SE<|zA @ENMA<|@TMA
def FMA:=zA @SF<|zA @ENMA<|@TMA
theorem QA{α:Type}{x:α}{p:α→Prop}(e:p x:=by simp only[seval,FMA]):∀y,some x=some y→p y:=λ_ i=>Option.some.inj i▸e
variable {p:Prop}
theorem WA{q:Prop}(h:q)(e:p=q:=by simp only[seval,EMA];rfl):p:=Eq.mpr e h
variable {P:Program}{c:Code}{fr:Fr}{g:Pg P}{ε:Type}{m:Option ε}{s:Sg}{Φ:ε→SQ}
theorem mA{e:ε}(h:Mir g c fr s m Φ)(i:m=some e)(w:p=SWs g c (Φ e) fr s:=by simp only[seval,EMA];rfl):p:=Eq.mpr w (h e i)
variable {ops:Array Oper}
theorem Mir.sA{g':Pg P}{fr':Fr}{s':Sg}{id:Nat}{k:Code}(h:Mir g' c fr' s' m Φ)(e:∀e,regS g false ops ops.toList fr s (kQ g k Φ e .normal)=SWs g' c (Φ e) fr' s':=by intro e;simp only[seval,EMA];rfl):Mir g (.seq (.region id ops false) k) fr s m Φ:=Mir.sR λy i=>Eq.mpr (e y) (h y i)
theorem Mir.rA{x:ε}{id:Nat}(e:regS g false ops ops.toList fr s (Φ x .normal):=by simp only[seval,EMA];simp only[seval,FMA]):Mir g (.region id ops false) fr s (some x) Φ:=Mir.region λ_ i=>Option.some.inj i▸e
variable {R:V→Sg→Prop}{args:List V}{f:FuncId}
theorem aY.byA{r:V}{args':List V}(h:Spec g f args' r)(hR:R r s)(ha:args.map V.clean=args':=by simp only[seval,FMA]):aY g f args s R:=aY.by h ha hR
variable {fn:Func}
theorem aY.inlA{ν:Type}{Y:ν→V}{S:ν→Sg}{m1:Option ν}{v:ν}[i:Fnc g f fn](hm:iF f Y S m1=some v)(h:Mir g c fr s m1 (inQ g fn.results.toList Y S))(hR:R (Y v) (S v))(hb:fn.body=some c:=by rfl)(he:bG P f=true:=by kernel_rfl)(hd:bP c=true:=by kernel_rfl)(ho:okF s [Y v] (S v)=true:=by rfl)(e:args++List.replicate (fn.ntmps-args.length) .undef=fr:=by simp only[List.replicate,List.length,nS,nA,SV,TMA];rfl):aY g f args s R:=aY.inl i.h hb he hd Y S hm ho (e▸h) hR
variable {ρ:Type}
theorem auA(hf:P.funcs[f]? = some fn)(en:ρ→V){m:Option ρ}(h:Mir g c fr ⟨[],[]⟩ m (fnQ g fn.results.toList en)){y:ρ}(hy:m=some y)(hb:fn.body=some c:=by rfl)(he:bG P f=true:=by kernel_rfl)(hd:bP c=true:=by kernel_rfl)(e:args++List.replicate (fn.ntmps-args.length) .undef=fr:=by simp only[List.replicate,List.length,nS,nA,SV,TMA];rfl):Spec g f args (en y):=jq hf hb he hd en (e▸h) hy
instance:Sp 234 (type_of% @jP):=⟨@jP⟩
instance:Sp 208 (type_of% @jO):=⟨@jO⟩
instance:Sp 157 (type_of% @eg):=⟨@eg⟩
instance:Sp 194 (type_of% @gv):=⟨@gv⟩
instance:Sp 44 (type_of% @dH):=⟨@dH⟩
instance:Fnc gP 40 Tryz.f40:=⟨Tryz.func40⟩
instance:Fnc gP 48 Tryz.f48:=⟨Tryz.func48⟩
instance:Fnc gP 66 Tryz.f66:=⟨Tryz.func66⟩
instance:Fnc gP 86 Tryz.f86:=⟨Tryz.func86⟩
instance:Fnc gP 89 Tryz.f89:=⟨Tryz.func89⟩
instance:Fnc gP 96 Tryz.f96:=⟨Tryz.func96⟩
instance:Fnc gP 98 Tryz.f98:=⟨Tryz.func98⟩
instance:Fnc gP 100 Tryz.f100:=⟨Tryz.func100⟩
instance:Fnc gP 102 Tryz.f102:=⟨Tryz.func102⟩
instance:Fnc gP 129 Tryz.f129:=⟨Tryz.func129⟩
instance:Fnc gP 130 Tryz.f130:=⟨Tryz.func130⟩
instance:Fnc gP 132 Tryz.f132:=⟨Tryz.func132⟩
instance:Fnc gP 133 Tryz.f133:=⟨Tryz.func133⟩
instance:Fnc gP 134 Tryz.f134:=⟨Tryz.func134⟩
instance:Fnc gP 135 Tryz.f135:=⟨Tryz.func135⟩
instance:Fnc gP 136 Tryz.f136:=⟨Tryz.func136⟩
instance:Fnc gP 170 Tryz.f170:=⟨Tryz.func170⟩
instance:Fnc gP 184 Tryz.f184:=⟨Tryz.func184⟩
instance:Fnc gP 198 Tryz.f198:=⟨Tryz.func198⟩
instance:Fnc gP 201 Tryz.f201:=⟨Tryz.func201⟩
theorem zzA(h:p:=by
  repeat (first
    | exact Mir.no
    | ((with_reducible refine Mir.condN ?_ (fun _=>?_) (fun _=>?_));exact rfl)
    | ((with_reducible refine Mir.cond ?_ (fun _=>?_) (fun _=>?_));exact rfl)
    | ((with_reducible refine Mir.condT ?_ ?_);exact rfl)
    | ((with_reducible refine Mir.condF ?_ ?_);exact rfl)
    | ((with_reducible apply Mir.condTA);exact rfl;assumption)
    | ((with_reducible apply Mir.condFA);exact rfl;assumption)
    | ((with_reducible apply Mir.gF);exact rfl)
    | ((with_reducible refine Mir.jXB (fun _=>?_) ?_ (fun _=>?_));exact rfl)
    | ((with_reducible refine Mir.jXC (fun _=>?_) ?_ (fun _=>?_));exact rfl)
    | ((with_reducible refine Mir.jOB (fun _=>?_) ?_ (fun _=>?_));exact rfl)
    | ((with_reducible refine Mir.jOC (fun _=>?_) ?_ (fun _=>?_));exact rfl)
    | ((with_reducible refine Mir.jOR (fun _=>?_) ?_ (fun _=>?_));exact rfl)
    | ((with_reducible refine Mir.rG ‹_› (fun _ _=>?_) ?_ ?_ (fun _ _ _ _ _ _ _ _=>?_) (fun _ _=>?_));(focus exact rfl);(focus (simp only[seval,FMA,zNI];done));(focus (simp only[seval,FMA,zNI];done)))
    | ((with_reducible refine Mir.lF (fun _=>?_) ?_ ?_ (fun _=>?_));(focus exact rfl);(focus (simp only[seval,FMA];done));(focus (simp only[seval,FMA];done)))
    | ((with_reducible refine Mir.jV ?_ ?_ ?_);exact rfl)
    | ((with_reducible refine Mir.guardS fun q=>?_);try simp only[lm,xNA,xCA,xAN,xLC,xLN,xAC,xAL,nA,Nat.zero_add,List.length_append]at q)
    | ((with_reducible refine Mir.guard fun q=>?_);try simp only[Nat.zero_add]at q)
    | with_reducible refine Mir.loopR 99 ?_
    | ((with_reducible refine Mir.bindCL fun _ q=>?_);try simp only[Int.reduceToNat,Int.reduceLT,Nat.sub_zero,dp0,Int.toNat_natCast,xLC,xLN,Nat.zero_add,nA]at q)
    | ((with_reducible refine Mir.bindCF fun _ q=>?_);try simp only[Int.reduceToNat,Int.reduceLT,Nat.sub_zero,dp0,Int.toNat_natCast,xLC,xLN,Nat.zero_add,nA]at q)
    | ((with_reducible refine Mir.bindCT fun _ q=>?_);try simp only[Int.reduceToNat,Int.reduceLT,Nat.sub_zero,dp0,Int.toNat_natCast,xLC,xLN,Nat.zero_add,nA]at q)
    | ((with_reducible refine Mir.bindG fun _ q=>?_);try simp only[Int.reduceToNat,Int.reduceLT,Nat.sub_zero,dp0,Int.toNat_natCast]at q)
    | ((fail_if_success with_reducible refine Mir.isC ?_);(fail_if_success with_reducible refine Mir.isB ?_);(fail_if_success with_reducible refine Mir.isR ?_);with_reducible refine Mir.bind fun _ _=>?_)
    | with_reducible refine Mir.iteR (fun _=>?_) (fun _=>?_)
    | with_reducible refine Mir.seqK ?_
    | with_reducible refine Mir.block ?_
    | ((with_reducible refine Mir.rg fun _ _=>?_);simp only[seval,EMA])
    | ((with_reducible refine Mir.rgD [] ?_ (fun _ _=>?_));(focus kernel_rfl);simp only[seval,EMA,SB, *])
    | ((with_reducible refine SWs.regionQ ?_);simp only[seval,EMA])
    | with_reducible refine Mir.toK ?_
    | with_reducible refine Mir.toB ?_
    | with_reducible refine Mir.toN ?_
    | with_reducible refine Mir.skip ?_
    | with_reducible refine Mir.exit ?_
    | with_reducible refine Mir.ret ?_
    | with_reducible exact QA
    | ((with_reducible refine aY.inlH ‹iF _ _ _ _=some _› fun q=>?_);refine aY.inlA q ?_ ?_)
    | ((with_reducible refine aY.byJ fun z=>?_);(with_reducible refine aY.by (z (h:=‹_›)) ?_ ?_);(focus (simp only[seval,FMA];done));try simp only[seval,EMA, *])
    | ((with_reducible refine aY.byJ fun z=>?_);focus ((with_reducible apply aY.by (z (h:=?_)));(focus exact rfl);rotate_right;(focus assumption);try simp only[seval,EMA, *]))
    | ((with_reducible refine aY.byJ fun z=>?_);(with_reducible refine aY.by (z (h:=‹_›)) ?_ ?_);(focus (simp only[seval,FMA, *];done));try simp only[seval,EMA, *])
    | ((with_reducible refine aY.byJ fun z=>?_);(with_reducible refine aY.byF (z (h:=‹_›)) ?_ ?_);(focus (simp only[seval,FMA, *];done));try simp only[seval,EMA, *])
    | ((with_reducible refine Spec.byJ fun z=>?_);(with_reducible refine Spec.by (z (h:=‹_›)) ?_ ?_);(focus (simp only[seval,FMA];done));try simp only[seval,EMA,SB, *])
    | ((with_reducible refine Spec.byJ fun z=>?_);focus ((with_reducible apply Spec.by (z (h:=?_)));(focus exact rfl);rotate_right;(focus assumption);try simp only[seval,EMA,SB, *]))
    | ((with_reducible refine Spec.byJ fun z=>?_);(with_reducible refine Spec.by (z (h:=‹_›)) ?_ ?_);(focus (simp only[seval,FMA, *];done));try simp only[seval,EMA,SB, *])
    | ((with_reducible refine Spec.byJ fun z=>?_);(with_reducible refine Spec.byF (z (h:=‹_›)) ?_ ?_);(focus (simp only[seval,FMA, *];done));try simp only[seval,EMA,SB, *])
    | with_reducible refine mUH _ ?_ ‹Hm _ _›
    | with_reducible refine Mir.useNH ?_ ‹Hm _ _›
    | with_reducible refine mU _ ?_ ‹_›
    | ((with_reducible apply ifNt);(focus assumption);try simp only[seval,EMA,SL,PB, *])
    | ((with_reducible apply ifNf);(focus assumption);try simp only[seval,EMA,SL,PB, *])
    | ((with_reducible apply ifTt);(focus assumption);try simp only[seval,EMA,SL,PB, *])
    | ((with_reducible apply ifTf);(focus assumption);try simp only[seval,EMA,SL,PB, *])
    | ((with_reducible refine isIf ?_);focus (simp only[seval,EMA,SL,PB, *]))
    | ((with_reducible apply optNZ);(focus assumption);try simp only[seval,EMA,SB, *])
    | ((with_reducible refine ifNn (fun _=>?_) (fun _=>?_))<;>try simp only[seval,EMA,SL,PB, *])
    | ((with_reducible refine ifTn (fun _=>?_) (fun _=>?_))<;>try simp only[seval,EMA,SL,PB, *])
    | ((with_reducible refine ifN (fun _=>?_) (fun _=>?_))<;>try simp only[seval,EMA,SL,PB, *])
    | ((with_reducible refine ifT (fun _=>?_) (fun _=>?_))<;>try simp only[seval,EMA,SL,PB, *])
    | ((with_reducible refine ifB (fun _=>?_) (fun _=>?_))<;>try simp only[seval,EMA,SL,PB, *])
    | with_reducible exact fun _ q=>Option.some.inj q▸(by simp only[seval,FMA, *])
    | focus (have q:some _=some _:=‹Hm (some _) _›;cases q;simp only[seval,FMA];done)
    | focus (have q:some _=some _:=‹Hm (some _) _›;cases q;simp only[seval,FMA, *];done)
    | focus (have q:some _=some _:=‹Hm (some _) _›;cases q;simp only[seval,EMA, *];done)
    | focus (cases ‹some _=some _›;simp only[seval,FMA];done)
    | focus (cases ‹some _=some _›;simp only[seval,FMA, *];done)
    | exact (bZ ‹(!_)=false› ‹_=false›).elim
    | exact (bW ‹(!_)=true› ‹_=true›).elim
    | exact (bX ‹_=true› ‹_=false›).elim
    | exact (bY ‹_=false› ‹_=true›).elim
    | with_reducible refine fun _=>?_
    | ((with_reducible refine isOpt ?_);simp only[seval,EMA,SL,SB,PB,glT,Nat.le_refl,Nat.sub_zero,Int.toNat_natCast, *])
    | ((with_reducible refine isOpt ?_);(have q:=eq_of_beq ‹((_:Int)==_)=true›);simp only[seval,EMA,SL,PB,q])
    | ((fail_if_success with_reducible refine Mir.isM ?_);focus (simp only[seval,EMA,SL,PB, *]))
    )):p:=h
abbrev Ct{ρ:Type}(f:FuncId)(args:List V)(en:ρ→V)(m:Option ρ):Prop:=∀(y:ρ) (h:m=some y),Spec gP f args (en y)
theorem zzF{en:ρ→V}{m k:Option ρ}(hf:Tryz.prog.funcs[f]? = some fn)(hq:m=k)(hb:fn.body=some c:=by rfl)(he:bG Tryz.prog f=true:=by kernel_rfl)(hd:bP c=true:=by kernel_rfl)(e:args++List.replicate (fn.ntmps-args.length) .undef=fr:=by simp only[List.replicate,List.length,nS,nA,SV,TMA];rfl)(h:Mir gP c fr ⟨[],[]⟩ k (fnQ gP fn.results.toList en):=by exact zzA):Ct f args en m:=fun _ hy=>jq hf hb he hd en (e▸h) (hq▸hy)
end Go.Proofs.YtjemmjpdmbenkaaGreatDoor
