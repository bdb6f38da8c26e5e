import Derived.Test.YtphbhdoljnokkaaGreatDoorG1
import Derived.Test.YtphbhdoljnokkaaGreatDoorTy
import Derived.Test.YtphbhdoljnokkaaGreatDoorGz
import Derived.Test.YtphbhdoljnokkaaGreatDoorSzz
import Derived.Test.YtphbhdoljnokkaaGreatDoorSzn
import Derived.Test.YtphbhdoljnokkaaGreatDoorWi
import Derived.Test.YtphbhdoljnokkaaGreatDoorLn
import Derived.Test.YtphbhdoljnokkaaGreatDoorBu
import Derived.Test.YtphbhdoljnokkaaGreatDoorSzj2
import Derived.Test.YtphbhdoljnokkaaGreatDoorLb
import Derived.Test.YtphbhdoljnokkaaGreatDoorSzk
import Derived.Test.YtphbhdoljnokkaaGreatDoorGog
import Derived.Test.YtphbhdoljnokkaaGreatDoorAu
open And renaming intro → zA
open List renaming map → zB,all_eq_true → zD
namespace Go.Proofs.YtphbhdoljnokkaaGreatDoor
set_option linter.defProp false
open Go.RowKit
open Nat renaming reduceAdd → nA,reduceSub → nS,reduceMul → nM,reduceEqDiff → nE,reduceLeDiff → nL,reduceLT → nT,reduceBEq → nB
open Int renaming reduceLT → iT,reduceToNat → iN,reduceEq → iE
set_option linter.unusedVariables false
set_option linter.unusedSimpArgs false
set_option maxRecDepth 100000
set_option maxHeartbeats 8000000
structure am where
 Neg:Bool
 Limbs:(List Int)
 deriving DecidableEq
def encApiInt(x:am):List D:=[.bool x.Neg,.list (zB (eInt .u32) x.Limbs)]
structure ah where
 Num:am
 Den:am
 deriving DecidableEq
def encApiRat(x:ah):List D:=[.bool x.Num.Neg,.list (zB (eInt .u32) x.Num.Limbs),.bool x.Den.Neg,.list (zB (eInt .u32) x.Den.Limbs)]
structure aL where
 A:ah
 B:ah
 C:ah
 deriving DecidableEq
def encApiRoot(x:aL):List D:=[.bool x.A.Num.Neg,.list (zB (eInt .u32) x.A.Num.Limbs),.bool x.A.Den.Neg,.list (zB (eInt .u32) x.A.Den.Limbs),.bool x.B.Num.Neg,.list (zB (eInt .u32) x.B.Num.Limbs),.bool x.B.Den.Neg,.list (zB (eInt .u32) x.B.Den.Limbs),.bool x.C.Num.Neg,.list (zB (eInt .u32) x.C.Num.Limbs),.bool x.C.Den.Neg,.list (zB (eInt .u32) x.C.Den.Limbs)]
structure ak where
 Low:Int
 High:Int
 deriving DecidableEq
def encFilterInterval(x:ak):List D:=[.int .i64 x.Low,.int .i64 x.High]
structure fu where
 A:ah
 B:ah
 C:ah
 D:ah
 M:ah
 N:ah
 deriving DecidableEq
def encApiQuad(x:fu):List D:=[.bool x.A.Num.Neg,.list (zB (eInt .u32) x.A.Num.Limbs),.bool x.A.Den.Neg,.list (zB (eInt .u32) x.A.Den.Limbs),.bool x.B.Num.Neg,.list (zB (eInt .u32) x.B.Num.Limbs),.bool x.B.Den.Neg,.list (zB (eInt .u32) x.B.Den.Limbs),.bool x.C.Num.Neg,.list (zB (eInt .u32) x.C.Num.Limbs),.bool x.C.Den.Neg,.list (zB (eInt .u32) x.C.Den.Limbs),.bool x.D.Num.Neg,.list (zB (eInt .u32) x.D.Num.Limbs),.bool x.D.Den.Neg,.list (zB (eInt .u32) x.D.Den.Limbs),.bool x.M.Num.Neg,.list (zB (eInt .u32) x.M.Num.Limbs),.bool x.M.Den.Neg,.list (zB (eInt .u32) x.M.Den.Limbs),.bool x.N.Num.Neg,.list (zB (eInt .u32) x.N.Num.Limbs),.bool x.N.Den.Neg,.list (zB (eInt .u32) x.N.Den.Limbs)]
structure aI where
 X:ah
 Y:ah
 deriving DecidableEq
def encApiVec(x:aI):List D:=[.bool x.X.Num.Neg,.list (zB (eInt .u32) x.X.Num.Limbs),.bool x.X.Den.Neg,.list (zB (eInt .u32) x.X.Den.Limbs),.bool x.Y.Num.Neg,.list (zB (eInt .u32) x.Y.Num.Limbs),.bool x.Y.Den.Neg,.list (zB (eInt .u32) x.Y.Den.Limbs)]
structure ag where
 X:Int
 Y:Int
 Z:Int
 deriving DecidableEq
def dc(x:ag):List D:=[.int .i64 x.X,.int .i64 x.Y,.int .i64 x.Z]
theorem al_ApiPos{l:List ag}:(zB dc l).all (λx=>x.length==3)=true:=by simp[zD,dc]
structure aO where
 From:ag
 To:ag
 Radius:Int
 deriving DecidableEq
def de(x:aO):List D:=[.int .i64 x.From.X,.int .i64 x.From.Y,.int .i64 x.From.Z,.int .i64 x.To.X,.int .i64 x.To.Y,.int .i64 x.To.Z,.int .i64 x.Radius]
theorem al_MaterialCut{l:List aO}:(zB de l).all (λx=>x.length==7)=true:=by simp[zD,de]
structure cf where
 Number:Int
 Kind:Int
 Radius:Int
 Flute:Int
 Holder:Int
 Step:Int
 Feed:Int
 Plunge:Int
 deriving DecidableEq
def eO(x:cf):List D:=[.int .i64 x.Number,.int .i64 x.Kind,.int .i64 x.Radius,.int .i64 x.Flute,.int .i64 x.Holder,.int .i64 x.Step,.int .i64 x.Feed,.int .i64 x.Plunge]
theorem al_ApiTool{l:List cf}:(zB eO l).all (λx=>x.length==8)=true:=by simp[zD,eO]
structure aq where
 From:ag
 To:ag
 Rate:Int
 Tool:Int
 Block:Int
 deriving DecidableEq
def aS(x:aq):List D:=[.int .i64 x.From.X,.int .i64 x.From.Y,.int .i64 x.From.Z,.int .i64 x.To.X,.int .i64 x.To.Y,.int .i64 x.To.Z,.int .i64 x.Rate,.int .i64 x.Tool,.int .i64 x.Block]
theorem po{l:List aq}:(zB aS l).all (λx=>x.length==9)=true:=by simp[zD,aS]
structure mw where
 X:Int
 Y:Int
 D:Int
 deriving DecidableEq
def encR07Spot(x:mw):List D:=[.int .i16 x.X,.int .i16 x.Y,.int .u8 x.D]
structure dh where
 X:Int
 Y:Int
 deriving DecidableEq
def encApiGrid2(x:dh):List D:=[.int .i64 x.X,.int .i64 x.Y]
structure aH where
 Kind:Int
 To:ag
 Center:dh
 Rate:Int
 deriving DecidableEq
def fQ(x:aH):List D:=[.int .i64 x.Kind,.int .i64 x.To.X,.int .i64 x.To.Y,.int .i64 x.To.Z,.int .i64 x.Center.X,.int .i64 x.Center.Y,.int .i64 x.Rate]
structure bC where
 Tool:Int
 Moves:(List aH)
 deriving DecidableEq
def cb(x:bC):List D:=[.int .i64 x.Tool,.list (zB fQ x.Moves)]
structure dP where
 Work:Int
 Compress:Bool
 Numbers:Int
 Fold:Int
 deriving DecidableEq
def encPostOptions(x:dP):List D:=[.int .i64 x.Work,.bool x.Compress,.int .i64 x.Numbers,.int .i64 x.Fold]
structure aC where
 Letter:Int
 Value:Int
 deriving DecidableEq
def az(x:aC):List D:=[.int .u8 x.Letter,.int .i64 x.Value]
theorem al_ApiWord{l:List aC}:(zB az l).all (λx=>x.length==2)=true:=by simp[zD,az]
structure ae where
 Skip:Bool
 Words:(List aC)
 Comment:(List UInt8)
 deriving DecidableEq
def al(x:ae):List D:=[.bool x.Skip,.list (zB az x.Words),.str x.Comment]
theorem al_ApiBlock{l:List ae}:(zB al l).all (λx=>x.length==3)=true:=by simp[zD,al]
structure ao where
 Motion:Int
 Distance:Int
 Work:Int
 Length:Int
 Return:Int
 Feed:Int
 Tool:Int
 Offset:Int
 deriving DecidableEq
def encModalState(x:ao):List D:=[.int .i64 x.Motion,.int .i64 x.Distance,.int .i64 x.Work,.int .i64 x.Length,.int .i64 x.Return,.int .i64 x.Feed,.int .i64 x.Tool,.int .i64 x.Offset]
structure aZ where
 Number:Int
 Length:Int
 deriving DecidableEq
def au(x:aZ):List D:=[.int .i64 x.Number,.int .i64 x.Length]
theorem al_TableLength{l:List aZ}:(zB au l).all (λx=>x.length==2)=true:=by simp[zD,au]
structure pX where
 e0:ag
 e1:ag
 e2:ag
 e3:ag
 e4:ag
 e5:ag
 deriving DecidableEq
abbrev w6(W:pX)(r:List V):List V:=.d (.int .i64 W.e0.X)::.d (.int .i64 W.e0.Y)::.d (.int .i64 W.e0.Z)::.d (.int .i64 W.e1.X)::.d (.int .i64 W.e1.Y)::.d (.int .i64 W.e1.Z)::.d (.int .i64 W.e2.X)::.d (.int .i64 W.e2.Y)::.d (.int .i64 W.e2.Z)::.d (.int .i64 W.e3.X)::.d (.int .i64 W.e3.Y)::.d (.int .i64 W.e3.Z)::.d (.int .i64 W.e4.X)::.d (.int .i64 W.e4.Y)::.d (.int .i64 W.e4.Z)::.d (.int .i64 W.e5.X)::.d (.int .i64 W.e5.Y)::.d (.int .i64 W.e5.Z)::r
def encArr6ApiPos(x:pX):List D:=[.int .i64 x.e0.X,.int .i64 x.e0.Y,.int .i64 x.e0.Z,.int .i64 x.e1.X,.int .i64 x.e1.Y,.int .i64 x.e1.Z,.int .i64 x.e2.X,.int .i64 x.e2.Y,.int .i64 x.e2.Z,.int .i64 x.e3.X,.int .i64 x.e3.Y,.int .i64 x.e3.Z,.int .i64 x.e4.X,.int .i64 x.e4.Y,.int .i64 x.e4.Z,.int .i64 x.e5.X,.int .i64 x.e5.Y,.int .i64 x.e5.Z]
structure aw where
 Work:pX
 Lengths:(List aZ)
 deriving DecidableEq
def encTableTable(x:aw):List D:=[.int .i64 x.Work.e0.X,.int .i64 x.Work.e0.Y,.int .i64 x.Work.e0.Z,.int .i64 x.Work.e1.X,.int .i64 x.Work.e1.Y,.int .i64 x.Work.e1.Z,.int .i64 x.Work.e2.X,.int .i64 x.Work.e2.Y,.int .i64 x.Work.e2.Z,.int .i64 x.Work.e3.X,.int .i64 x.Work.e3.Y,.int .i64 x.Work.e3.Z,.int .i64 x.Work.e4.X,.int .i64 x.Work.e4.Y,.int .i64 x.Work.e4.Z,.int .i64 x.Work.e5.X,.int .i64 x.Work.e5.Y,.int .i64 x.Work.e5.Z,.list (zB au x.Lengths)]
structure aQ where
 Block:Int
 Code:Int
 deriving DecidableEq
def qP(x:aQ):List D:=[.int .i64 x.Block,.int .i64 x.Code]
structure cc where
 s:(List UInt8)
 at_:Int
 b:ae
 deriving DecidableEq
def encBlockParser(x:cc):List D:=[.str x.s,.int .i64 x.at_,.bool x.b.Skip,.list (zB az x.b.Words),.str x.b.Comment]
structure dg where
 Number:Int
 Blocks:(List ae)
 deriving DecidableEq
def bV(x:dg):List D:=[.int .i64 x.Number,.list (zB al x.Blocks)]
structure bz where
 Main:(List ae)
 Subs:(List dg)
 deriving DecidableEq
def p8(x:bz):List D:=[.list (zB al x.Main),.list (zB bV x.Subs)]
structure av where
 Code:Int
 R:Int
 Z:Int
 Q:Int
 Rate:Int
 Initial:Int
 High:Bool
 deriving DecidableEq
def encCycleCycle(x:av):List D:=[.int .i64 x.Code,.int .i64 x.R,.int .i64 x.Z,.int .i64 x.Q,.int .i64 x.Rate,.int .i64 x.Initial,.bool x.High]
structure ar where
 at_:ag
 rate:Int
 deriving DecidableEq
def bR(x:ar):List D:=[.int .i64 x.at_.X,.int .i64 x.at_.Y,.int .i64 x.at_.Z,.int .i64 x.rate]
theorem pn{l:List ar}:(zB bR l).all (λx=>x.length==4)=true:=by simp[zD,bR]
structure ck where
 Stages:(List bC)
 Start:ag
 Offset:ag
 deriving DecidableEq
def oc(x:ck):List D:=[.list (zB cb x.Stages),.int .i64 x.Start.X,.int .i64 x.Start.Y,.int .i64 x.Start.Z,.int .i64 x.Offset.X,.int .i64 x.Offset.Y,.int .i64 x.Offset.Z]
def RMX:=zA @rmap_set<|zA @spD<|zA @xMA<|@xLA
abbrev dI(x:Int):V:=.d (.int .i64 x)
abbrev dB(x:Bool):V:=.d (.bool x)
abbrev dS(x:List UInt8):V:=.d (.str x)
abbrev dL{α:Type}(f:α→List D)(x:List α):V:=.d (.list (zB f x))
abbrev cZ:List V:=[dI 0,dI 0,dI 0,dI 0,dI 0,dI 0,dI 0,dI 0]
abbrev dA:List V:=[dI 0,dI 0,dI 0]
abbrev dC:List V:=[dI 0,dI 0,dI 0,dI 0,dI 0,dI 0,dB false]
abbrev dD:List V:=[dI 0,dI 0]
abbrev cA(x:bz):List V:=[.d (.list (zB al x.Main)),.d (.list (zB bV x.Subs))]
abbrev cB(x:ae):List V:=[.d (.bool x.Skip),.d (.list (zB az x.Words)),.d (.str x.Comment)]
abbrev cC(x:aC):List V:=[.d (.int .u8 x.Letter),.d (.int .i64 x.Value)]
abbrev cD(x:ao):List V:=[.d (.int .i64 x.Motion),.d (.int .i64 x.Distance),.d (.int .i64 x.Work),.d (.int .i64 x.Length),.d (.int .i64 x.Return),.d (.int .i64 x.Feed),.d (.int .i64 x.Tool),.d (.int .i64 x.Offset)]
abbrev cE(x:aZ):List V:=[.d (.int .i64 x.Number),.d (.int .i64 x.Length)]
abbrev cF(x:ag):List V:=[.d (.int .i64 x.X),.d (.int .i64 x.Y),.d (.int .i64 x.Z)]
abbrev cG(x:aH):List V:=[.d (.int .i64 x.Kind),.d (.int .i64 x.To.X),.d (.int .i64 x.To.Y),.d (.int .i64 x.To.Z),.d (.int .i64 x.Center.X),.d (.int .i64 x.Center.Y),.d (.int .i64 x.Rate)]
abbrev cH(x:av):List V:=[.d (.int .i64 x.Code),.d (.int .i64 x.R),.d (.int .i64 x.Z),.d (.int .i64 x.Q),.d (.int .i64 x.Rate),.d (.int .i64 x.Initial),.d (.bool x.High)]
abbrev cJ(x:ar):List V:=[.d (.int .i64 x.at_.X),.d (.int .i64 x.at_.Y),.d (.int .i64 x.at_.Z),.d (.int .i64 x.rate)]
abbrev cK(x:aQ):List V:=[.d (.int .i64 x.Block),.d (.int .i64 x.Code)]
abbrev cL(x:dP):List V:=[.d (.int .i64 x.Work),.d (.bool x.Compress),.d (.int .i64 x.Numbers),.d (.int .i64 x.Fold)]
abbrev cM(x:dh):List V:=[.d (.int .i64 x.X),.d (.int .i64 x.Y)]
abbrev cN(x:bC):List V:=[.d (.int .i64 x.Tool),.d (.list (zB fQ x.Moves))]
abbrev cO(x:dg):List V:=[.d (.int .i64 x.Number),.d (.list (zB al x.Blocks))]
abbrev cP(x:ah):List V:=[.d (.bool x.Num.Neg),.d (.list (zB (eInt .u32) x.Num.Limbs)),.d (.bool x.Den.Neg),.d (.list (zB (eInt .u32) x.Den.Limbs))]
abbrev cQ(x:aI):List V:=[.d (.bool x.X.Num.Neg),.d (.list (zB (eInt .u32) x.X.Num.Limbs)),.d (.bool x.X.Den.Neg),.d (.list (zB (eInt .u32) x.X.Den.Limbs)),.d (.bool x.Y.Num.Neg),.d (.list (zB (eInt .u32) x.Y.Num.Limbs)),.d (.bool x.Y.Den.Neg),.d (.list (zB (eInt .u32) x.Y.Den.Limbs))]
abbrev cR(x:aO):List V:=[.d (.int .i64 x.From.X),.d (.int .i64 x.From.Y),.d (.int .i64 x.From.Z),.d (.int .i64 x.To.X),.d (.int .i64 x.To.Y),.d (.int .i64 x.To.Z),.d (.int .i64 x.Radius)]
abbrev cS(x:aL):List V:=[.d (.bool x.A.Num.Neg),.d (.list (zB (eInt .u32) x.A.Num.Limbs)),.d (.bool x.A.Den.Neg),.d (.list (zB (eInt .u32) x.A.Den.Limbs)),.d (.bool x.B.Num.Neg),.d (.list (zB (eInt .u32) x.B.Num.Limbs)),.d (.bool x.B.Den.Neg),.d (.list (zB (eInt .u32) x.B.Den.Limbs)),.d (.bool x.C.Num.Neg),.d (.list (zB (eInt .u32) x.C.Num.Limbs)),.d (.bool x.C.Den.Neg),.d (.list (zB (eInt .u32) x.C.Den.Limbs))]
abbrev cT(x:ck):List V:=[.d (.list (zB cb x.Stages)),.d (.int .i64 x.Start.X),.d (.int .i64 x.Start.Y),.d (.int .i64 x.Start.Z),.d (.int .i64 x.Offset.X),.d (.int .i64 x.Offset.Y),.d (.int .i64 x.Offset.Z)]
abbrev cU(x:am):List V:=[.d (.bool x.Neg),.d (.list (zB (eInt .u32) x.Limbs))]
abbrev cV(x:mw):List V:=[.d (.int .i16 x.X),.d (.int .i16 x.Y),.d (.int .u8 x.D)]
abbrev cW(x:ak):List V:=[.d (.int .i64 x.Low),.d (.int .i64 x.High)]
abbrev cX(x:fu):List V:=[.d (.bool x.A.Num.Neg),.d (.list (zB (eInt .u32) x.A.Num.Limbs)),.d (.bool x.A.Den.Neg),.d (.list (zB (eInt .u32) x.A.Den.Limbs)),.d (.bool x.B.Num.Neg),.d (.list (zB (eInt .u32) x.B.Num.Limbs)),.d (.bool x.B.Den.Neg),.d (.list (zB (eInt .u32) x.B.Den.Limbs)),.d (.bool x.C.Num.Neg),.d (.list (zB (eInt .u32) x.C.Num.Limbs)),.d (.bool x.C.Den.Neg),.d (.list (zB (eInt .u32) x.C.Den.Limbs)),.d (.bool x.D.Num.Neg),.d (.list (zB (eInt .u32) x.D.Num.Limbs)),.d (.bool x.D.Den.Neg),.d (.list (zB (eInt .u32) x.D.Den.Limbs)),.d (.bool x.M.Num.Neg),.d (.list (zB (eInt .u32) x.M.Num.Limbs)),.d (.bool x.M.Den.Neg),.d (.list (zB (eInt .u32) x.M.Den.Limbs)),.d (.bool x.N.Num.Neg),.d (.list (zB (eInt .u32) x.N.Num.Limbs)),.d (.bool x.N.Den.Neg),.d (.list (zB (eInt .u32) x.N.Den.Limbs))]
abbrev cY(x:cf):List V:=[.d (.int .i64 x.Number),.d (.int .i64 x.Kind),.d (.int .i64 x.Radius),.d (.int .i64 x.Flute),.d (.int .i64 x.Holder),.d (.int .i64 x.Step),.d (.int .i64 x.Feed),.d (.int .i64 x.Plunge)]
def ENMA:=zA @encApiInt.eq_1<|zA @encApiRat.eq_1<|zA @encApiRoot.eq_1<|zA @encFilterInterval.eq_1<|zA @encApiQuad.eq_1<|zA @encApiVec.eq_1<|zA @dc.eq_1<|zA @de.eq_1<|zA @eO.eq_1<|zA @aS.eq_1<|zA @encR07Spot.eq_1<|zA @encApiGrid2.eq_1<|zA @fQ.eq_1<|zA @cb.eq_1<|zA @encPostOptions.eq_1<|zA @az.eq_1<|zA @al.eq_1<|zA @encModalState.eq_1<|zA @au.eq_1<|zA @encArr6ApiPos.eq_1<|zA @encTableTable.eq_1<|zA @qP.eq_1<|zA @encBlockParser.eq_1<|zA @bV.eq_1<|zA @p8.eq_1<|zA @encCycleCycle.eq_1<|zA @bR.eq_1<|zA @oc.eq_1<|zA @wrL<|zA @okLl<|zA @bytes_enc<|zA @dm<|@tm
def TMA:=zA @Tryz.ntmps10<|zA @Tryz.ntmps100<|zA @Tryz.ntmps101<|zA @Tryz.ntmps102<|zA @Tryz.ntmps103<|zA @Tryz.ntmps104<|zA @Tryz.ntmps105<|zA @Tryz.ntmps106<|zA @Tryz.ntmps107<|zA @Tryz.ntmps108<|zA @Tryz.ntmps109<|zA @Tryz.ntmps11<|zA @Tryz.ntmps110<|zA @Tryz.ntmps111<|zA @Tryz.ntmps112<|zA @Tryz.ntmps113<|zA @Tryz.ntmps114<|zA @Tryz.ntmps115<|zA @Tryz.ntmps116<|zA @Tryz.ntmps117<|zA @Tryz.ntmps118<|zA @Tryz.ntmps119<|zA @Tryz.ntmps12<|zA @Tryz.ntmps120<|zA @Tryz.ntmps121<|zA @Tryz.ntmps122<|zA @Tryz.ntmps123<|zA @Tryz.ntmps124<|zA @Tryz.ntmps13<|zA @Tryz.ntmps130<|zA @Tryz.ntmps132<|zA @Tryz.ntmps133<|zA @Tryz.ntmps136<|zA @Tryz.ntmps137<|zA @Tryz.ntmps138<|zA @Tryz.ntmps139<|zA @Tryz.ntmps14<|zA @Tryz.ntmps140<|zA @Tryz.ntmps144<|zA @Tryz.ntmps145<|zA @Tryz.ntmps146<|zA @Tryz.ntmps148<|zA @Tryz.ntmps149<|zA @Tryz.ntmps15<|zA @Tryz.ntmps150<|zA @Tryz.ntmps151<|zA @Tryz.ntmps153<|zA @Tryz.ntmps154<|zA @Tryz.ntmps155<|zA @Tryz.ntmps156<|zA @Tryz.ntmps157<|zA @Tryz.ntmps158<|zA @Tryz.ntmps159<|zA @Tryz.ntmps16<|zA @Tryz.ntmps160<|zA @Tryz.ntmps161<|zA @Tryz.ntmps162<|zA @Tryz.ntmps163<|zA @Tryz.ntmps164<|zA @Tryz.ntmps166<|zA @Tryz.ntmps167<|zA @Tryz.ntmps168<|zA @Tryz.ntmps169<|zA @Tryz.ntmps17<|zA @Tryz.ntmps170<|zA @Tryz.ntmps171<|zA @Tryz.ntmps172<|zA @Tryz.ntmps173<|zA @Tryz.ntmps174<|zA @Tryz.ntmps175<|zA @Tryz.ntmps176<|zA @Tryz.ntmps177<|zA @Tryz.ntmps178<|zA @Tryz.ntmps179<|zA @Tryz.ntmps18<|zA @Tryz.ntmps180<|zA @Tryz.ntmps181<|zA @Tryz.ntmps182<|zA @Tryz.ntmps183<|zA @Tryz.ntmps184<|zA @Tryz.ntmps185<|zA @Tryz.ntmps186<|zA @Tryz.ntmps187<|zA @Tryz.ntmps188<|zA @Tryz.ntmps189<|zA @Tryz.ntmps19<|zA @Tryz.ntmps190<|zA @Tryz.ntmps191<|zA @Tryz.ntmps192<|zA @Tryz.ntmps193<|zA @Tryz.ntmps194<|zA @Tryz.ntmps195<|zA @Tryz.ntmps199<|zA @Tryz.ntmps20<|zA @Tryz.ntmps204<|zA @Tryz.ntmps205<|zA @Tryz.ntmps206<|zA @Tryz.ntmps207<|zA @Tryz.ntmps208<|zA @Tryz.ntmps209<|zA @Tryz.ntmps21<|zA @Tryz.ntmps210<|zA @Tryz.ntmps211<|zA @Tryz.ntmps212<|zA @Tryz.ntmps213<|zA @Tryz.ntmps215<|zA @Tryz.ntmps216<|zA @Tryz.ntmps217<|zA @Tryz.ntmps219<|zA @Tryz.ntmps22<|zA @Tryz.ntmps221<|zA @Tryz.ntmps222<|zA @Tryz.ntmps223<|zA @Tryz.ntmps224<|zA @Tryz.ntmps225<|zA @Tryz.ntmps226<|zA @Tryz.ntmps227<|zA @Tryz.ntmps228<|zA @Tryz.ntmps229<|zA @Tryz.ntmps23<|zA @Tryz.ntmps231<|zA @Tryz.ntmps232<|zA @Tryz.ntmps233<|zA @Tryz.ntmps234<|zA @Tryz.ntmps235<|zA @Tryz.ntmps236<|zA @Tryz.ntmps237<|zA @Tryz.ntmps238<|zA @Tryz.ntmps239<|zA @Tryz.ntmps24<|zA @Tryz.ntmps25<|zA @Tryz.ntmps251<|zA @Tryz.ntmps253<|zA @Tryz.ntmps254<|zA @Tryz.ntmps257<|zA @Tryz.ntmps258<|zA @Tryz.ntmps259<|zA @Tryz.ntmps26<|zA @Tryz.ntmps260<|zA @Tryz.ntmps261<|zA @Tryz.ntmps262<|zA @Tryz.ntmps263<|zA @Tryz.ntmps264<|zA @Tryz.ntmps265<|zA @Tryz.ntmps266<|zA @Tryz.ntmps267<|zA @Tryz.ntmps268<|zA @Tryz.ntmps269<|zA @Tryz.ntmps27<|zA @Tryz.ntmps270<|zA @Tryz.ntmps271<|zA @Tryz.ntmps272<|zA @Tryz.ntmps273<|zA @Tryz.ntmps28<|zA @Tryz.ntmps284<|zA @Tryz.ntmps285<|zA @Tryz.ntmps287<|zA @Tryz.ntmps29<|zA @Tryz.ntmps293<|zA @Tryz.ntmps294<|zA @Tryz.ntmps295<|zA @Tryz.ntmps296<|zA @Tryz.ntmps297<|zA @Tryz.ntmps298<|zA @Tryz.ntmps299<|zA @Tryz.ntmps3<|zA @Tryz.ntmps30<|zA @Tryz.ntmps300<|zA @Tryz.ntmps309<|zA @Tryz.ntmps31<|zA @Tryz.ntmps313<|zA @Tryz.ntmps314<|zA @Tryz.ntmps315<|zA @Tryz.ntmps32<|zA @Tryz.ntmps321<|zA @Tryz.ntmps33<|zA @Tryz.ntmps330<|zA @Tryz.ntmps34<|zA @Tryz.ntmps35<|zA @Tryz.ntmps36<|zA @Tryz.ntmps37<|zA @Tryz.ntmps38<|zA @Tryz.ntmps39<|zA @Tryz.ntmps4<|zA @Tryz.ntmps40<|zA @Tryz.ntmps41<|zA @Tryz.ntmps42<|zA @Tryz.ntmps43<|zA @Tryz.ntmps44<|zA @Tryz.ntmps45<|zA @Tryz.ntmps46<|zA @Tryz.ntmps47<|zA @Tryz.ntmps49<|zA @Tryz.ntmps5<|zA @Tryz.ntmps53<|zA @Tryz.ntmps57<|zA @Tryz.ntmps58<|zA @Tryz.ntmps6<|zA @Tryz.ntmps60<|zA @Tryz.ntmps61<|zA @Tryz.ntmps62<|zA @Tryz.ntmps63<|zA @Tryz.ntmps64<|zA @Tryz.ntmps65<|zA @Tryz.ntmps7<|zA @Tryz.ntmps70<|zA @Tryz.ntmps71<|zA @Tryz.ntmps72<|zA @Tryz.ntmps73<|zA @Tryz.ntmps76<|zA @Tryz.ntmps77<|zA @Tryz.ntmps78<|zA @Tryz.ntmps79<|zA @Tryz.ntmps8<|zA @Tryz.ntmps80<|zA @Tryz.ntmps81<|zA @Tryz.ntmps82<|zA @Tryz.ntmps83<|zA @Tryz.ntmps84<|zA @Tryz.ntmps85<|zA @Tryz.ntmps86<|zA @Tryz.ntmps87<|zA @Tryz.ntmps88<|zA @Tryz.ntmps89<|zA @Tryz.ntmps9<|zA @Tryz.ntmps90<|zA @Tryz.ntmps91<|zA @Tryz.ntmps92<|zA @Tryz.ntmps93<|zA @Tryz.ntmps94<|zA @Tryz.ntmps95<|zA @Tryz.ntmps96<|zA @Tryz.ntmps97<|zA @Tryz.ntmps98<|zA @Tryz.ntmps99<|zA @Tryz.results10<|zA @Tryz.results100<|zA @Tryz.results101<|zA @Tryz.results102<|zA @Tryz.results103<|zA @Tryz.results104<|zA @Tryz.results105<|zA @Tryz.results106<|zA @Tryz.results107<|zA @Tryz.results108<|zA @Tryz.results109<|zA @Tryz.results11<|zA @Tryz.results110<|zA @Tryz.results111<|zA @Tryz.results112<|zA @Tryz.results113<|zA @Tryz.results114<|zA @Tryz.results115<|zA @Tryz.results116<|zA @Tryz.results117<|zA @Tryz.results118<|zA @Tryz.results119<|zA @Tryz.results12<|zA @Tryz.results120<|zA @Tryz.results121<|zA @Tryz.results122<|zA @Tryz.results123<|zA @Tryz.results124<|zA @Tryz.results13<|zA @Tryz.results130<|zA @Tryz.results132<|zA @Tryz.results133<|zA @Tryz.results136<|zA @Tryz.results137<|zA @Tryz.results138<|zA @Tryz.results139<|zA @Tryz.results14<|zA @Tryz.results140<|zA @Tryz.results144<|zA @Tryz.results145<|zA @Tryz.results146<|zA @Tryz.results148<|zA @Tryz.results149<|zA @Tryz.results15<|zA @Tryz.results150<|zA @Tryz.results153<|zA @Tryz.results154<|zA @Tryz.results155<|zA @Tryz.results156<|zA @Tryz.results157<|zA @Tryz.results158<|zA @Tryz.results159<|zA @Tryz.results16<|zA @Tryz.results160<|zA @Tryz.results161<|zA @Tryz.results162<|zA @Tryz.results163<|zA @Tryz.results164<|zA @Tryz.results166<|zA @Tryz.results167<|zA @Tryz.results168<|zA @Tryz.results169<|zA @Tryz.results17<|zA @Tryz.results170<|zA @Tryz.results171<|zA @Tryz.results172<|zA @Tryz.results173<|zA @Tryz.results174<|zA @Tryz.results175<|zA @Tryz.results176<|zA @Tryz.results177<|zA @Tryz.results178<|zA @Tryz.results179<|zA @Tryz.results18<|zA @Tryz.results180<|zA @Tryz.results181<|zA @Tryz.results182<|zA @Tryz.results183<|zA @Tryz.results184<|zA @Tryz.results185<|zA @Tryz.results186<|zA @Tryz.results187<|zA @Tryz.results188<|zA @Tryz.results189<|zA @Tryz.results19<|zA @Tryz.results190<|zA @Tryz.results191<|zA @Tryz.results192<|zA @Tryz.results193<|zA @Tryz.results194<|zA @Tryz.results195<|zA @Tryz.results199<|zA @Tryz.results20<|zA @Tryz.results204<|zA @Tryz.results205<|zA @Tryz.results206<|zA @Tryz.results207<|zA @Tryz.results208<|zA @Tryz.results209<|zA @Tryz.results21<|zA @Tryz.results210<|zA @Tryz.results211<|zA @Tryz.results212<|zA @Tryz.results213<|zA @Tryz.results215<|zA @Tryz.results216<|zA @Tryz.results217<|zA @Tryz.results219<|zA @Tryz.results22<|zA @Tryz.results221<|zA @Tryz.results222<|zA @Tryz.results223<|zA @Tryz.results224<|zA @Tryz.results225<|zA @Tryz.results226<|zA @Tryz.results227<|zA @Tryz.results228<|zA @Tryz.results229<|zA @Tryz.results23<|zA @Tryz.results231<|zA @Tryz.results232<|zA @Tryz.results233<|zA @Tryz.results234<|zA @Tryz.results235<|zA @Tryz.results236<|zA @Tryz.results237<|zA @Tryz.results238<|zA @Tryz.results239<|zA @Tryz.results24<|zA @Tryz.results25<|zA @Tryz.results251<|zA @Tryz.results253<|zA @Tryz.results254<|zA @Tryz.results257<|zA @Tryz.results258<|zA @Tryz.results259<|zA @Tryz.results26<|zA @Tryz.results260<|zA @Tryz.results261<|zA @Tryz.results262<|zA @Tryz.results263<|zA @Tryz.results264<|zA @Tryz.results265<|zA @Tryz.results266<|zA @Tryz.results267<|zA @Tryz.results268<|zA @Tryz.results269<|zA @Tryz.results27<|zA @Tryz.results270<|zA @Tryz.results271<|zA @Tryz.results272<|zA @Tryz.results273<|zA @Tryz.results28<|zA @Tryz.results284<|zA @Tryz.results285<|zA @Tryz.results287<|zA @Tryz.results29<|zA @Tryz.results293<|zA @Tryz.results294<|zA @Tryz.results295<|zA @Tryz.results296<|zA @Tryz.results297<|zA @Tryz.results298<|zA @Tryz.results299<|zA @Tryz.results3<|zA @Tryz.results30<|zA @Tryz.results300<|zA @Tryz.results309<|zA @Tryz.results31<|zA @Tryz.results313<|zA @Tryz.results314<|zA @Tryz.results315<|zA @Tryz.results32<|zA @Tryz.results321<|zA @Tryz.results33<|zA @Tryz.results330<|zA @Tryz.results34<|zA @Tryz.results35<|zA @Tryz.results36<|zA @Tryz.results37<|zA @Tryz.results38<|zA @Tryz.results39<|zA @Tryz.results4<|zA @Tryz.results40<|zA @Tryz.results41<|zA @Tryz.results42<|zA @Tryz.results43<|zA @Tryz.results44<|zA @Tryz.results45<|zA @Tryz.results46<|zA @Tryz.results47<|zA @Tryz.results49<|zA @Tryz.results5<|zA @Tryz.results53<|zA @Tryz.results57<|zA @Tryz.results58<|zA @Tryz.results6<|zA @Tryz.results60<|zA @Tryz.results61<|zA @Tryz.results62<|zA @Tryz.results63<|zA @Tryz.results64<|zA @Tryz.results65<|zA @Tryz.results66<|zA @Tryz.results7<|zA @Tryz.results70<|zA @Tryz.results71<|zA @Tryz.results72<|zA @Tryz.results73<|zA @Tryz.results74<|zA @Tryz.results75<|zA @Tryz.results76<|zA @Tryz.results77<|zA @Tryz.results78<|zA @Tryz.results79<|zA @Tryz.results8<|zA @Tryz.results80<|zA @Tryz.results81<|zA @Tryz.results82<|zA @Tryz.results83<|zA @Tryz.results84<|zA @Tryz.results85<|zA @Tryz.results86<|zA @Tryz.results87<|zA @Tryz.results88<|zA @Tryz.results89<|zA @Tryz.results9<|zA @Tryz.results90<|zA @Tryz.results91<|zA @Tryz.results92<|zA @Tryz.results93<|zA @Tryz.results94<|zA @Tryz.results95<|zA @Tryz.results96<|zA @Tryz.results97<|zA @Tryz.results98<|zA @Tryz.results99<|zA @ag_102<|zA @ag_107<|zA @ag_126<|zA @ag_135<|zA @ag_137<|zA @ag_160<|zA @ag_168<|zA @ag_170<|zA @ag_2<|zA @ag_202<|zA @ag_22<|zA @ag_24<|zA @ag_26<|zA @ag_260<|zA @ag_264<|zA @ag_27<|zA @jF<|zA @ag_29<|zA @ag_3<|zA @ag_324<|zA @ag_341<|zA @ag_36<|zA @ag_4<|zA @ag_40<|zA @ag_44<|zA @ag_46<|zA @ag_5<|zA @ag_50<|zA @ag_55<|zA @ag_57<|zA @ag_59<|zA @ag_61<|zA @ag_66<|zA @ag_74<|zA @ag_76<|zA @ag_77<|zA @ag_79<|zA @ag_81<|zA @ag_85<|zA @ag_86<|zA @ag_9<|zA @ag_93<|zA @ag_95<|zA @al_ApiBlock<|zA @po<|zA @al_ApiPos<|zA @al_ApiTool<|zA @al_ApiWord<|zA @pn<|zA @al_MaterialCut<|zA @al_TableLength<|zA @al_eInt<|zA @al_eStr<|zA @app_135<|zA @app_225<|zA @app_256<|zA @app_38<|zA @app_44<|zA @app_48<|zA @app_52<|zA @og<|zA @app_82<|zA @app_85<|zA @app_86<|zA @eInt.eq_1<|zA @eList.eq_1<|zA @eStr.eq_1<|zA @fld_102_0<|zA @fld_102_1<|zA @fld_107_0<|zA @fld_107_1<|zA @fld_107_2<|zA @fld_126_0<|zA @fld_126_1<|zA @fld_126_2<|zA @fld_126_3<|zA @fld_126_4<|zA @fld_126_5<|zA @fld_126_6<|zA @fld_126_7<|zA @fld_137_0<|zA @fld_137_1<|zA @fld_137_2<|zA @fld_160_0<|zA @fld_168_0<|zA @fld_168_1<|zA @fld_202_0<|zA @fld_202_1<|zA @fld_202_2<|zA @fld_202_3<|zA @fld_202_4<|zA @fld_202_5<|zA @fld_235_0<|zA @fld_235_1<|zA @fld_235_2<|zA @fld_24_0<|zA @fld_24_1<|zA @fld_24_2<|zA @fld_260_0<|zA @fld_260_1<|zA @fld_26_0<|zA @fld_26_1<|zA @fld_26_2<|zA @fld_273_0<|zA @fld_273_1<|zA @fld_29_0<|zA @fld_29_1<|zA @fld_29_2<|zA @fld_317_0<|zA @fld_341_0<|zA @fld_341_1<|zA @fld_36_0<|zA @fld_36_1<|zA @fld_36_2<|zA @fld_36_3<|zA @fld_46_0<|zA @fld_46_1<|zA @fld_50_0<|zA @fld_50_1<|zA @fld_50_2<|zA @fld_50_3<|zA @fld_50_4<|zA @fld_50_5<|zA @fld_50_6<|zA @fld_50_7<|zA @fld_57_0<|zA @fld_57_1<|zA @fld_59_0<|zA @fld_59_1<|zA @fld_61_0<|zA @fld_61_1<|zA @fld_66_0<|zA @fld_66_1<|zA @fld_66_2<|zA @fld_74_0<|zA @fld_74_1<|zA @fld_76_0<|zA @fld_76_1<|zA @fld_76_2<|zA @fld_76_3<|zA @fld_79_0<|zA @fld_79_1<|zA @fld_81_0<|zA @fld_81_1<|zA @fld_81_2<|zA @fld_81_3<|zA @fld_81_4<|zA @fld_95_0<|zA @fld_95_1<|zA @gE_24<|zA @gE_40<|zA @lit_pn<|zA @pl_102<|zA @pl_107<|zA @pl_126<|zA @pl_137<|zA @pl_168<|zA @pl_170<|zA @pl_202<|zA @pl_235<|zA @pl_24<|zA @pl_251<|zA @pl_26<|zA @pl_260<|zA @pl_273<|zA @pl_317<|zA @pl_341<|zA @pl_36<|zA @pl_40<|zA @pl_50<|zA @pl_57<|zA @pl_59<|zA @pl_61<|zA @pl_66<|zA @pl_74<|zA @pl_76<|zA @pl_79<|zA @pl_81<|zA @pl_95<|zA @rmap_set<|zA @spD<|zA @sz_102<|zA @sz_107<|zA @sz_126<|zA @sz_135<|zA @sz_137<|zA @sz_160<|zA @sz_168<|zA @sz_170<|zA @sz_2<|zA @sz_202<|zA @sz_22<|zA @sz_235<|zA @sz_24<|zA @sz_26<|zA @sz_260<|zA @bJ<|zA @sz_27<|zA @jy<|zA @sz_29<|zA @sz_3<|zA @sz_324<|zA @sz_341<|zA @sz_36<|zA @sz_4<|zA @sz_40<|zA @sz_43<|zA @sz_44<|zA @sz_46<|zA @sz_5<|zA @sz_50<|zA @sz_55<|zA @sz_57<|zA @sz_59<|zA @sz_61<|zA @sz_66<|zA @sz_74<|zA @sz_76<|zA @sz_77<|zA @sz_79<|zA @sz_81<|zA @sz_85<|zA @sz_86<|zA @sz_9<|zA @sz_93<|zA @sz_95<|zA @und_132<|zA @und_135<|zA @und_187<|zA @und_2<|zA @und_21<|zA @und_22<|zA @und_225<|zA @und_256<|zA @und_264<|zA @und_27<|zA @und_279<|zA @und_293<|zA @und_3<|zA @und_308<|zA @und_325<|zA @und_335<|zA @und_342<|zA @und_38<|zA @und_4<|zA @und_43<|zA @und_44<|zA @und_48<|zA @und_5<|zA @und_52<|zA @eu<|zA @und_77<|zA @und_82<|zA @und_85<|zA @und_86<|zA @und_9<|zA @und_93<|zA @w_eq<|zA @w_none<|zA @zero_102<|zA @zero_107<|zA @zero_126<|zA @zero_137<|zA @zero_160<|zA @zero_168<|zA @zero_170<|zA @zero_2<|zA @zero_202<|zA @zero_235<|zA @zero_24<|zA @zero_251<|zA @zero_26<|zA @zero_260<|zA @jP<|zA @zero_273<|zA @zero_317<|zA @zero_324<|zA @zero_341<|zA @zero_36<|zA @zero_40<|zA @zero_46<|zA @zero_50<|zA @zero_57<|zA @zero_59<|zA @zero_61<|zA @zero_66<|zA @zero_74<|zA @zero_76<|zA @zero_79<|zA @zero_81<|zA @zero_86<|zA @zero_9<|@zero_95
def EMA:=zA @SE<|zA @ENMA<|@TMA
def FMA:=zA @SF<|zA @ENMA<|@TMA
theorem QA{α:Type}{x:α}{p:α→Prop}(e:p x:=by simp only[seval,FMA]):∀y,some x=some y→p y:=λ_ i=>Option.some.inj i▸e
variable {p:Prop}
theorem WA{q:Prop}(h:q)(e:p=q:=by simp only[seval,EMA];rfl):p:=Eq.mpr e h
variable {P:Program}{c:Code}{fr:Fr}{g:Pg P}{s:Sg}{ε:Type}{Φ:ε→SQ}
theorem mA{m:Option ε}{e:ε}(h:Mir g c fr s m Φ)(i:m=some e)(w:p=SWs g c (Φ e) fr s:=by simp only[seval,EMA];rfl):p:=Eq.mpr w (h e i)
variable {ops:Array Oper}
theorem Mir.sA{g':Pg P}{fr':Fr}{s':Sg}{m:Option ε}{id:Nat}{k:Code}(h:Mir g' c fr' s' m Φ)(e:∀e,regS g false ops ops.toList fr s (kQ g k Φ e .normal)=SWs g' c (Φ e) fr' s':=by intro e;simp only[seval,EMA];rfl):Mir g (.seq (.region id ops false) k) fr s m Φ:=Mir.sR λy i=>Eq.mpr (e y) (h y i)
theorem Mir.rA{x:ε}{id:Nat}(e:regS g false ops ops.toList fr s (Φ x .normal):=by simp only[seval,EMA];simp only[seval,FMA]):Mir g (.region id ops false) fr s (some x) Φ:=Mir.region λ_ i=>Option.some.inj i▸e
theorem bf.byA{P:Program}{g:Pg P}{f:FuncId}{args:List V}{s:Sg}{R:V→Sg→Prop}{r:V}{args':List V}(h:Spec g f args' r)(hR:R r s)(ha:args.map V.clean=args':=by simp only[seval,FMA]):bf g f args s R:=bf.by h ha hR
theorem bf.byFA{P:Program}{g:Pg P}{f:FuncId}{args:List V}{s:Sg}{R:V→Sg→Prop}{r:V}{args':List V}(h:Spec g f args' r)(hR:R r s)(ha:args.map V.cleanF=args':=by simp only[seval,FMA]):bf g f args s R:=bf.byF h ha hR
theorem bf.inlA{P:Program}{g:Pg P}{f:FuncId}{fn:Func}{c:Code}{args:List V}{s:Sg}{R:V→Sg→Prop}{ν:Type}{Y:ν→V}{S:ν→Sg}{m1:Option ν}{v:ν}{fr:Fr}[i:Fnc g f fn](hm:iF f Y S m1=some v)(h:Mir g c fr s m1 (inQ g fn.results.toList Y S))(hR:R (Y v) (S v))(hb:fn.body=some c:=by rfl)(he:cm P f=true:=by kernel_rfl)(hd:fg c=true:=by kernel_rfl)(ho:okF s [Y v] (S v)=true:=by rfl)(e:args++List.replicate (fn.ntmps-args.length) .undef=fr:=by simp only[List.replicate,List.length,nS,nA,SV,TMA];rfl):bf g f args s R:=bf.inl i.h hb he hd Y S hm ho (e▸h) hR
variable {args:List V}{f:FuncId}{fn:Func}{ρ:Type}{m:Option ρ}
theorem auA(hf:P.funcs[f]? = some fn)(en:ρ→V)(h:Mir g c fr ⟨[],[]⟩ m (fnQ g fn.results.toList en)){y:ρ}(hy:m=some y)(hb:fn.body=some c:=by rfl)(he:cm P f=true:=by kernel_rfl)(hd:fg c=true:=by kernel_rfl)(e:args++List.replicate (fn.ntmps-args.length) .undef=fr:=by simp only[List.replicate,List.length,nS,nA,SV,TMA];rfl):Spec g f args (en y):=lU hf hb he hd en (e▸h) hy
theorem aFA(hf:P.funcs[f]? = some fn)(en:ρ→V)(h:Mir g c fr ⟨[],[]⟩ m (fnF g fn.results.toList en)){y:ρ}(hy:m=some y)(hb:fn.body=some c:=by rfl)(he:cm P f=true:=by kernel_rfl)(hd:fg c=true:=by kernel_rfl)(e:args++List.replicate (fn.ntmps-args.length) .undef=fr:=by simp only[List.replicate,List.length,nS,nA,SV,TMA];rfl):Spec g f args (en y):=specF_mir hf hb he hd en (e▸h) hy
instance:Sp 335 (type_of% @mE):=⟨@mE⟩
instance:Sp 201 (type_of% @jz):=⟨@jz⟩
instance:Sp 200 (type_of% @iY):=⟨@iY⟩
instance:Sp 310 (type_of% @mC):=⟨@mC⟩
instance:Sp 247 (type_of% @ig):=⟨@ig⟩
instance:Sp 286 (type_of% @j0):=⟨@j0⟩
instance:Sp 134 (type_of% @mD):=⟨@mD⟩
instance:Sp 59 (type_of% @gz):=⟨@gz⟩
instance:Sp 165 (type_of% @n5):=⟨@n5⟩
instance:Fnc gP 63 Tryz.f63:=⟨Tryz.func63⟩
instance:Fnc gP 72 Tryz.f72:=⟨Tryz.func72⟩
instance:Fnc gP 73 Tryz.f73:=⟨Tryz.func73⟩
instance:Fnc gP 80 Tryz.f80:=⟨Tryz.func80⟩
instance:Fnc gP 81 Tryz.f81:=⟨Tryz.func81⟩
instance:Fnc gP 136 Tryz.f136:=⟨Tryz.func136⟩
instance:Fnc gP 139 Tryz.f139:=⟨Tryz.func139⟩
instance:Fnc gP 146 Tryz.f146:=⟨Tryz.func146⟩
instance:Fnc gP 148 Tryz.f148:=⟨Tryz.func148⟩
instance:Fnc gP 150 Tryz.f150:=⟨Tryz.func150⟩
instance:Fnc gP 153 Tryz.f153:=⟨Tryz.func153⟩
instance:Fnc gP 154 Tryz.f154:=⟨Tryz.func154⟩
instance:Fnc gP 156 Tryz.f156:=⟨Tryz.func156⟩
instance:Fnc gP 204 Tryz.f204:=⟨Tryz.func204⟩
instance:Fnc gP 205 Tryz.f205:=⟨Tryz.func205⟩
instance:Fnc gP 207 Tryz.f207:=⟨Tryz.func207⟩
instance:Fnc gP 208 Tryz.f208:=⟨Tryz.func208⟩
instance:Fnc gP 209 Tryz.f209:=⟨Tryz.func209⟩
instance:Fnc gP 210 Tryz.f210:=⟨Tryz.func210⟩
instance:Fnc gP 211 Tryz.f211:=⟨Tryz.func211⟩
instance:Fnc gP 271 Tryz.f271:=⟨Tryz.func271⟩
instance:Fnc gP 272 Tryz.f272:=⟨Tryz.func272⟩
instance:Fnc gP 313 Tryz.f313:=⟨Tryz.func313⟩
theorem zzA(h:p:=by
  repeat (first
    | exact Mir.no
    | ((with_reducible refine Mir.condN ?_ (fun _=>?_) (fun _=>?_));exact rfl)
    | ((with_reducible refine Mir.cond ?_ (fun _=>?_) (fun _=>?_));exact rfl)
    | ((with_reducible refine Mir.condT ?_ ?_);exact rfl)
    | ((with_reducible refine Mir.condF ?_ ?_);exact rfl)
    | ((with_reducible apply Mir.condTA);exact rfl;assumption)
    | ((with_reducible apply Mir.condFA);exact rfl;assumption)
    | ((with_reducible apply Mir.gF);exact rfl)
    | ((with_reducible refine Mir.jXB (fun _=>?_) ?_ (fun _=>?_));exact rfl)
    | ((with_reducible refine Mir.jXC (fun _=>?_) ?_ (fun _=>?_));exact rfl)
    | ((with_reducible refine Mir.jOB (fun _=>?_) ?_ (fun _=>?_));exact rfl)
    | ((with_reducible refine Mir.jOC (fun _=>?_) ?_ (fun _=>?_));exact rfl)
    | ((with_reducible refine Mir.jOR (fun _=>?_) ?_ (fun _=>?_));exact rfl)
    | ((with_reducible refine Mir.rG ‹_› (fun _ _=>?_) ?_ ?_ (fun _ _ _ _ _ _ _ _=>?_) (fun _ _=>?_));(focus exact rfl);(focus (simp only[seval,FMA,zNI];done));(focus (simp only[seval,FMA,zNI];done)))
    | ((with_reducible refine Mir.lF (fun _=>?_) ?_ ?_ (fun _=>?_));(focus exact rfl);(focus (simp only[seval,FMA];done));(focus (simp only[seval,FMA];done)))
    | ((with_reducible refine Mir.jV ?_ ?_ ?_);exact rfl)
    | ((with_reducible refine Mir.guardS fun q=>?_);try simp only[lm,xNA,xCA,xAN,xLC,xLN,xAC,xAL,nA,Nat.zero_add,List.length_append]at q)
    | ((with_reducible refine Mir.guard fun q=>?_);try simp only[Nat.zero_add]at q)
    | with_reducible refine Mir.loopR 99 ?_
    | ((with_reducible refine Mir.bindCL fun _ q=>?_);try simp only[Int.reduceToNat,Int.reduceLT,Nat.sub_zero,dp0,Int.toNat_natCast,xLC,xLN,Nat.zero_add,nA]at q)
    | ((with_reducible refine Mir.bindCF fun _ q=>?_);try simp only[Int.reduceToNat,Int.reduceLT,Nat.sub_zero,dp0,Int.toNat_natCast,xLC,xLN,Nat.zero_add,nA]at q)
    | ((with_reducible refine Mir.bindCT fun _ q=>?_);try simp only[Int.reduceToNat,Int.reduceLT,Nat.sub_zero,dp0,Int.toNat_natCast,xLC,xLN,Nat.zero_add,nA]at q)
    | ((with_reducible refine Mir.bindG fun _ q=>?_);try simp only[Int.reduceToNat,Int.reduceLT,Nat.sub_zero,dp0,Int.toNat_natCast]at q)
    | ((fail_if_success with_reducible refine Mir.isC ?_);(fail_if_success with_reducible refine Mir.isB ?_);(fail_if_success with_reducible refine Mir.isR ?_);with_reducible refine Mir.bind fun _ _=>?_)
    | with_reducible refine Mir.iteR (fun _=>?_) (fun _=>?_)
    | with_reducible refine Mir.seqK ?_
    | with_reducible refine Mir.block ?_
    | ((with_reducible refine Mir.rg fun _ _=>?_);simp only[seval,EMA])
    | ((with_reducible refine Mir.rgD [] ?_ (fun _ _=>?_));(focus kernel_rfl);simp only[seval,EMA,SB, *])
    | ((with_reducible refine SWs.regionQ ?_);simp only[seval,EMA])
    | with_reducible refine Mir.toK ?_
    | with_reducible refine Mir.toB ?_
    | with_reducible refine Mir.toN ?_
    | with_reducible refine Mir.skip ?_
    | with_reducible refine Mir.exit ?_
    | with_reducible refine Mir.ret ?_
    | with_reducible exact QA
    | ((with_reducible refine bf.inlH ‹iF _ _ _ _=some _› fun q=>?_);refine bf.inlA q ?_ ?_)
    | ((with_reducible refine bf.byJ fun z=>?_);(with_reducible refine bf.by (z (h:=‹_›)) ?_ ?_);(focus (simp only[seval,FMA];done));try simp only[seval,EMA, *])
    | ((with_reducible refine bf.byJ fun z=>?_);focus ((with_reducible apply bf.by (z (h:=?_)));(focus exact rfl);rotate_right;(focus assumption);try simp only[seval,EMA, *]))
    | ((with_reducible refine bf.byJ fun z=>?_);(with_reducible refine bf.by (z (h:=‹_›)) ?_ ?_);(focus (simp only[seval,FMA, *];done));try simp only[seval,EMA, *])
    | ((with_reducible refine bf.byJ fun z=>?_);(with_reducible refine bf.byF (z (h:=‹_›)) ?_ ?_);(focus (simp only[seval,FMA, *];done));try simp only[seval,EMA, *])
    | ((with_reducible refine Spec.byJ fun z=>?_);(with_reducible refine Spec.by (z (h:=‹_›)) ?_ ?_);(focus (simp only[seval,FMA];done));try simp only[seval,EMA,SB, *])
    | ((with_reducible refine Spec.byJ fun z=>?_);focus ((with_reducible apply Spec.by (z (h:=?_)));(focus exact rfl);rotate_right;(focus assumption);try simp only[seval,EMA,SB, *]))
    | ((with_reducible refine Spec.byJ fun z=>?_);(with_reducible refine Spec.by (z (h:=‹_›)) ?_ ?_);(focus (simp only[seval,FMA, *];done));try simp only[seval,EMA,SB, *])
    | ((with_reducible refine Spec.byJ fun z=>?_);(with_reducible refine Spec.byF (z (h:=‹_›)) ?_ ?_);(focus (simp only[seval,FMA, *];done));try simp only[seval,EMA,SB, *])
    | with_reducible refine mUH _ ?_ ‹Hm _ _›
    | with_reducible refine Mir.useNH ?_ ‹Hm _ _›
    | with_reducible refine mU _ ?_ ‹_›
    | ((with_reducible apply ifNt);(focus assumption);try simp only[seval,EMA,SL,PB, *])
    | ((with_reducible apply ifNf);(focus assumption);try simp only[seval,EMA,SL,PB, *])
    | ((with_reducible apply ifTt);(focus assumption);try simp only[seval,EMA,SL,PB, *])
    | ((with_reducible apply ifTf);(focus assumption);try simp only[seval,EMA,SL,PB, *])
    | ((with_reducible refine isIf ?_);focus (simp only[seval,EMA,SL,PB, *]))
    | ((with_reducible apply optNZ);(focus assumption);try simp only[seval,EMA,SB, *])
    | ((with_reducible refine ifNn (fun _=>?_) (fun _=>?_))<;>try simp only[seval,EMA,SL,PB, *])
    | ((with_reducible refine ifTn (fun _=>?_) (fun _=>?_))<;>try simp only[seval,EMA,SL,PB, *])
    | ((with_reducible refine ifN (fun _=>?_) (fun _=>?_))<;>try simp only[seval,EMA,SL,PB, *])
    | ((with_reducible refine ifT (fun _=>?_) (fun _=>?_))<;>try simp only[seval,EMA,SL,PB, *])
    | ((with_reducible refine ifB (fun _=>?_) (fun _=>?_))<;>try simp only[seval,EMA,SL,PB, *])
    | with_reducible exact fun _ q=>Option.some.inj q▸(by simp only[seval,FMA, *])
    | focus (have q:some _=some _:=‹Hm (some _) _›;cases q;simp only[seval,FMA];done)
    | focus (have q:some _=some _:=‹Hm (some _) _›;cases q;simp only[seval,FMA, *];done)
    | focus (have q:some _=some _:=‹Hm (some _) _›;cases q;simp only[seval,EMA, *];done)
    | focus (cases ‹some _=some _›;simp only[seval,FMA];done)
    | focus (cases ‹some _=some _›;simp only[seval,FMA, *];done)
    | exact (bZ ‹(!_)=false› ‹_=false›).elim
    | exact (bW ‹(!_)=true› ‹_=true›).elim
    | exact (bX ‹_=true› ‹_=false›).elim
    | exact (bY ‹_=false› ‹_=true›).elim
    | with_reducible refine fun _=>?_
    | ((with_reducible refine isOpt ?_);simp only[seval,EMA,SL,SB,PB,glT,Nat.le_refl,Nat.sub_zero,Int.toNat_natCast, *])
    | ((with_reducible refine isOpt ?_);(have q:=eq_of_beq ‹((_:Int)==_)=true›);simp only[seval,EMA,SL,PB,q])
    | ((fail_if_success with_reducible refine Mir.isM ?_);focus (simp only[seval,EMA,SL,PB, *]))
    )):p:=h
abbrev Ct{ρ:Type}(f:FuncId)(args:List V)(en:ρ→V)(m:Option ρ):Prop:=∀(y:ρ) (h:m=some y),Spec gP f args (en y)
theorem zzF{en:ρ→V}{k:Option ρ}(hf:Tryz.prog.funcs[f]? = some fn)(hq:m=k)(hb:fn.body=some c:=by rfl)(he:cm Tryz.prog f=true:=by kernel_rfl)(hd:fg c=true:=by kernel_rfl)(e:args++List.replicate (fn.ntmps-args.length) .undef=fr:=by simp only[List.replicate,List.length,nS,nA,SV,TMA];rfl)(h:Mir gP c fr ⟨[],[]⟩ k (fnQ gP fn.results.toList en):=by exact zzA):Ct f args en m:=fun _ hy=>lU hf hb he hd en (e▸h) (hq▸hy)
end Go.Proofs.YtphbhdoljnokkaaGreatDoor
