import Derived.Test.YtplhejpjnfjopaaGreatDoorGx
import Derived.Test.YtplhejpjnfjopaaGreatDoorTy
import Derived.Test.YtplhejpjnfjopaaGreatDoorBu
import Derived.Test.YtplhejpjnfjopaaGreatDoorCg
import Derived.Test.YtplhejpjnfjopaaGreatDoorGz
import Derived.Test.YtplhejpjnfjopaaGreatDoorLb
import Derived.Test.YtplhejpjnfjopaaGreatDoorSzz
import Derived.Test.YtplhejpjnfjopaaGreatDoorSzk
open List renaming map → zA,replicate → zB,length → zD,all_eq_true → zH,length_append → zI,length_cons → zJ,length_map → zK,length_nil → zL,map_cons → zN,map_nil → zR
open Bool renaming eq_false_or_eq_true → zE
open And renaming intro → zF
open Int renaming toNat_natCast → zG,reduceToNat → zO,tdiv → zT,reduceLT → zU,tmod → zW
open Nat renaming le_refl → zM,zero_add → zQ,sub_zero → zV
open Go.IntKind renaming i64 → zX,u64 → zY
namespace Go.Proofs.YtplhejpjnfjopaaGreatDoor
open Go.RowKit
open Nat renaming reduceAdd → nA,reduceSub → nS,reduceMul → nM,reduceEqDiff → nE,reduceLeDiff → nL,reduceLT → nT,reduceBEq → nB
open Int renaming reduceLT → iT,reduceToNat → iN,reduceEq → iE
set_option linter.unusedVariables false
set_option linter.unusedSimpArgs false
set_option maxRecDepth 100000
set_option maxHeartbeats 8000000
structure ag where
 X:Int
 Y:Int
 Z:Int
 deriving DecidableEq
def di(x:ag):List D:=[.int .i64 x.X,.int .i64 x.Y,.int .i64 x.Z]
abbrev cH(x:ag):List V:=[.d (.int .i64 x.X),.d (.int .i64 x.Y),.d (.int .i64 x.Z)]
theorem al_ApiPos{l:List ag}:(zA di l).all (λx=>x.length==3)=true:=by simp[zH,di]
structure aG where
 X:Int
 Y:Int
 deriving DecidableEq
def aW(x:aG):List D:=[.int .i64 x.X,.int .i64 x.Y]
abbrev cK(x:aG):List V:=[.d (.int .i64 x.X),.d (.int .i64 x.Y)]
theorem al_ApiGrid2{l:List aG}:(zA aW l).all (λx=>x.length==2)=true:=by simp[zH,aW]
structure au where
 Kind:Int
 To:ag
 Center:aG
 Rate:Int
 deriving DecidableEq
def bf(x:au):List D:=[.int .i64 x.Kind,.int .i64 x.To.X,.int .i64 x.To.Y,.int .i64 x.To.Z,.int .i64 x.Center.X,.int .i64 x.Center.Y,.int .i64 x.Rate]
abbrev cB(x:au):List V:=[.d (.int .i64 x.Kind),.d (.int .i64 x.To.X),.d (.int .i64 x.To.Y),.d (.int .i64 x.To.Z),.d (.int .i64 x.Center.X),.d (.int .i64 x.Center.Y),.d (.int .i64 x.Rate)]
theorem gl{l:List au}:(zA bf l).all (λx=>x.length==7)=true:=by simp[zH,bf]
structure fg where
 Tool:Int
 Moves:(List au)
 deriving DecidableEq
def ce(x:fg):List D:=[.int .i64 x.Tool,.list (zA bf x.Moves)]
structure ct where
 Work:Int
 Compress:Bool
 Numbers:Int
 Fold:Int
 deriving DecidableEq
def k6(x:ct):List D:=[.int .i64 x.Work,.bool x.Compress,.int .i64 x.Numbers,.int .i64 x.Fold]
abbrev cG(x:ct):List V:=[.d (.int .i64 x.Work),.d (.bool x.Compress),.d (.int .i64 x.Numbers),.d (.int .i64 x.Fold)]
structure ay where
 Letter:Int
 Value:Int
 deriving DecidableEq
def ar(x:ay):List D:=[.int .u8 x.Letter,.int .i64 x.Value]
abbrev cL(x:ay):List V:=[.d (.int .u8 x.Letter),.d (.int .i64 x.Value)]
theorem dQ{l:List ay}:(zA ar l).all (λx=>x.length==2)=true:=by simp[zH,ar]
structure ac where
 Skip:Bool
 Words:(List ay)
 Comment:(List UInt8)
 deriving DecidableEq
def aa(x:ac):List D:=[.bool x.Skip,.list (zA ar x.Words),.str x.Comment]
abbrev cJ(x:ac):List V:=[.d (.bool x.Skip),.d (.list (zA ar x.Words)),.d (.str x.Comment)]
theorem ba{l:List ac}:(zA aa l).all (λx=>x.length==3)=true:=by simp[zH,aa]
structure am where
 Motion:Int
 Distance:Int
 Work:Int
 Length:Int
 Return:Int
 Feed:Int
 Tool:Int
 Offset:Int
 deriving DecidableEq
def encModalState(x:am):List D:=[.int .i64 x.Motion,.int .i64 x.Distance,.int .i64 x.Work,.int .i64 x.Length,.int .i64 x.Return,.int .i64 x.Feed,.int .i64 x.Tool,.int .i64 x.Offset]
abbrev cA(x:am):List V:=[.d (.int .i64 x.Motion),.d (.int .i64 x.Distance),.d (.int .i64 x.Work),.d (.int .i64 x.Length),.d (.int .i64 x.Return),.d (.int .i64 x.Feed),.d (.int .i64 x.Tool),.d (.int .i64 x.Offset)]
structure bd where
 Number:Int
 Blocks:(List ac)
 deriving DecidableEq
def aK(x:bd):List D:=[.int .i64 x.Number,.list (zA aa x.Blocks)]
abbrev cM(x:bd):List V:=[.d (.int .i64 x.Number),.d (.list (zA aa x.Blocks))]
theorem jt{l:List bd}:(zA aK l).all (λx=>x.length==2)=true:=by simp[zH,aK]
structure aJ where
 Main:(List ac)
 Subs:(List bd)
 deriving DecidableEq
def fO(x:aJ):List D:=[.list (zA aa x.Main),.list (zA aK x.Subs)]
abbrev cN(x:aJ):List V:=[.d (.list (zA aa x.Main)),.d (.list (zA aK x.Subs))]
structure aX where
 Number:Int
 Length:Int
 deriving DecidableEq
def av(x:aX):List D:=[.int .i64 x.Number,.int .i64 x.Length]
theorem cg{l:List aX}:(zA av l).all (λx=>x.length==2)=true:=by simp[zH,av]
structure dR where
 e0:ag
 e1:ag
 e2:ag
 e3:ag
 e4:ag
 e5:ag
 deriving DecidableEq
abbrev w6(W:dR)(r:List V):List V:=.d (.int .i64 W.e0.X)::.d (.int .i64 W.e0.Y)::.d (.int .i64 W.e0.Z)::.d (.int .i64 W.e1.X)::.d (.int .i64 W.e1.Y)::.d (.int .i64 W.e1.Z)::.d (.int .i64 W.e2.X)::.d (.int .i64 W.e2.Y)::.d (.int .i64 W.e2.Z)::.d (.int .i64 W.e3.X)::.d (.int .i64 W.e3.Y)::.d (.int .i64 W.e3.Z)::.d (.int .i64 W.e4.X)::.d (.int .i64 W.e4.Y)::.d (.int .i64 W.e4.Z)::.d (.int .i64 W.e5.X)::.d (.int .i64 W.e5.Y)::.d (.int .i64 W.e5.Z)::r
def encArr6ApiPos(x:dR):List D:=[.int .i64 x.e0.X,.int .i64 x.e0.Y,.int .i64 x.e0.Z,.int .i64 x.e1.X,.int .i64 x.e1.Y,.int .i64 x.e1.Z,.int .i64 x.e2.X,.int .i64 x.e2.Y,.int .i64 x.e2.Z,.int .i64 x.e3.X,.int .i64 x.e3.Y,.int .i64 x.e3.Z,.int .i64 x.e4.X,.int .i64 x.e4.Y,.int .i64 x.e4.Z,.int .i64 x.e5.X,.int .i64 x.e5.Y,.int .i64 x.e5.Z]
structure aw where
 Work:dR
 Lengths:(List aX)
 deriving DecidableEq
def encTableTable(x:aw):List D:=[.int .i64 x.Work.e0.X,.int .i64 x.Work.e0.Y,.int .i64 x.Work.e0.Z,.int .i64 x.Work.e1.X,.int .i64 x.Work.e1.Y,.int .i64 x.Work.e1.Z,.int .i64 x.Work.e2.X,.int .i64 x.Work.e2.Y,.int .i64 x.Work.e2.Z,.int .i64 x.Work.e3.X,.int .i64 x.Work.e3.Y,.int .i64 x.Work.e3.Z,.int .i64 x.Work.e4.X,.int .i64 x.Work.e4.Y,.int .i64 x.Work.e4.Z,.int .i64 x.Work.e5.X,.int .i64 x.Work.e5.Y,.int .i64 x.Work.e5.Z,.list (zA av x.Lengths)]
structure aM where
 Block:Int
 Code:Int
 deriving DecidableEq
def gG(x:aM):List D:=[.int .i64 x.Block,.int .i64 x.Code]
abbrev cO(x:aM):List V:=[.d (.int .i64 x.Block),.d (.int .i64 x.Code)]
structure bI where
 s:(List UInt8)
 at_:Int
 b:ac
 deriving DecidableEq
def k7(x:bI):List D:=[.str x.s,.int .i64 x.at_,.bool x.b.Skip,.list (zA ar x.b.Words),.str x.b.Comment]
structure ak where
 Code:Int
 R:Int
 Z:Int
 Q:Int
 Rate:Int
 Initial:Int
 High:Bool
 deriving DecidableEq
def encCycleCycle(x:ak):List D:=[.int .i64 x.Code,.int .i64 x.R,.int .i64 x.Z,.int .i64 x.Q,.int .i64 x.Rate,.int .i64 x.Initial,.bool x.High]
abbrev cC(x:ak):List V:=[.d (.int .i64 x.Code),.d (.int .i64 x.R),.d (.int .i64 x.Z),.d (.int .i64 x.Q),.d (.int .i64 x.Rate),.d (.int .i64 x.Initial),.d (.bool x.High)]
structure aq where
 at_:ag
 rate:Int
 deriving DecidableEq
def aO(x:aq):List D:=[.int .i64 x.at_.X,.int .i64 x.at_.Y,.int .i64 x.at_.Z,.int .i64 x.rate]
theorem fB{l:List aq}:(zA aO l).all (λx=>x.length==4)=true:=by simp[zH,aO]
structure ao where
 From:ag
 To:ag
 Rate:Int
 Tool:Int
 Block:Int
 deriving DecidableEq
def aI(x:ao):List D:=[.int .i64 x.From.X,.int .i64 x.From.Y,.int .i64 x.From.Z,.int .i64 x.To.X,.int .i64 x.To.Y,.int .i64 x.To.Z,.int .i64 x.Rate,.int .i64 x.Tool,.int .i64 x.Block]
theorem fC{l:List ao}:(zA aI l).all (λx=>x.length==9)=true:=by simp[zH,aI]
theorem ENMB:type_of% (zF @di.eq_1<|zF @aW.eq_1<|zF @bf.eq_1<|zF @ce.eq_1<|zF @k6.eq_1<|zF @ar.eq_1<|zF @aa.eq_1<|zF @encModalState.eq_1<|zF @aK.eq_1<|zF @fO.eq_1<|zF @av.eq_1<|zF @encArr6ApiPos.eq_1<|zF @encTableTable.eq_1<|zF @gG.eq_1<|zF @k7.eq_1<|zF @encCycleCycle.eq_1<|zF @aO.eq_1<|@aI.eq_1):=zF @di.eq_1<|zF @aW.eq_1<|zF @bf.eq_1<|zF @ce.eq_1<|zF @k6.eq_1<|zF @ar.eq_1<|zF @aa.eq_1<|zF @encModalState.eq_1<|zF @aK.eq_1<|zF @fO.eq_1<|zF @av.eq_1<|zF @encArr6ApiPos.eq_1<|zF @encTableTable.eq_1<|zF @gG.eq_1<|zF @k7.eq_1<|zF @encCycleCycle.eq_1<|zF @aO.eq_1<|@aI.eq_1
theorem EMB:type_of% (zF @SE<|@ENMB):=zF @SE<|@ENMB
theorem FMB:type_of% (zF @SF<|@ENMB):=zF @SF<|@ENMB
def iW(a0:Int):Option Int:=bindO (if (a0==0)=true then some (a0==0)else if (a0==1000)=true then some (a0==1000)else if (a0==2000)=true then some (a0==2000)else if (a0==3000)=true then some (a0==3000)else if (a0==80000)=true then some (a0==80000)else if (a0==81000)=true then some (a0==81000)else if (a0==82000)=true then some (a0==82000)else some (a0==83000)) λ(v1:Bool)=>if v1=true then some 1 else bindO (if (a0==90000)=true then some (a0==90000)else some (a0==91000)) λ(v2:Bool)=>if v2=true then some 2 else bindO (if (a0==54000)=true then some (a0==54000)else if (a0==55000)=true then some (a0==55000)else if (a0==56000)=true then some (a0==56000)else if (a0==57000)=true then some (a0==57000)else if (a0==58000)=true then some (a0==58000)else some (a0==59000)) λ(v3:Bool)=>if v3=true then some 3 else bindO (if (a0==43000)=true then some (a0==43000)else some (a0==49000)) λ(v4:Bool)=>if v4=true then some 4 else bindO (if (a0==98000)=true then some (a0==98000)else some (a0==99000)) λ(v5:Bool)=>if v5=true then some 5 else some 0
theorem bN{a0:Int}{y:Int}(h:iW a0=some y):Spec gP 117 [.d (.int .i64 a0)] (.d (.int .i64 y)):=by
 refine aB Tryz.func117 rfl (by kernel_rfl) (by kernel_rfl) (λy:Int=>.d (.int .i64 y)) ?_ h
 unfold iW
 simp only[zB,zD,nS,nA,Tryz.ntmps117,SV]
 refine .sR λe h=>?_
 simp only[seval,EMB]
 refine mU e (.seqK (.sR λe h=>?_)) h
 simp only[seval,EMB]
 refine mU e (.block (.seqK (.sR λe h=>?_))) h
 simp only[seval,EMB]
 refine mU e (Mir.joinO (λv1:Bool=>([U,U,U,.d (.int .i64 a0),.d (.bool v1)]++us 24)) (λv1=>⟨[],[]⟩) (λ_=>rfl) ?_ ?_) h
 refine .cond rfl (λhb43=>?_) (λhb43=>?_)
 refine .skip λe h=>?_
 cases h
 simp only[seval,FMB,Tryz.results117]
 refine .sR λe h=>?_
 simp only[seval,EMB]
 refine mU e (.cond rfl (λhb44=>?_) (λhb44=>?_)) h
 refine .skip λe h=>?_
 cases h
 simp only[seval,FMB,Tryz.results117]
 refine .sR λe h=>?_
 simp only[seval,EMB]
 refine mU e (.cond rfl (λhb45=>?_) (λhb45=>?_)) h
 refine .skip λe h=>?_
 cases h
 simp only[seval,FMB,Tryz.results117]
 refine .sR λe h=>?_
 simp only[seval,EMB]
 refine mU e (.cond rfl (λhb46=>?_) (λhb46=>?_)) h
 refine .skip λe h=>?_
 cases h
 simp only[seval,FMB,Tryz.results117]
 refine .sR λe h=>?_
 simp only[seval,EMB]
 refine mU e (.cond rfl (λhb47=>?_) (λhb47=>?_)) h
 refine .skip λe h=>?_
 cases h
 simp only[seval,FMB,Tryz.results117]
 refine .sR λe h=>?_
 simp only[seval,EMB]
 refine mU e (.cond rfl (λhb48=>?_) (λhb48=>?_)) h
 refine .skip λe h=>?_
 cases h
 simp only[seval,FMB,Tryz.results117]
 refine .sR λe h=>?_
 simp only[seval,EMB]
 refine mU e (.cond rfl (λhb49=>?_) (λhb49=>?_)) h
 refine .skip λe h=>?_
 cases h
 simp only[seval,FMB,Tryz.results117]
 refine .region λe h=>?_
 simp only[seval,EMB]
 cases h
 simp only[seval,FMB,Tryz.results117]
 intro v1
 refine Mir.toK (.cond rfl (λhb71=>?_) (λhb71=>?_))
 refine .sR λe h=>?_
 simp only[seval,EMB]
 refine mU e (.ret λe h=>?_) h
 cases h
 simp only[seval,FMB,Tryz.results117]
 refine .seqK (.sR λe h=>?_)
 simp only[seval,EMB]
 refine mU e (Mir.joinO (λv2:Bool=>([U,U,U,.d (.int .i64 a0),U,U,U,U,U,U,U,U,U,.d (.bool v2)]++us 15)) (λv2=>⟨[],[]⟩) (λ_=>rfl) ?_ ?_) h
 refine .cond rfl (λhb73=>?_) (λhb73=>?_)
 refine .skip λe h=>?_
 cases h
 simp only[seval,FMB,Tryz.results117]
 refine .region λe h=>?_
 simp only[seval,EMB]
 cases h
 simp only[seval,FMB,Tryz.results117]
 intro v2
 refine Mir.toK (.cond rfl (λhb92=>?_) (λhb92=>?_))
 refine .sR λe h=>?_
 simp only[seval,EMB]
 refine mU e (.ret λe h=>?_) h
 cases h
 simp only[seval,FMB,Tryz.results117]
 refine .seqK (.sR λe h=>?_)
 simp only[seval,EMB]
 refine mU e (Mir.joinO (λv3:Bool=>([U,U,U,.d (.int .i64 a0),U,U,U,U,U,U,U,U,U,U,U,U,.d (.bool v3)]++us 12)) (λv3=>⟨[],[]⟩) (λ_=>rfl) ?_ ?_) h
 refine .cond rfl (λhb98=>?_) (λhb98=>?_)
 refine .skip λe h=>?_
 cases h
 simp only[seval,FMB,Tryz.results117]
 refine .sR λe h=>?_
 simp only[seval,EMB]
 refine mU e (.cond rfl (λhb99=>?_) (λhb99=>?_)) h
 refine .skip λe h=>?_
 cases h
 simp only[seval,FMB,Tryz.results117]
 refine .sR λe h=>?_
 simp only[seval,EMB]
 refine mU e (.cond rfl (λh1=>?_) (λh1=>?_)) h
 refine .skip λe h=>?_
 cases h
 simp only[seval,FMB,Tryz.results117]
 refine .sR λe h=>?_
 simp only[seval,EMB]
 refine mU e (.cond rfl (λh2=>?_) (λh2=>?_)) h
 refine .skip λe h=>?_
 cases h
 simp only[seval,FMB,Tryz.results117]
 refine .sR λe h=>?_
 simp only[seval,EMB]
 refine mU e (.cond rfl (λh3=>?_) (λh3=>?_)) h
 refine .skip λe h=>?_
 cases h
 simp only[seval,FMB,Tryz.results117]
 refine .region λe h=>?_
 simp only[seval,EMB]
 cases h
 simp only[seval,FMB,Tryz.results117]
 intro v3
 refine Mir.toK (.cond rfl (λh4=>?_) (λh4=>?_))
 refine .sR λe h=>?_
 simp only[seval,EMB]
 refine mU e (.ret λe h=>?_) h
 cases h
 simp only[seval,FMB,Tryz.results117]
 refine .seqK (.sR λe h=>?_)
 simp only[seval,EMB]
 refine mU e (Mir.joinO (λv4:Bool=>([U,U,U,.d (.int .i64 a0),U,U,U,U,U,U,U,U,U,U,U,U,U,U,U,U,U,U,U,.d (.bool v4)]++us 5)) (λv4=>⟨[],[]⟩) (λ_=>rfl) ?_ ?_) h
 refine .cond rfl (λh5=>?_) (λh5=>?_)
 refine .skip λe h=>?_
 cases h
 simp only[seval,FMB,Tryz.results117]
 refine .region λe h=>?_
 simp only[seval,EMB]
 cases h
 simp only[seval,FMB,Tryz.results117]
 intro v4
 refine Mir.toK (.cond rfl (λh6=>?_) (λh6=>?_))
 refine .sR λe h=>?_
 simp only[seval,EMB]
 refine mU e (.ret λe h=>?_) h
 cases h
 simp only[seval,FMB,Tryz.results117]
 refine .seqK (.sR λe h=>?_)
 simp only[seval,EMB]
 refine mU e (Mir.joinO (λv5:Bool=>[U,U,U,U,U,U,U,U,U,U,U,U,U,U,U,U,U,U,U,U,U,U,U,U,U,U,.d (.bool v5),U,U]) (λv5=>⟨[],[]⟩) (λ_=>rfl) ?_ ?_) h
 refine .cond rfl (λh7=>?_) (λh7=>?_)
 refine .skip λe h=>?_
 cases h
 simp only[seval,FMB,Tryz.results117]
 refine .region λe h=>?_
 simp only[seval,EMB]
 cases h
 simp only[seval,FMB,Tryz.results117]
 intro v5
 refine Mir.toK (.cond rfl (λh8=>?_) (λh8=>?_))
 refine .sR λe h=>?_
 simp only[seval,EMB]
 refine mU e (.ret λe h=>?_) h
 cases h
 simp only[seval,FMB,Tryz.results117]
 refine .skip (Mir.toB (Mir.toK (.sR λe h=>?_)))
 simp only[seval,EMB]
 refine mU e (.ret λe h=>?_) h
 cases h
 simp only[seval,FMB,Tryz.results117]
def po_Valid(a0:ct):Option Int:=bindO (bindO (iW a0.Work) λ(y1:Int)=>if (y1 != 3)=true then some true else if (decide (a0.Numbers<0))=true then some true else if (decide (a0.Numbers>1000))=true then some true else if (a0.Fold != 0)=true then if (decide (a0.Fold<2))=true then some true else some (decide (a0.Fold>100))else some false) λ(v1:Bool)=>if v1=true then some 1 else some 0
theorem po_Valid_spec{a0:ct}{y:Int}(h:po_Valid a0=some y):Spec gP 71 [.agg (cG a0)] (.d (.int .i64 y)):=by
 refine aB Tryz.func71 rfl (by kernel_rfl) (by kernel_rfl) (λy:Int=>.d (.int .i64 y)) ?_ h
 unfold po_Valid
 simp only[zB,zD,nS,nA,Tryz.ntmps71,SV]
 refine .sR λe h=>?_
 simp only[seval,EMB]
 refine mU e (.seqK (.seqK (Mir.joinO (λv1:Bool=>[U,U,U,U,U,U,U,U,U,U,U,U,U,U,U,U,U,U,U,U,U,U,U,U,U,U,U,U,U,U,U,.d (.bool v1)]) (λv1=>⟨[(cG a0)],[]⟩) (λ_=>rfl) ?_ ?_))) h
 refine .bind λy1 hy1=>.ite (λhb2=>?_) (λhb2=>?_)
 refine .region λe h=>?_
 simp only[seval,EMB,je,sz_2,ag_2,hb2]
 refine SpecS.by (bN hy1) (by simp only[seval,FMB,hb2]) ?_
 simp only[seval,EMB,hb2]
 cases h
 simp only[seval,FMB,hb2]
 refine .ite (λhb3=>?_) (λhb3=>?_)
 refine .region λe h=>?_
 simp only[seval,EMB,je,sz_2,ag_2,hb2,hb3]
 refine SpecS.by (bN hy1) (by simp only[seval,FMB,hb2,hb3]) ?_
 simp only[seval,EMB,kv,sz_2,ag_2,hb2,hb3]
 cases h
 simp only[seval,FMB,hb2,hb3]
 refine .ite (λhb4=>?_) (λhb4=>?_)
 refine .region λe h=>?_
 simp only[seval,EMB,je,sz_2,ag_2,hb2,hb3,hb4]
 refine SpecS.by (bN hy1) (by simp only[seval,FMB,hb2,hb3,hb4]) ?_
 simp only[seval,EMB,kv,sz_2,ag_2,hb2,hb3,hb4]
 cases h
 simp only[seval,FMB,hb2,hb3,hb4]
 refine .ite (λhb5=>?_) (λhb5=>?_)
 refine .ite (λhb6=>?_) (λhb6=>?_)
 refine .region λe h=>?_
 simp only[seval,EMB,je,sz_2,ag_2,hb2,hb3,hb4,hb5,hb6]
 refine SpecS.by (bN hy1) (by simp only[seval,FMB,hb2,hb3,hb4,hb5,hb6]) ?_
 simp only[seval,EMB,kv,sz_2,ag_2,fld_33_3,sz_3,ag_3,hb2,hb3,hb4,hb5,hb6]
 cases h
 simp only[seval,FMB,hb2,hb3,hb4,hb5,hb6]
 refine .region λe h=>?_
 simp only[seval,EMB,je,sz_2,ag_2,hb2,hb3,hb4,hb5,hb6]
 refine SpecS.by (bN hy1) (by simp only[seval,FMB,hb2,hb3,hb4,hb5,hb6]) ?_
 simp only[seval,EMB,kv,sz_2,ag_2,fld_33_3,sz_3,ag_3,hb2,hb3,hb4,hb5,hb6]
 cases h
 simp only[seval,FMB,hb2,hb3,hb4,hb5,hb6]
 refine .region λe h=>?_
 simp only[seval,EMB,je,sz_2,ag_2,hb2,hb3,hb4,hb5]
 refine SpecS.by (bN hy1) (by simp only[seval,FMB,hb2,hb3,hb4,hb5]) ?_
 simp only[seval,EMB,kv,sz_2,ag_2,fld_33_3,sz_3,ag_3,hb2,hb3,hb4,hb5]
 cases h
 simp only[seval,FMB,hb2,hb3,hb4,hb5]
 intro v1
 refine Mir.toK (.cond rfl (λhb8=>?_) (λhb8=>?_))
 refine .sR λe h=>?_
 simp only[seval,EMB]
 refine mU e (.ret λe h=>?_) h
 cases h
 simp only[seval,FMB,Tryz.results71]
 refine .skip (Mir.toK (.sR λe h=>?_))
 simp only[seval,EMB]
 refine mU e (.ret λe h=>?_) h
 cases h
 simp only[seval,FMB,Tryz.results71]
def ck(a0:Int)(a1:Int):Option ay:=some (ay.mk a0 a1)
theorem bg{a0:Int}{a1:Int}{y:ay}(h:ck a0 a1=some y):Spec gP 62 [.d (.int .u8 a0),.d (.int .i64 a1)] (.agg [.d (.int .u8 y.Letter),.d (.int .i64 y.Value)]):=by
 refine aB Tryz.func62 rfl (by kernel_rfl) (by kernel_rfl) (λy:ay=>.agg [.d (.int .u8 y.Letter),.d (.int .i64 y.Value)]) ?_ h
 unfold ck
 simp only[zB,zD,nS,nA,Tryz.ntmps62,SV]
 refine .sR λe h=>?_
 simp only[seval,EMB,bk]
 refine mU e (.sR λe h=>?_) h
 simp only[seval,EMB,bk,jO,bP]
 refine mU e (.ret λe h=>?_) h
 cases h
 simp only[seval,FMB,Tryz.results62,ju,bP]
def bX(a0:Int)(a1:Int):Option ay:=bindO (ck a0 (zX.wrap (1000*a1))) λ(y1:ay)=>some y1
theorem bv{a0:Int}{a1:Int}{y:ay}(h:bX a0 a1=some y):Spec gP 61 [.d (.int .u8 a0),.d (.int .i64 a1)] (.agg [.d (.int .u8 y.Letter),.d (.int .i64 y.Value)]):=by
 refine aB Tryz.func61 rfl (by kernel_rfl) (by kernel_rfl) (λy:ay=>.agg [.d (.int .u8 y.Letter),.d (.int .i64 y.Value)]) ?_ h
 unfold bX
 simp only[zB,zD,nS,nA,Tryz.ntmps61,SV]
 refine .sR λe h=>?_
 simp only[seval,EMB,bk]
 refine mU e (.seqK (.bind λy1 hy1=>.region λe h=>?_)) h
 simp only[seval,EMB]
 refine SpecS.by (bg hy1) (by simp only[seval,FMB]) ?_
 simp only[seval,EMB,bP]
 refine mU e (.ret λe h=>?_) h
 cases h
 simp only[seval,FMB,Tryz.results61,ju,bP]
def dI(a0:(List ay)):Option ac:=some (ac.mk false a0 [])
theorem bV{a0:(List ay)}{y:ac}(h:dI a0=some y):Spec gP 60 [.full (zA ar a0)] (.agg [.d (.bool y.Skip),.full (zA ar y.Words),.d (.str y.Comment)]):=by
 refine specF_mir Tryz.func60 rfl (by kernel_rfl) (by kernel_rfl) (λy:ac=>.agg [.d (.bool y.Skip),.full (zA ar y.Words),.d (.str y.Comment)]) ?_ h
 unfold dI
 simp only[zB,zD,nS,nA,Tryz.ntmps60,SV]
 refine .sR λe h=>?_
 simp only[seval,EMB,aC]
 refine mU e (.sR λe h=>?_) h
 simp only[seval,EMB,aC,pl_58,sz_58]
 refine mU e (.ret λe h=>?_) h
 cases h
 simp only[seval,FMB,Tryz.results60,ag_58,sz_58]
def po_Change(a0:Int):Option ((List ac)×Int):=if ((decide (a0<1))||(decide (a0>999)))=true then some ([],1)else bindO (bX 84 a0) λ(y1:ay)=>bindO (bX 77 6) λ(y2:ay)=>bindO (dI [y1,y2]) λ(y3:ac)=>bindO (bX 71 43) λ(y4:ay)=>bindO (bX 72 a0) λ(y5:ay)=>bindO (dI [y4,y5]) λ(y6:ac)=>some ([y3,y6],0)
theorem po_Change_spec{a0:Int}{y:(List ac)×Int}(h:po_Change a0=some y):Spec gP 118 [.d (.int .i64 a0)] (.tuple [.d (.list (zA aa y.1)),.d (.int .i64 y.2)]):=by
 refine aB Tryz.func118 rfl (by kernel_rfl) (by kernel_rfl) (λy:(List ac)×Int=>.tuple [.d (.list (zA aa y.1)),.d (.int .i64 y.2)]) ?_ h
 unfold po_Change
 simp only[zB,zD,nS,nA,Tryz.ntmps118,SV]
 refine .sR λe h=>?_
 simp only[seval,EMB]
 refine mU e (.seqK (.seqK (.joinV ([.d (.int .i64 a0),U,U,U,U,U,U,U,U,U,.d (.bool ((decide (a0<1))||(decide (a0>999))))]++us 12) ⟨[],[]⟩ rfl ?_ ?_))) h
 refine SWs.region ?_
 rcases zE (decide (a0<1))with hb1 | hb1
 simp only[seval,EMB,SL,PB,hb1]
 simp only[seval,EMB,SL,PB,hb1]
 refine Mir.toK (.cond rfl (λhb3=>?_) (λhb3=>?_))
 refine .sR λe h=>?_
 simp only[seval,EMB]
 refine mU e (.ret λe h=>?_) h
 cases h
 simp only[seval,FMB,Tryz.results118]
 refine .skip (Mir.toK (.sR λe h=>?_))
 simp only[seval,EMB]
 refine mU e (.seqK (.bind λy1 hy4=>.bind λy2 hy5=>.bind λy3 hy6=>.bind λy4 hy7=>.bind λy5 hy8=>.bind λy6 hy9=>.region λe h=>?_)) h
 simp only[seval,EMB]
 refine SpecS.by (bv hy4) (by simp only[seval,FMB]) ?_
 simp only[seval,EMB]
 refine SpecS.by (bv hy5) (by simp only[seval,FMB]) ?_
 simp only[seval,EMB,br,bP,bk,(oL 4)]
 refine SpecS.byF (bV hy6) (by simp only[seval,FMB]) ?_
 simp only[seval,EMB]
 refine SpecS.by (bv hy7) (by simp only[seval,FMB]) ?_
 simp only[seval,EMB]
 refine SpecS.by (bv hy8) (by simp only[seval,FMB]) ?_
 simp only[seval,EMB,br,bP,bk,(oL 4)]
 refine SpecS.byF (bV hy9) (by simp only[seval,FMB]) ?_
 simp only[seval,EMB,aE,sz_58,aC,(oL 6)]
 refine mU e (.ret λe h=>?_) h
 cases h
 simp only[seval,FMB,Tryz.results118]
def cS(a0:Int)(a1:Int):Option Int:=bindO (if (decide (a0<a1))=true then some (a1,a0)else some (a0,a1)) λ(v1:Int×Int)=>some (zY.wrap ((zY.wrap v1.1)-(zY.wrap v1.2)))
theorem cR{a0:Int}{a1:Int}{y:Int}(h:cS a0 a1=some y):Spec gP 108 [.d (.int .i64 a0),.d (.int .i64 a1)] (.d (.int .u64 y)):=by
 refine aB Tryz.func108 rfl (by kernel_rfl) (by kernel_rfl) (λy:Int=>.d (.int .u64 y)) ?_ h
 unfold cS
 simp only[zB,zD,nS,nA,Tryz.ntmps108,SV]
 refine .sR λe h=>?_
 simp only[seval,EMB]
 refine mU e (.seqK (.sR λe h=>?_)) h
 simp only[seval,EMB]
 refine mU e (Mir.joinO (λv1:Int×Int=>([.d (.int .i64 v1.1),.d (.int .i64 v1.2)]++us 13)) (λv1=>⟨[],[]⟩) (λ_=>rfl) ?_ ?_) h
 refine .cond rfl (λhb2=>?_) (λhb2=>?_)
 refine .region λe h=>?_
 simp only[seval,EMB]
 cases h
 simp only[seval,FMB,Tryz.results108]
 refine .skip λe h=>?_
 cases h
 simp only[seval,FMB,Tryz.results108]
 intro v1
 refine Mir.toK (.sR λe h=>?_)
 simp only[seval,EMB,und_2,und_196]
 refine mU e (.ret λe h=>?_) h
 cases h
 simp only[seval,FMB,Tryz.results108]
def cV(a0:ag)(a1:aG):Option (Int×Int):=if ((a0.Y==a1.Y)&&(decide (a0.X>a1.X)))=true then bindO (cS a0.X a1.X) λ(y1:Int)=>some (0,y1)else if ((a0.X==a1.X)&&(decide (a0.Y>a1.Y)))=true then bindO (cS a0.Y a1.Y) λ(y2:Int)=>some (1,y2)else if ((a0.Y==a1.Y)&&(decide (a0.X<a1.X)))=true then bindO (cS a0.X a1.X) λ(y3:Int)=>some (2,y3)else if ((a0.X==a1.X)&&(decide (a0.Y<a1.Y)))=true then bindO (cS a0.Y a1.Y) λ(y4:Int)=>some (3,y4)else some (0,0)
theorem dJ{a0:ag}{a1:aG}{y:Int×Int}(h:cV a0 a1=some y):Spec gP 107 [.agg (cH a0),.agg (cK a1)] (.tuple [.d (.int .i64 y.1),.d (.int .u64 y.2)]):=by
 refine aB Tryz.func107 rfl (by kernel_rfl) (by kernel_rfl) (λy:Int×Int=>.tuple [.d (.int .i64 y.1),.d (.int .u64 y.2)]) ?_ h
 unfold cV
 simp only[zB,zD,nS,nA,Tryz.ntmps107,SV]
 refine .sR λe h=>?_
 simp only[seval,EMB]
 refine mU e (.seqK (.block (.seqK (.joinV ([U,U,.ptr 0 0,.ptr 1 0,U,U,.d (.bool ((a0.Y==a1.Y)&&(decide (a0.X>a1.X))))]++us 71) ⟨[(cH a0),(cK a1)],[]⟩ rfl ?_ ?_)))) h
 refine SWs.region ?_
 rcases zE (a0.Y==a1.Y)with hb13 | hb13
 simp only[seval,EMB,SL,PB,bM,sz_2,ag_2,ca,bG,bE,hb13]
 simp only[seval,EMB,SL,PB,bM,sz_2,ag_2,ca,hb13]
 refine Mir.toK (.cond rfl (λhb25=>?_) (λhb25=>?_))
 refine .seqK (.bind λy1 hy26=>.region λe h=>?_)
 simp only[seval,EMB,bG,sz_2,ag_2,bE]
 refine SpecS.by (cR hy26) (by simp only[seval,FMB]) ?_
 simp only[seval,EMB]
 refine mU e (.ret λe h=>?_) h
 cases h
 simp only[seval,FMB,Tryz.results107]
 refine .seqK (.joinV ([U,U,.ptr 0 0,.ptr 1 0,U,U,U,U,U,U,U,U,U,U,U,U,U,U,U,U,U,U,U,U,.d (.bool ((a0.X==a1.X)&&(decide (a0.Y>a1.Y))))]++us 53) ⟨[(cH a0),(cK a1)],[]⟩ rfl ?_ ?_)
 refine SWs.region ?_
 rcases zE (a0.X==a1.X)with hb27 | hb27
 simp only[seval,EMB,SL,PB,bG,sz_2,ag_2,bE,bM,ca,hb27]
 simp only[seval,EMB,SL,PB,bG,sz_2,ag_2,bE,hb27]
 refine Mir.toK (.cond rfl (λhb36=>?_) (λhb36=>?_))
 refine .seqK (.bind λy2 hy37=>.region λe h=>?_)
 simp only[seval,EMB,bM,sz_2,ag_2,ca]
 refine SpecS.by (cR hy37) (by simp only[seval,FMB]) ?_
 simp only[seval,EMB]
 refine mU e (.ret λe h=>?_) h
 cases h
 simp only[seval,FMB,Tryz.results107]
 refine .seqK (.joinV ([U,U,.ptr 0 0,.ptr 1 0,U,U,U,U,U,U,U,U,U,U,U,U,U,U,U,U,U,U,U,U,U,U,U,U,U,U,U,U,U,U,U,U,U,U,U,U,U,U,.d (.bool ((a0.Y==a1.Y)&&(decide (a0.X<a1.X))))]++us 35) ⟨[(cH a0),(cK a1)],[]⟩ rfl ?_ ?_)
 refine SWs.region ?_
 rcases zE (a0.Y==a1.Y)with hb38 | hb38
 simp only[seval,EMB,SL,PB,bM,sz_2,ag_2,ca,bG,bE,hb38]
 simp only[seval,EMB,SL,PB,bM,sz_2,ag_2,ca,hb38]
 refine Mir.toK (.cond rfl (λhb44=>?_) (λhb44=>?_))
 refine .seqK (.bind λy3 hy45=>.region λe h=>?_)
 simp only[seval,EMB,bG,sz_2,ag_2,bE]
 refine SpecS.by (cR hy45) (by simp only[seval,FMB]) ?_
 simp only[seval,EMB]
 refine mU e (.ret λe h=>?_) h
 cases h
 simp only[seval,FMB,Tryz.results107]
 refine .seqK (.joinV ([U,U,.ptr 0 0,.ptr 1 0,U,U,U,U,U,U,U,U,U,U,U,U,U,U,U,U,U,U,U,U,U,U,U,U,U,U,U,U,U,U,U,U,U,U,U,U,U,U,U,U,U,U,U,U,U,U,U,U,U,U,U,U,U,U,U,U,.d (.bool ((a0.X==a1.X)&&(decide (a0.Y<a1.Y))))]++us 17) ⟨[(cH a0),(cK a1)],[]⟩ rfl ?_ ?_)
 refine SWs.region ?_
 rcases zE (a0.X==a1.X)with hb46 | hb46
 simp only[seval,EMB,SL,PB,bG,sz_2,ag_2,bE,bM,ca,hb46]
 simp only[seval,EMB,SL,PB,bG,sz_2,ag_2,bE,hb46]
 refine Mir.toK (.cond rfl (λhb49=>?_) (λhb49=>?_))
 refine .seqK (.bind λy4 hy50=>.region λe h=>?_)
 simp only[seval,EMB,bM,sz_2,ag_2,ca]
 refine SpecS.by (cR hy50) (by simp only[seval,FMB]) ?_
 simp only[seval,EMB]
 refine mU e (.ret λe h=>?_) h
 cases h
 simp only[seval,FMB,Tryz.results107]
 refine .skip (Mir.toB (Mir.toK (.sR λe h=>?_)))
 simp only[seval,EMB]
 refine mU e (.ret λe h=>?_) h
 cases h
 simp only[seval,FMB,Tryz.results107]
def fV(a0:au):Option Bool:=some ((a0.Kind==3)||(a0.Kind==4))
theorem dK{a0:au}{y:Bool}(h:fV a0=some y):Spec gP 106 [.agg (cB a0)] (.d (.bool y)):=by
 refine aB Tryz.func106 rfl (by kernel_rfl) (by kernel_rfl) (λy:Bool=>.d (.bool y)) ?_ h
 unfold fV
 simp only[zB,zD,nS,nA,Tryz.ntmps106,SV]
 refine .sR λe h=>?_
 simp only[seval,EMB]
 refine mU e (.seqK (.joinV ([U,U,.d (.bool ((a0.Kind==3)||(a0.Kind==4)))]++us 8) ⟨[(cB a0)],[]⟩ rfl ?_ ?_)) h
 refine SWs.region ?_
 rcases zE (a0.Kind==3)with hb1 | hb1
 simp only[seval,EMB,SL,PB,db,sz_3,ag_3,hb1]
 simp only[seval,EMB,SL,PB,db,sz_3,ag_3,hb1]
 refine Mir.toK (.ret λe h=>?_)
 cases h
 simp only[seval,FMB,Tryz.results106]
def fU(a0:ag)(a1:au):Option Bool:=if (a1.Kind==1)=true then some (a1.Rate==0)else if (a1.Kind==2)=true then some (decide (a1.Rate>0))else bindO (cV a0 a1.Center) λ(y1:Int×Int)=>bindO (cV a1.To a1.Center) λ(y2:Int×Int)=>bindO (bindO (fV (au.mk a1.Kind a1.To a1.Center a1.Rate)) λ(y3:Bool)=>if y3=true then if (decide (a1.Rate>0))=true then if (decide (y1.2>0))=true then some (y1.2==y2.2)else some false else some false else some false) λ(v1:Bool)=>some v1
theorem ip_right_spec{a0:ag}{a1:au}{y:Bool}(h:fU a0 a1=some y):Spec gP 105 [.agg (cH a0),.agg (cB a1)] (.d (.bool y)):=by
 refine aB Tryz.func105 rfl (by kernel_rfl) (by kernel_rfl) (λy:Bool=>.d (.bool y)) ?_ h
 unfold fU
 simp only[zB,zD,nS,nA,Tryz.ntmps105,SV]
 refine .sR λe h=>?_
 simp only[seval,EMB]
 refine mU e (.seqK (.sR λe h=>?_)) h
 simp only[seval,EMB,db,sz_3,ag_3]
 refine mU e (.block (.sR λe h=>?_)) h
 simp only[seval,EMB]
 refine mU e (.cond rfl (λhb5=>?_) (λhb5=>?_)) h
 refine .sR λe h=>?_
 simp only[seval,EMB,fX,sz_2,ag_2]
 refine mU e (.ret λe h=>?_) h
 cases h
 simp only[seval,FMB,Tryz.results105]
 refine .sR λe h=>?_
 simp only[seval,EMB]
 refine mU e (.cond rfl (λhb7=>?_) (λhb7=>?_)) h
 refine .sR λe h=>?_
 simp only[seval,EMB,fX,sz_2,ag_2]
 refine mU e (.ret λe h=>?_) h
 cases h
 simp only[seval,FMB,Tryz.results105]
 refine .skip (Mir.toB (Mir.toK (.seqK (.bind λy1 hy8=>.region λe h=>?_))))
 simp only[seval,EMB,ag_24,sz_24,dM,sz_91,ag_91]
 refine SpecS.by (dJ hy8) (by simp only[seval,FMB]) ?_
 simp only[seval,EMB]
 refine mU e (.seqK (.bind λy2 hy9=>.region λe h=>?_)) h
 simp only[seval,EMB,b9,sz_24,ag_24,dM,sz_91,ag_91]
 refine SpecS.by (dJ hy9) (by simp only[seval,FMB]) ?_
 simp only[seval,EMB]
 refine mU e (.seqK (Mir.joinO (λv1:Bool=>([U,U,U,U,.d (.bool v1)]++us 47)) (λv1=>⟨[(cH a0),(cB a1)],[]⟩) (λ_=>rfl) ?_ ?_)) h
 refine .bind λy3 hy10=>.ite (λhb11=>?_) (λhb11=>?_)
 refine .ite (λhb12=>?_) (λhb12=>?_)
 refine .ite (λhb13=>?_) (λhb13=>?_)
 refine .region λe h=>?_
 simp only[seval,EMB,ag_95,sz_95,hb11,hb12,hb13]
 refine SpecS.by (dK hy10) (by simp only[seval,FMB,hb11,hb12,hb13]) ?_
 simp only[seval,EMB,fX,sz_2,ag_2,hb11,hb12,hb13]
 cases h
 simp only[seval,FMB,hb11,hb12,hb13]
 refine .region λe h=>?_
 simp only[seval,EMB,ag_95,sz_95,hb11,hb12,hb13]
 refine SpecS.by (dK hy10) (by simp only[seval,FMB,hb11,hb12,hb13]) ?_
 simp only[seval,EMB,fX,sz_2,ag_2,hb11,hb12,hb13]
 cases h
 simp only[seval,FMB,hb11,hb12,hb13]
 refine .region λe h=>?_
 simp only[seval,EMB,ag_95,sz_95,hb11,hb12]
 refine SpecS.by (dK hy10) (by simp only[seval,FMB,hb11,hb12]) ?_
 simp only[seval,EMB,fX,sz_2,ag_2,hb11,hb12]
 cases h
 simp only[seval,FMB,hb11,hb12]
 refine .region λe h=>?_
 simp only[seval,EMB,ag_95,sz_95,hb11]
 refine SpecS.by (dK hy10) (by simp only[seval,FMB,hb11]) ?_
 simp only[seval,EMB,hb11]
 cases h
 simp only[seval,FMB,hb11]
 intro v1
 refine Mir.toK (.ret λe h=>?_)
 cases h
 simp only[seval,FMB,Tryz.results105]
def d4(a0:ag)(a1:au):Option Int:=bindO (fU (ag.mk a0.X a0.Y a0.Z) (au.mk a1.Kind a1.To a1.Center a1.Rate)) λ(y1:Bool)=>if (!y1)=true then some 1 else bindO (fV (au.mk a1.Kind a1.To a1.Center a1.Rate)) λ(y2:Bool)=>bindX (if y2=true then bindO (cV (ag.mk a0.X a0.Y a0.Z) a1.Center) λ(y3:Int×Int)=>bindO (if (decide (y3.2>10000000))=true then some true else bindO (cS a1.Center.X 0) λ(y4:Int)=>if (decide (y4>10000000))=true then some true else bindO (cS a1.Center.Y 0) λ(y5:Int)=>some (decide (y5>10000000))) λ(v1:Bool)=>if v1=true then some (.ret 11)else some (.go [a0.X,a0.Y,a0.Z,a1.To.X,a1.To.Y,a1.To.Z,zX.wrap (a1.Center.X+(zX.wrap y3.2)),zX.wrap (a1.Center.X-(zX.wrap y3.2)),zX.wrap (a1.Center.Y+(zX.wrap y3.2)),zX.wrap (a1.Center.Y-(zX.wrap y3.2))])else some (.go [a0.X,a0.Y,a0.Z,a1.To.X,a1.To.Y,a1.To.Z])) λ(v2:(List Int))=>bindX (aF (okIdx v2) ( aU (λ(i1:Nat) (e1:Int) (v3:Unit)=>bindO (cS e1 0) λ(y6:Int)=>if (decide (y6>10000000))=true then some (.ret (.ret 11))else some (.go ())) (λ(v3:Unit)=>some (.go ())) v2 0 ())) λ(v4:Unit)=>some 0
theorem ip_Valid_spec{a0:ag}{a1:au}{y:Int}(h:d4 a0 a1=some y):Spec gP 59 [.agg (cH a0),.agg (cB a1)] (.d (.int .i64 y)):=by
 refine aB Tryz.func59 rfl (by kernel_rfl) (by kernel_rfl) (λy:Int=>.d (.int .i64 y)) ?_ h
 unfold d4
 simp only[zB,zD,nS,nA,Tryz.ntmps59,SV]
 refine .sR λe h=>?_
 simp only[seval,EMB,eInt]
 refine mU e (.seqK (.seqK (.bind λy1 hy1=>.region λe h=>?_))) h
 simp only[seval,EMB,ag_24,sz_24,ag_95,sz_95,eInt]
 refine SpecS.by (ip_right_spec hy1) (by simp only[seval,FMB,eInt]) ?_
 simp only[seval,EMB,eInt]
 refine mU e (.cond rfl (λhb3=>?_) (λhb3=>?_)) h
 refine .sR λe h=>?_
 simp only[seval,EMB]
 refine mU e (.ret λe h=>?_) h
 cases h
 simp only[seval,FMB,Tryz.results59]
 refine .skip (Mir.toK (.sR λe h=>?_))
 simp only[seval,EMB,bG,sz_2,ag_2,bM,cv,b9,sz_24,cn,kH,(oL 6),eInt]
 refine mU e (.seqK (.seqK (.bind λy2 hy4=>.region λe h=>?_))) h
 simp only[seval,EMB,ag_95,sz_95,eInt]
 refine SpecS.by (dK hy4) (by simp only[seval,FMB,eInt]) ?_
 simp only[seval,EMB,eInt]
 refine mU e (Mir.join (λv2:(List Int)=>([U,U,U,U,U,.d (.list (zA (eInt .i64) v2))]++us 85)) (λv2=>⟨[(cH a0),(cB a1)],[]⟩) (λ_=>rfl) ?_ ?_) h
 refine .cond rfl (λhb13=>?_) (λhb13=>?_)
 refine .seqK (.bind λy3 hy14=>.region λe h=>?_)
 simp only[seval,EMB,ag_24,sz_24,dM,sz_91,ag_91,eInt]
 refine SpecS.by (dJ hy14) (by simp only[seval,FMB,eInt]) ?_
 simp only[seval,EMB,eInt]
 refine mU e (.seqK (.seqK (Mir.joinO (λv1:Bool=>([U,U,U,.ptr 1 0,U,.full (zA (eInt .i64) [a0.X,a0.Y,a0.Z,a1.To.X,a1.To.Y,a1.To.Z]),U,.d (.int .u64 y3.2),U,U,U,U,U,U,U,U,U,U,U,U,U,U,U,U,U,U,U,U,U,U,U,U,U,U,U,U,U,U,U,U,U,U,U,U,U,U,U,U,U,U,U,U,U,U,U,.d (.bool v1)]++us 35)) (λv1=>⟨[(cH a0),(cB a1)],[]⟩) (λ_=>rfl) ?_ ?_))) h
 refine .ite (λhb15=>?_) (λhb15=>?_)
 refine .region λe h=>?_
 simp only[seval,EMB,eInt,hb15]
 cases h
 simp only[seval,FMB,eInt,hb15]
 refine .bind λy4 hy16=>.ite (λhb17=>?_) (λhb17=>?_)
 refine .region λe h=>?_
 simp only[seval,EMB,dM,sz_91,bE,sz_2,ag_2,eInt,hb15,hb17]
 refine SpecS.by (cR hy16) (by simp only[seval,FMB,eInt,hb15,hb17]) ?_
 simp only[seval,EMB,eInt,hb15,hb17]
 cases h
 simp only[seval,FMB,eInt,hb15,hb17]
 refine .bind λy5 hy18=>.region λe h=>?_
 simp only[seval,EMB,dM,sz_91,bE,sz_2,ag_2,eInt,hb15,hb17]
 refine SpecS.by (cR hy16) (by simp only[seval,FMB,eInt,hb15,hb17]) ?_
 simp only[seval,EMB,dM,sz_91,ca,sz_2,ag_2,eInt,hb15,hb17]
 refine SpecS.by (cR hy18) (by simp only[seval,FMB,eInt,hb15,hb17]) ?_
 simp only[seval,EMB,eInt,hb15,hb17]
 cases h
 simp only[seval,FMB,eInt,hb15,hb17]
 intro v1
 refine Mir.toK (.cond rfl (λhb20=>?_) (λhb20=>?_))
 refine .sR λe h=>?_
 simp only[seval,EMB,eInt]
 refine mU e (.ret λe h=>?_) h
 cases h
 simp only[seval,FMB,eInt,Tryz.results59]
 refine .skip (Mir.toK (.sR λe h=>?_))
 simp only[seval,EMB,und_196,und_2,eInt]
 refine mU e (.region λe h=>?_) h
 simp only[seval,EMB,dM,sz_91,bE,sz_2,ag_2,ca,cn,kH,(oL 4),app_64,al_eInt,(oL 10),eInt]
 cases h
 simp only[seval,FMB,eInt,Tryz.results59]
 refine .skip λe h=>?_
 cases h
 simp only[seval,FMB,eInt,Tryz.results59]
 intro v2
 refine Mir.toK (.seqK (.sR λe h=>?_))
 simp only[seval,EMB,cn,eInt]
 refine mU e (Mir.join (λv4:Unit=>(us 91)) (λv4=>⟨[(cH a0),(cB a1)],[]⟩) (λ_=>rfl) ?_ ?_) h
 refine .block (.guard λqg85=>Mir.range (λ(i1:Nat) (v3:Unit)=>([U,U,U,U,U,U,U,U,U,U,U,U,U,U,U,U,U,U,U,U,U,U,U,U,U,U,U,U,U,U,U,U,U,U,U,U,U,U,U,U,U,U,U,U,U,U,U,U,U,U,U,U,U,U,U,U,U,U,U,U,U,U,U,U,U,U,U,U,U,U,U,U,U,U,U,U,U,U,U,U,U,.d (.list (zA (eInt .i64) v2)),.d (.int .i64 (v2.length:Int)),.d (.int .i64 (i1:Int))]++us 7)) (λi1 v3=>⟨[(cH a0),(cB a1)],[]⟩) qg85 (λ_ _=>rfl) (by simp only[seval,FMB,eInt,zNI]) (by simp only[seval,FMB,eInt,zNI]) ?_ ?_)
 intro i1 e1 v3 qr83
 refine .sR λe h=>?_
 simp only[seval,EMB,qr83,eInt]
 refine mU e (.seqK (.condT rfl (.skip (Mir.toK (.seqK (.block (.sR λe h=>?_))))))) h
 simp only[seval,EMB,cn,sz_2,qr83,zG,ag_2,eInt]
 refine mU e (.seqK (.bind λy6 hy88=>.region λe h=>?_)) h
 simp only[seval,EMB,eInt]
 refine SpecS.by (cR hy88) (by simp only[seval,FMB,eInt]) ?_
 simp only[seval,EMB,eInt]
 refine mU e (.cond rfl (λhb90=>?_) (λhb90=>?_)) h
 refine .sR λe h=>?_
 simp only[seval,EMB,eInt]
 refine mU e (.ret λe h=>?_) h
 cases h
 simp only[seval,FMB,eInt,Tryz.results59]
 refine .skip (Mir.toB (Mir.toK (.region λe h=>?_)))
 simp only[seval,EMB,eInt]
 cases h
 simp only[seval,FMB,eInt,Tryz.results59,qr83]
 intro v3 qd84
 refine .sR λe h=>?_
 simp only[seval,EMB,qd84,eInt]
 refine mU e (.seqK (.condF rfl (.exit λe h=>?_))) h
 cases h
 simp only[seval,FMB,eInt,Tryz.results59]
 intro v4
 refine Mir.toK (.sR λe h=>?_)
 simp only[seval,EMB,eInt]
 refine mU e (.ret λe h=>?_) h
 cases h
 simp only[seval,FMB,eInt,Tryz.results59]
def jN(a0:ag)(a1:au):Option (ac×Int):=bindO (d4 (ag.mk a0.X a0.Y a0.Z) (au.mk a1.Kind a1.To a1.Center a1.Rate)) λ(y1:Int)=>if (y1 != 0)=true then some (ac.mk false [] [],y1)else if (decide (a1.Rate>1000000000000))=true then some (ac.mk false [] [],11)else bindO (aF (decide (0≤a1.Kind∧a1.Kind<5)) ( if (a1.Kind==0)=true then bindO (bX 71 0) λ(y2:ay)=>bindO (ck 88 a1.To.X) λ(y3:ay)=>bindO (ck 89 a1.To.Y) λ(y4:ay)=>bindO (ck 90 a1.To.Z) λ(y5:ay)=>bindO (dI [y2,y3,y4,y5]) λ(y6:ac)=>some (y6.Skip,y6.Words,y6.Comment)else if (a1.Kind==1)=true then bindO (bX 71 0) λ(y7:ay)=>bindO (ck 88 a1.To.X) λ(y8:ay)=>bindO (ck 89 a1.To.Y) λ(y9:ay)=>bindO (ck 90 a1.To.Z) λ(y10:ay)=>bindO (dI [y7,y8,y9,y10]) λ(y11:ac)=>some (y11.Skip,y11.Words,y11.Comment)else if (a1.Kind==2)=true then bindO (bX 71 1) λ(y12:ay)=>bindO (ck 88 a1.To.X) λ(y13:ay)=>bindO (ck 89 a1.To.Y) λ(y14:ay)=>bindO (ck 90 a1.To.Z) λ(y15:ay)=>bindO (dI [y12,y13,y14,y15]) λ(y16:ac)=>some (y16.Skip,y16.Words,y16.Comment)else if (a1.Kind==3)=true then bindO (bX 71 2) λ(y17:ay)=>bindO (ck 88 a1.To.X) λ(y18:ay)=>bindO (ck 89 a1.To.Y) λ(y19:ay)=>bindO (ck 90 a1.To.Z) λ(y20:ay)=>bindO (dI [y17,y18,y19,y20]) λ(y21:ac)=>some (y21.Skip,y21.Words,y21.Comment)else bindO (bX 71 3) λ(y22:ay)=>bindO (ck 88 a1.To.X) λ(y23:ay)=>bindO (ck 89 a1.To.Y) λ(y24:ay)=>bindO (ck 90 a1.To.Z) λ(y25:ay)=>bindO (dI [y22,y23,y24,y25]) λ(y26:ac)=>some (y26.Skip,y26.Words,y26.Comment))) λ(v1:Bool×(List ay)×(List UInt8))=>if ((a1.Kind==3)||(a1.Kind==4))=true then bindO (ck 73 (zX.wrap (a1.Center.X-a0.X))) λ(y27:ay)=>bindO (ck 74 (zX.wrap (a1.Center.Y-a0.Y))) λ(y28:ay)=>aF (okLen (v1.2.1.length+2)) ( if (a1.Kind != 1)=true then bindO (ck 70 a1.Rate) λ(y29:ay)=>aF (okLen (v1.2.1.length+2+1)) ( some (ac.mk v1.1 (v1.2.1++[y27,y28]++[y29]) v1.2.2,0))else some (ac.mk v1.1 (v1.2.1++[y27,y28]) v1.2.2,0))else if (a1.Kind != 1)=true then bindO (ck 70 a1.Rate) λ(y30:ay)=>aF (okLen (v1.2.1.length+1)) ( some (ac.mk v1.1 (v1.2.1++[y30]) v1.2.2,0))else some (ac.mk v1.1 v1.2.1 v1.2.2,0)
theorem jM{a0:ag}{a1:au}{y:ac×Int}(h:jN a0 a1=some y):Spec gP 28 [.agg (cH a0),.agg (cB a1)] (.tuple [.agg [.d (.bool y.1.Skip),.d (.list (zA ar y.1.Words)),.d (.str y.1.Comment)],.d (.int .i64 y.2)]):=by
 refine aB Tryz.func28 rfl (by kernel_rfl) (by kernel_rfl) (λy:ac×Int=>.tuple [.agg [.d (.bool y.1.Skip),.d (.list (zA ar y.1.Words)),.d (.str y.1.Comment)],.d (.int .i64 y.2)]) ?_ h
 unfold jN
 simp only[zB,zD,nS,nA,Tryz.ntmps28,SV]
 refine .sR λe h=>?_
 simp only[seval,EMB,aC]
 refine mU e (.seqK (.seqK (.bind λy1 hy1=>.region λe h=>?_))) h
 simp only[seval,EMB,ag_24,sz_24,ag_95,sz_95]
 refine SpecS.by (ip_Valid_spec hy1) (by simp only[seval,FMB]) ?_
 simp only[seval,EMB]
 refine mU e (.sR λe h=>?_) h
 simp only[seval,EMB]
 refine mU e (.cond rfl (λhb2=>?_) (λhb2=>?_)) h
 refine .sR λe h=>?_
 simp only[seval,EMB,aC,pl_58,sz_58]
 refine mU e (.ret λe h=>?_) h
 cases h
 simp only[seval,FMB,Tryz.results28,ag_58,sz_58]
 refine .skip (Mir.toK (.seqK (.sR λe h=>?_)))
 simp only[seval,EMB,fX,sz_2,ag_2]
 refine mU e (.cond rfl (λhb3=>?_) (λhb3=>?_)) h
 refine .sR λe h=>?_
 simp only[seval,EMB,aC,pl_58,sz_58]
 refine mU e (.ret λe h=>?_) h
 cases h
 simp only[seval,FMB,Tryz.results28,ag_58,sz_58]
 refine .skip (Mir.toK (.seqK (Mir.joinO (λv1:Bool×(List ay)×(List UInt8)=>([U,U,.ptr 0 0,.ptr 1 0,.ptr 2 0,U,U,.ptr 3 0]++us 69)) (λv1=>⟨[(cH a0),(cB a1),[.d (.bool false),.nil,.d (.str [])],[.d (.bool v1.1),.full (zA ar v1.2.1),.d (.str v1.2.2)]],[]⟩) (λ_=>rfl) ?_ ?_)))
 refine .guard λqi4=>.ite (λhb5=>?_) (λhb5=>?_)
 refine .bind λy2 hy6=>.bind λy3 hy7=>.bind λy4 hy8=>.bind λy5 hy9=>.bind λy6 hy10=>.regionD [] (by kernel_rfl) λe h=>?_
 simp only[seval,EMB,SB,db,sz_3,ag_3,und_153,(eq_of_beq hb5),sz_2,ag_2,glT,hb5]
 refine Spec.by (bv hy6) (by simp only[seval,FMB,hb5]) ?_
 simp only[seval,EMB,SB,b9,sz_24,bG,sz_2,ag_2,hb5]
 refine Spec.by (bg hy7) (by simp only[seval,FMB,hb5]) ?_
 simp only[seval,EMB,SB,b9,sz_24,bM,sz_2,ag_2,hb5]
 refine Spec.by (bg hy8) (by simp only[seval,FMB,hb5]) ?_
 simp only[seval,EMB,SB,b9,sz_24,cv,sz_2,ag_2,hb5]
 refine Spec.by (bg hy9) (by simp only[seval,FMB,hb5]) ?_
 simp only[seval,EMB,SB,br,bP,bk,(oL 8),hb5]
 refine Spec.byF (bV hy10) (by simp only[seval,FMB,hb5]) ?_
 simp only[seval,EMB,SB,aC,sz_58,hb5]
 cases h
 simp only[seval,FMB,hb5]
 refine .ite (λhb11=>?_) (λhb11=>?_)
 refine .bind λy7 hy12=>.bind λy8 hy13=>.bind λy9 hy14=>.bind λy10 hy15=>.bind λy11 hy16=>.regionD [] (by kernel_rfl) λe h=>?_
 simp only[seval,EMB,SB,db,sz_3,ag_3,und_153,(eq_of_beq hb11),sz_2,ag_2,glT,hb5,hb11]
 refine Spec.by (bv hy12) (by simp only[seval,FMB,hb5,hb11]) ?_
 simp only[seval,EMB,SB,b9,sz_24,bG,sz_2,ag_2,hb5,hb11]
 refine Spec.by (bg hy13) (by simp only[seval,FMB,hb5,hb11]) ?_
 simp only[seval,EMB,SB,b9,sz_24,bM,sz_2,ag_2,hb5,hb11]
 refine Spec.by (bg hy14) (by simp only[seval,FMB,hb5,hb11]) ?_
 simp only[seval,EMB,SB,b9,sz_24,cv,sz_2,ag_2,hb5,hb11]
 refine Spec.by (bg hy15) (by simp only[seval,FMB,hb5,hb11]) ?_
 simp only[seval,EMB,SB,br,bP,bk,(oL 8),hb5,hb11]
 refine Spec.byF (bV hy16) (by simp only[seval,FMB,hb5,hb11]) ?_
 simp only[seval,EMB,SB,aC,sz_58,hb5,hb11]
 cases h
 simp only[seval,FMB,hb5,hb11]
 refine .ite (λhb17=>?_) (λhb17=>?_)
 refine .bind λy12 hy18=>.bind λy13 hy19=>.bind λy14 hy20=>.bind λy15 hy21=>.bind λy16 hy22=>.regionD [] (by kernel_rfl) λe h=>?_
 simp only[seval,EMB,SB,db,sz_3,ag_3,und_153,(eq_of_beq hb17),sz_2,ag_2,glT,hb5,hb11,hb17]
 refine Spec.by (bv hy18) (by simp only[seval,FMB,hb5,hb11,hb17]) ?_
 simp only[seval,EMB,SB,b9,sz_24,bG,sz_2,ag_2,hb5,hb11,hb17]
 refine Spec.by (bg hy19) (by simp only[seval,FMB,hb5,hb11,hb17]) ?_
 simp only[seval,EMB,SB,b9,sz_24,bM,sz_2,ag_2,hb5,hb11,hb17]
 refine Spec.by (bg hy20) (by simp only[seval,FMB,hb5,hb11,hb17]) ?_
 simp only[seval,EMB,SB,b9,sz_24,cv,sz_2,ag_2,hb5,hb11,hb17]
 refine Spec.by (bg hy21) (by simp only[seval,FMB,hb5,hb11,hb17]) ?_
 simp only[seval,EMB,SB,br,bP,bk,(oL 8),hb5,hb11,hb17]
 refine Spec.byF (bV hy22) (by simp only[seval,FMB,hb5,hb11,hb17]) ?_
 simp only[seval,EMB,SB,aC,sz_58,hb5,hb11,hb17]
 cases h
 simp only[seval,FMB,hb5,hb11,hb17]
 refine .ite (λhb23=>?_) (λhb23=>?_)
 refine .bind λy17 hy24=>.bind λy18 hy25=>.bind λy19 hy26=>.bind λy20 hy27=>.bind λy21 hy28=>.regionD [] (by kernel_rfl) λe h=>?_
 simp only[seval,EMB,SB,db,sz_3,ag_3,und_153,(eq_of_beq hb23),sz_2,ag_2,glT,hb5,hb11,hb17,hb23]
 refine Spec.by (bv hy24) (by simp only[seval,FMB,hb5,hb11,hb17,hb23]) ?_
 simp only[seval,EMB,SB,b9,sz_24,bG,sz_2,ag_2,hb5,hb11,hb17,hb23]
 refine Spec.by (bg hy25) (by simp only[seval,FMB,hb5,hb11,hb17,hb23]) ?_
 simp only[seval,EMB,SB,b9,sz_24,bM,sz_2,ag_2,hb5,hb11,hb17,hb23]
 refine Spec.by (bg hy26) (by simp only[seval,FMB,hb5,hb11,hb17,hb23]) ?_
 simp only[seval,EMB,SB,b9,sz_24,cv,sz_2,ag_2,hb5,hb11,hb17,hb23]
 refine Spec.by (bg hy27) (by simp only[seval,FMB,hb5,hb11,hb17,hb23]) ?_
 simp only[seval,EMB,SB,br,bP,bk,(oL 8),hb5,hb11,hb17,hb23]
 refine Spec.byF (bV hy28) (by simp only[seval,FMB,hb5,hb11,hb17,hb23]) ?_
 simp only[seval,EMB,SB,aC,sz_58,hb5,hb11,hb17,hb23]
 cases h
 simp only[seval,FMB,hb5,hb11,hb17,hb23]
 have hz29:a1.Kind=4:=by have h0:=of_decide_eq_true qi4;have h1:=bs hb5;have h2:=bs hb11;have h3:=bs hb17;have h4:=bs hb23;omega
 refine .bind λy22 hy30=>.bind λy23 hy31=>.bind λy24 hy32=>.bind λy25 hy33=>.bind λy26 hy34=>.regionD [] (by kernel_rfl) λe h=>?_
 simp only[seval,EMB,SB,db,sz_3,ag_3,und_153,hz29,sz_2,ag_2,glT,hb5,hb11,hb17,hb23]
 refine Spec.by (bv hy30) (by simp only[seval,FMB,hb5,hb11,hb17,hb23]) ?_
 simp only[seval,EMB,SB,b9,sz_24,bG,sz_2,ag_2,hb5,hb11,hb17,hb23]
 refine Spec.by (bg hy31) (by simp only[seval,FMB,hb5,hb11,hb17,hb23]) ?_
 simp only[seval,EMB,SB,b9,sz_24,bM,sz_2,ag_2,hb5,hb11,hb17,hb23]
 refine Spec.by (bg hy32) (by simp only[seval,FMB,hb5,hb11,hb17,hb23]) ?_
 simp only[seval,EMB,SB,b9,sz_24,cv,sz_2,ag_2,hb5,hb11,hb17,hb23]
 refine Spec.by (bg hy33) (by simp only[seval,FMB,hb5,hb11,hb17,hb23]) ?_
 simp only[seval,EMB,SB,br,bP,bk,(oL 8),hb5,hb11,hb17,hb23]
 refine Spec.byF (bV hy34) (by simp only[seval,FMB,hb5,hb11,hb17,hb23]) ?_
 simp only[seval,EMB,SB,aC,sz_58,hb5,hb11,hb17,hb23]
 cases h
 simp only[seval,FMB,hb5,hb11,hb17,hb23]
 intro v1
 refine Mir.toK (.seqK (.seqK (.joinV ([U,U,.ptr 0 0,.ptr 1 0,.ptr 2 0,U,U,.ptr 3 0,U,U,U,U,U,U,U,U,U,U,U,U,U,U,U,U,U,U,U,U,U,U,U,U,U,U,U,U,U,U,U,U,U,U,U,U,U,.d (.bool ((a1.Kind==3)||(a1.Kind==4)))]++us 31) ⟨[(cH a0),(cB a1),[.d (.bool false),.nil,.d (.str [])],[.d (.bool v1.1),.full (zA ar v1.2.1),.d (.str v1.2.2)]],[]⟩ rfl ?_ ?_)))
 refine SWs.region ?_
 rcases zE (a1.Kind==3)with hb35 | hb35
 simp only[seval,EMB,SL,PB,db,sz_3,ag_3,hb35]
 simp only[seval,EMB,SL,PB,db,sz_3,ag_3,hb35]
 refine Mir.toK (.cond rfl (λhb36=>?_) (λhb36=>?_))
 refine .bind λy27 hy37=>.bind λy28 hy38=>.guard λq39=>.regionD [] (by kernel_rfl) λe h=>?_
 simp only[seval,EMB,SB,bL,sz_56,ag_56,dM,sz_91,bE,sz_2,ag_2,bG]
 refine Spec.by (bg hy37) (by simp only[seval,FMB]) ?_
 simp only[seval,EMB,SB,dM,sz_91,ca,sz_2,ag_2,bM]
 refine Spec.by (bg hy38) (by simp only[seval,FMB]) ?_
 simp only[seval,EMB,SB,br,bP,bk,(oL 4),app_56,dQ,q39,bL,sz_56]
 refine mU e (.seqK (.sR λe h=>?_)) h
 simp only[seval,EMB,db,sz_3,ag_3]
 refine mU e (.cond rfl (λhb40=>?_) (λhb40=>?_)) h
 refine .bind λy29 hy41=>.guard λq42=>.regionD [] (by kernel_rfl) λe h=>?_
 simp only[seval,EMB,SB,bL,sz_56,ag_56,fX,sz_2,ag_2]
 refine Spec.by (bg hy41) (by simp only[seval,FMB]) ?_
 simp only[seval,EMB,SB,br,bP,bk,(oL 2),app_56,dQ,xLA,q42,bL,sz_56]
 refine mU e (.sR λe h=>?_) h
 simp only[seval,EMB,ag_58,sz_58]
 refine mU e (.ret λe h=>?_) h
 cases h
 simp only[seval,FMB,Tryz.results28,ag_58,sz_58]
 refine .skip (Mir.toK (.sR λe h=>?_))
 simp only[seval,EMB,ag_58,sz_58]
 refine mU e (.ret λe h=>?_) h
 cases h
 simp only[seval,FMB,Tryz.results28,ag_58,sz_58]
 refine .skip (Mir.toK (.seqK (.sR λe h=>?_)))
 simp only[seval,EMB,db,sz_3,ag_3]
 refine mU e (.cond rfl (λhb43=>?_) (λhb43=>?_)) h
 refine .bind λy30 hy44=>.guard λq45=>.regionD [] (by kernel_rfl) λe h=>?_
 simp only[seval,EMB,SB,bL,sz_56,ag_56,fX,sz_2,ag_2]
 refine Spec.by (bg hy44) (by simp only[seval,FMB]) ?_
 simp only[seval,EMB,SB,br,bP,bk,(oL 2),app_56,dQ,q45,bL,sz_56]
 refine mU e (.sR λe h=>?_) h
 simp only[seval,EMB,ag_58,sz_58]
 refine mU e (.ret λe h=>?_) h
 cases h
 simp only[seval,FMB,Tryz.results28,ag_58,sz_58]
 refine .skip (Mir.toK (.sR λe h=>?_))
 simp only[seval,EMB,ag_58,sz_58]
 refine mU e (.ret λe h=>?_) h
 cases h
 simp only[seval,FMB,Tryz.results28,ag_58,sz_58]
def po_plain(a0:(List fg))(a1:ag)(a2:ct):Option ((List ac)×Int):=bindX (if ((decide (a1.X>10000000))||(decide (a1.X<(-10000000))))=true then some (.ret ([],11))else if ((decide (a1.Y>10000000))||(decide (a1.Y<(-10000000))))=true then some (.ret ([],11))else if ((decide (a1.Z>10000000))||(decide (a1.Z<(-10000000))))=true then some (.ret ([],11))else some (.go ())) λ(v1:Unit)=>bindO (bX 71 0) λ(y1:ay)=>bindO (bX 71 90) λ(y2:ay)=>bindO (ck 71 a2.Work) λ(y3:ay)=>bindO (bX 71 49) λ(y4:ay)=>bindO (bX 71 98) λ(y5:ay)=>bindO (dI [y1,y2,y3,y4,y5]) λ(y6:ac)=>bindX (aF (okIdx a0) ( aU (λ(i1:Nat) (e1:fg) (v2:(List ac)×ag)=>bindX (bindO (po_Change e1.Tool) λ(y7:(List ac)×Int)=>if (y7.2 != 0)=true then some (.ret (.ret (.ret ([],y7.2))))else aF (okLen (v2.1.length+y7.1.length)) ( aF (okIdx e1.Moves) ( aU (λ(i2:Nat) (e2:au) (v3:(List ac)×ag)=>bindO (jN v3.2 e2) λ(y8:ac×Int)=>if (y8.2 != 0)=true then some (.ret (.ret (.ret (.ret ([],y8.2)))))else aF (okLen (v3.1.length+1)) ( some (.go (v3.1++[y8.1],e2.To)))) (λ(v3:(List ac)×ag)=>some (.go (v3.1,v3.2))) e1.Moves 0 (v2.1++y7.1,v2.2)))) λ(v4:(List ac)×ag)=>some (.go (v4.1,v4.2))) (λ(v2:(List ac)×ag)=>some (.go (v2.1,v2.2))) a0 0 ([y6],ag.mk a1.X a1.Y a1.Z))) λ(v5:(List ac)×ag)=>bindO (bX 71 49) λ(y9:ay)=>bindO (dI [y9]) λ(y10:ac)=>bindO (bX 77 30) λ(y11:ay)=>bindO (dI [y11]) λ(y12:ac)=>aF (okLen (v5.1.length+2)) ( some (v5.1++[y10,y12],0))
theorem po_plain_spec{a0:(List fg)}{a1:ag}{a2:ct}{y:(List ac)×Int}(h:po_plain a0 a1 a2=some y):Spec gP 72 [.d (.list (zA ce a0)),.agg (cH a1),.agg (cG a2)] (.tuple [.d (.list (zA aa y.1)),.d (.int .i64 y.2)]):=by
 refine aB Tryz.func72 rfl (by kernel_rfl) (by kernel_rfl) (λy:(List ac)×Int=>.tuple [.d (.list (zA aa y.1)),.d (.int .i64 y.2)]) ?_ h
 unfold po_plain
 simp only[zB,zD,nS,nA,Tryz.ntmps72,SV]
 refine .sR λe h=>?_
 simp only[seval,EMB,eInt]
 refine mU e (.seqK (.sR λe h=>?_)) h
 simp only[seval,EMB,bG,sz_2,ag_2,bM,cv,cn,kH,(oL 3),(nr rfl:((3:Nat):Int)=3),eInt]
 refine mU e (Mir.join (λv1:Unit=>([.d (.list (zA ce a0)),U,U,U,.ptr 0 0,.ptr 1 0]++us 95)) (λv1=>⟨[(cH a1),(cG a2)],[]⟩) (λ_=>rfl) ?_ ?_) h
 refine .block (.loopR 15 (.sR λe h=>?_))
 simp only[seval,EMB,eInt]
 refine mU e (.seqK (.condT rfl (.skip (Mir.toK (.seqK (.block (.sR λe h=>?_))))))) h
 simp only[seval,EMB,cn,sz_2,ag_2,eInt]
 refine mU e (.seqK (.joinV ([.d (.list (zA ce a0)),U,U,U,.ptr 0 0,.ptr 1 0,U,U,U,U,U,U,U,U,U,U,U,U,U,U,U,U,U,U,U,U,.full (zA (eInt .i64) [a1.X,a1.Y,a1.Z]),.d (.int .i64 3),.d (.int .i64 0),U,U,U,U,U,U,U,U,.d (.bool ((decide (a1.X>10000000))||(decide (a1.X<(-10000000)))))]++us 63) ⟨[(cH a1),(cG a2)],[]⟩ rfl ?_ ?_)) h
 refine SWs.region ?_
 rcases zE (decide (a1.X>10000000))with hb18 | hb18
 simp only[seval,EMB,SL,PB,hb18,eInt]
 simp only[seval,EMB,SL,PB,hb18,eInt]
 refine Mir.toK (.cond rfl (λhb20=>?_) (λhb20=>?_))
 refine .sR λe h=>?_
 simp only[seval,EMB,eInt]
 refine mU e (.ret λe h=>?_) h
 cases h
 simp only[seval,FMB,eInt,Tryz.results72]
 refine .skip (Mir.toB (Mir.toK (.region λe h=>?_)))
 simp only[seval,EMB,(nr rfl:zX.wrap 1=1),eInt]
 refine Mir.useN (e:=e) ?_ h
 refine .sR λe h=>?_
 simp only[seval,EMB,eInt]
 refine mU e (.seqK (.condT rfl (.skip (Mir.toK (.seqK (.block (.sR λe h=>?_))))))) h
 simp only[seval,EMB,cn,sz_2,ag_2,eInt]
 refine mU e (.seqK (.joinV ([.d (.list (zA ce a0)),U,U,U,.ptr 0 0,.ptr 1 0,U,U,U,U,U,U,U,U,U,U,U,U,U,U,U,U,U,U,U,U,.full (zA (eInt .i64) [a1.X,a1.Y,a1.Z]),.d (.int .i64 3),.d (.int .i64 1),U,U,U,U,U,U,U,U,.d (.bool ((decide (a1.Y>10000000))||(decide (a1.Y<(-10000000)))))]++us 63) ⟨[(cH a1),(cG a2)],[]⟩ rfl ?_ ?_)) h
 refine SWs.region ?_
 rcases zE (decide (a1.Y>10000000))with hb23 | hb23
 simp only[seval,EMB,SL,PB,hb23,eInt]
 simp only[seval,EMB,SL,PB,hb23,eInt]
 refine Mir.toK (.cond rfl (λhb25=>?_) (λhb25=>?_))
 refine .sR λe h=>?_
 simp only[seval,EMB,eInt]
 refine mU e (.ret λe h=>?_) h
 cases h
 simp only[seval,FMB,eInt,Tryz.results72]
 refine .skip (Mir.toB (Mir.toK (.region λe h=>?_)))
 simp only[seval,EMB,(nr rfl:zX.wrap 2=2),eInt]
 refine Mir.useN (e:=e) ?_ h
 refine .sR λe h=>?_
 simp only[seval,EMB,eInt]
 refine mU e (.seqK (.condT rfl (.skip (Mir.toK (.seqK (.block (.sR λe h=>?_))))))) h
 simp only[seval,EMB,cn,sz_2,ag_2,eInt]
 refine mU e (.seqK (.joinV ([.d (.list (zA ce a0)),U,U,U,.ptr 0 0,.ptr 1 0,U,U,U,U,U,U,U,U,U,U,U,U,U,U,U,U,U,U,U,U,.full (zA (eInt .i64) [a1.X,a1.Y,a1.Z]),.d (.int .i64 3),.d (.int .i64 2),U,U,U,U,U,U,U,U,.d (.bool ((decide (a1.Z>10000000))||(decide (a1.Z<(-10000000)))))]++us 63) ⟨[(cH a1),(cG a2)],[]⟩ rfl ?_ ?_)) h
 refine SWs.region ?_
 rcases zE (decide (a1.Z>10000000))with hb28 | hb28
 simp only[seval,EMB,SL,PB,hb28,eInt]
 simp only[seval,EMB,SL,PB,hb28,eInt]
 refine Mir.toK (.cond rfl (λhb30=>?_) (λhb30=>?_))
 refine .sR λe h=>?_
 simp only[seval,EMB,eInt]
 refine mU e (.ret λe h=>?_) h
 cases h
 simp only[seval,FMB,eInt,Tryz.results72]
 refine .skip (Mir.toB (Mir.toK (.region λe h=>?_)))
 simp only[seval,EMB,(nr rfl:zX.wrap 3=3),eInt]
 refine Mir.useN (e:=e) ?_ h
 refine .sR λe h=>?_
 simp only[seval,EMB,eInt]
 refine mU e (.seqK (.condF rfl (.exit λe h=>?_))) h
 cases h
 simp only[seval,FMB,eInt,Tryz.results72]
 intro v1
 refine Mir.toK (.seqK (.bind λy1 hy31=>.bind λy2 hy32=>.bind λy3 hy33=>.bind λy4 hy34=>.bind λy5 hy35=>.bind λy6 hy36=>.regionT 4 [] (by kernel_rfl) λe h=>?_))
 simp only[seval,EMB,ah,w_eq,SB,eInt]
 refine Spec.by (bv hy31) (by simp only[seval,FMB,eInt]) ?_
 simp only[seval,EMB,ah,w_eq,SB,eInt]
 refine Spec.by (bv hy32) (by simp only[seval,FMB,eInt]) ?_
 simp only[seval,EMB,ah,w_eq,SB,je,sz_2,ag_2,eInt]
 refine regW.alt 5 rfl ?_
 simp only[seval,EMB,ah,w_eq,eInt]
 refine SpecS.by (bg hy33) (by simp only[seval,FMB,eInt]) ?_
 simp only[seval,EMB,ah,w_eq,eInt]
 refine SpecS.by (bv hy34) (by simp only[seval,FMB,eInt]) ?_
 simp only[seval,EMB,ah,w_eq,eInt]
 refine SpecS.by (bv hy35) (by simp only[seval,FMB,eInt]) ?_
 simp only[seval,EMB,ah,w_eq,br,bP,bk,(oL 10),eInt]
 refine SpecS.byF (bV hy36) (by simp only[seval,FMB,eInt]) ?_
 simp only[seval,EMB,ah,w_eq,eInt]
 refine alt_litOwn (es:=zA aa [y6]) bh (by simp only[seval,EMB,aE,sz_58,aC,(oL 3),eInt]) (by decide) (regW.of ?_)
 simp only[seval,EMB,ah,w_eq,aE,sz_58,aC,(oL 3),eInt]
 refine mU e (.sR λe h=>?_) h
 simp only[seval,EMB,ag_24,sz_24,bl,eInt]
 refine mU e (.seqK (.sR λe h=>?_)) h
 simp only[seval,EMB,und_22,eInt]
 refine mU e (Mir.join (λv5:(List ac)×ag=>([U,U,U,U,U,U,U,U,U,U,.own 0 (zA aa v5.1)]++us 90)) (λv5=>⟨[(cH a1),(cG a2),(cH v5.2)],[(58,v5.1.length)]⟩) (λ_=>rfl) ?_ ?_) h
 refine .block (.guard λq1=>Mir.range (λ(i1:Nat) (v2:(List ac)×ag)=>([U,U,U,U,U,U,U,U,U,U,.own 0 (zA aa v2.1),.ptr 2 0,U,U,U,U,U,U,U,U,U,U,U,U,U,U,U,U,U,U,U,U,U,U,U,U,U,U,U,U,U,U,U,U,U,U,U,U,U,U,.d (.list (zA ce a0)),.d (.int .i64 (a0.length:Int)),.d (.int .i64 (i1:Int))]++us 48)) (λi1 v2=>⟨[(cH a1),(cG a2),(cH v2.2)],[(58,v2.1.length)]⟩) q1 (λ_ _=>rfl) (by simp only[seval,FMB,eInt,zNI]) (by simp only[seval,FMB,eInt,zNI]) ?_ ?_)
 intro i1 e1 v2 q2
 refine .sR λe h=>?_
 simp only[seval,EMB,q2,eInt]
 refine mU e (.seqK (.condT rfl (.skip (Mir.toK (.seqK (Mir.join (λv4:(List ac)×ag=>([U,U,U,U,U,U,U,U,U,U,.own 0 (zA aa v4.1),.ptr 2 0,U,U,U,U,U,U,U,U,U,U,U,U,U,U,U,U,U,U,U,U,U,U,U,U,U,U,U,U,U,U,U,U,U,U,U,U,U,U,.d (.list (zA ce a0)),.d (.int .i64 (a0.length:Int)),.d (.int .i64 (i1:Int))]++us 48)) (λv4=>⟨[(cH a1),(cG a2),(cH v4.2)],[(58,v4.1.length)]⟩) (λ_=>rfl) ?_ ?_)))))) h
 refine .block (.sR λe h=>?_)
 simp only[seval,EMB,und_22,sz_106,q2,zG,ag_106,zero_106,eInt]
 refine mU e (.seqK (.bind λy7 h1=>.region λe h=>?_)) h
 simp only[seval,EMB,fld_106_0,sz_3,ag_3,eInt]
 refine SpecS.by (po_Change_spec h1) (by simp only[seval,FMB,eInt]) ?_
 simp only[seval,EMB,eInt]
 refine mU e (.seqK (.sR λe h=>?_)) h
 simp only[seval,EMB,eInt]
 refine mU e (.cond rfl (λh2=>?_) (λh2=>?_)) h
 refine .sR λe h=>?_
 simp only[seval,EMB,eInt]
 refine mU e (.ret λe h=>?_) h
 cases h
 simp only[seval,FMB,eInt,Tryz.results72]
 refine .skip (Mir.toK (.seqK (.guard λq3=>.region λe h=>?_)))
 simp only[seval,EMB,bh,ba,q3,eInt]
 refine mU e (.sR λe h=>?_) h
 simp only[seval,EMB,fld_106_1,sz_97,ag_97,gS,eInt]
 refine mU e (.block (.guard λq4=>Mir.range (λ(i2:Nat) (v3:(List ac)×ag)=>([U,U,U,U,U,U,U,U,U,U,.own 0 (zA aa v3.1),.ptr 2 0,U,U,U,U,U,U,U,U,U,U,U,U,U,U,U,U,U,U,U,U,U,U,U,U,U,U,U,U,U,U,U,U,U,U,U,U,U,U,.d (.list (zA ce a0)),.d (.int .i64 (a0.length:Int)),.d (.int .i64 (i1:Int)),U,U,U,U,U,U,U,U,U,U,U,U,U,U,U,U,.d (.list (zA bf e1.Moves)),.d (.int .i64 (e1.Moves.length:Int)),.d (.int .i64 (i2:Int))]++us 29)) (λi2 v3=>⟨[(cH a1),(cG a2),(cH v3.2),[.d (.int .i64 e1.Tool),.d (.list (zA bf e1.Moves))]],[(58,v3.1.length)]⟩) q4 (λ_ _=>rfl) (by simp only[seval,FMB,eInt,zNI]) (by simp only[seval,FMB,eInt,zNI]) ?_ ?_)) h
 intro i2 e2 v3 q5
 refine .sR λe h=>?_
 simp only[seval,EMB,q5,eInt]
 refine mU e (.seqK (.condT rfl (.skip (Mir.toK (.seqK (.block (.sR λe h=>?_))))))) h
 simp only[seval,EMB,gS,sz_95,q5,zG,ag_95,fD,eInt]
 refine mU e (.seqK (.bind λy8 h3=>.region λe h=>?_)) h
 simp only[seval,EMB,ag_24,sz_24,ag_95,sz_95,eInt]
 refine SpecS.by (jM h3) (by simp only[seval,FMB,eInt]) ?_
 simp only[seval,EMB,aC,sz_58,eInt]
 refine mU e (.seqK (.sR λe h=>?_)) h
 simp only[seval,EMB,eInt]
 refine mU e (.cond rfl (λh4=>?_) (λh4=>?_)) h
 refine .sR λe h=>?_
 simp only[seval,EMB,eInt]
 refine mU e (.ret λe h=>?_) h
 cases h
 simp only[seval,FMB,eInt,Tryz.results72]
 refine .skip (Mir.toK (.guard λq6=>.regionD [] (by kernel_rfl) λe h=>?_))
 simp only[seval,EMB,SB,ag_58,sz_58,aE,aC,(oL 3),bh,ba,q6,b9,sz_24,ag_24,eInt]
 refine mU e (.region λe h=>?_) h
 simp only[seval,EMB,eInt]
 cases h
 simp only[seval,FMB,eInt,Tryz.results72,q5]
 intro v3 q7
 refine .sR λe h=>?_
 simp only[seval,EMB,q7,eInt]
 refine mU e (.seqK (.condF rfl (.exit λe h=>?_))) h
 cases h
 simp only[seval,FMB,eInt,Tryz.results72]
 intro v4
 refine Mir.toK (.region λe h=>?_)
 simp only[seval,EMB,eInt]
 cases h
 simp only[seval,FMB,eInt,Tryz.results72,q2]
 intro v2 q8
 refine .sR λe h=>?_
 simp only[seval,EMB,q8,eInt]
 refine mU e (.seqK (.condF rfl (.exit λe h=>?_))) h
 cases h
 simp only[seval,FMB,eInt,Tryz.results72]
 intro v5
 refine Mir.toK (.seqK (.bind λy9 h5=>.bind λy10 h6=>.bind λy11 h7=>.bind λy12 h8=>.guard λq9=>.region λe h=>?_))
 simp only[seval,EMB,eInt]
 refine SpecS.by (bv h5) (by simp only[seval,FMB,eInt]) ?_
 simp only[seval,EMB,br,bP,bk,(oL 2),eInt]
 refine SpecS.byF (bV h6) (by simp only[seval,FMB,eInt]) ?_
 simp only[seval,EMB,eInt]
 refine SpecS.by (bv h7) (by simp only[seval,FMB,eInt]) ?_
 simp only[seval,EMB,br,bP,bk,(oL 2),eInt]
 refine SpecS.byF (bV h8) (by simp only[seval,FMB,eInt]) ?_
 simp only[seval,EMB,aE,sz_58,aC,(oL 6),bh,ba,q9,eInt]
 refine mU e (.ret λe h=>?_) h
 cases h
 simp only[seval,FMB,eInt,Tryz.results72]
def md_New :Option am:=some (am.mk 0 90000 54000 49000 98000 0 0 0)
theorem md_New_spec {y:am}(h:md_New=some y):Spec gP 54 [] (.agg [.d (.int .i64 y.Motion),.d (.int .i64 y.Distance),.d (.int .i64 y.Work),.d (.int .i64 y.Length),.d (.int .i64 y.Return),.d (.int .i64 y.Feed),.d (.int .i64 y.Tool),.d (.int .i64 y.Offset)]):=by
 refine aB Tryz.func54 rfl (by kernel_rfl) (by kernel_rfl) (λy:am=>.agg [.d (.int .i64 y.Motion),.d (.int .i64 y.Distance),.d (.int .i64 y.Work),.d (.int .i64 y.Length),.d (.int .i64 y.Return),.d (.int .i64 y.Feed),.d (.int .i64 y.Tool),.d (.int .i64 y.Offset)]) ?_ h
 unfold md_New
 simp only[zB,zD,nS,nA,Tryz.ntmps54,SV]
 refine .sR λe h=>?_
 simp only[seval,EMB,bR]
 refine mU e (.sR λe h=>?_) h
 simp only[seval,EMB,bR,kU,aS]
 refine mU e (.ret λe h=>?_) h
 cases h
 simp only[seval,FMB,Tryz.results54,bp,aS]
def gf(a0:ac)(a1:Int):Option (List Int):=bindO (aF (okIdx a0.Words) ( aU (λ(i1:Nat) (e1:ay) (v1:(List Int))=>bindO (if (e1.Letter==a1)=true then aF (okLen (v1.length+1)) ( some (v1++[e1.Value]))else some v1) λ(v2:(List Int))=>some (.go v2)) (λ(v1:(List Int))=>some v1) a0.Words 0 [])) λ(v3:(List Int))=>some v3
theorem cf{a0:ac}{a1:Int}{y:(List Int)}(h:gf a0 a1=some y):Spec gP 20 [.agg (cJ a0),.d (.int .u8 a1)] (.d (.list (zA (eInt .i64) y))):=by
 refine aB Tryz.func20 rfl (by kernel_rfl) (by kernel_rfl) (λy:(List Int)=>.d (.list (zA (eInt .i64) y))) ?_ h
 unfold gf
 simp only[zB,zD,nS,nA,Tryz.ntmps20,SV]
 refine .sR λe h=>?_
 simp only[seval,EMB,eInt]
 refine mU e (.sR λe h=>?_) h
 simp only[seval,EMB,eInt]
 refine mU e (.seqK (.sR λe h=>?_)) h
 simp only[seval,EMB,bL,sz_56,ag_56,br,eInt]
 refine mU e (.gh [.slot 5 2] rfl (Mir.joinO (λv3:(List Int)=>([U,U,U,U,U,.own 0 (zA (eInt .i64) v3)]++us 20)) (λv3=>⟨[(cJ a0)],[(2,v3.length)]⟩) (λ_=>rfl) ?_ ?_)) h
 refine .block (.guard λqg91=>Mir.range (λ(i1:Nat) (v1:(List Int))=>([U,.d (.int .u8 a1),U,U,U,.own 0 (zA (eInt .i64) v1),U,U,U,.d (.list (zA ar a0.Words)),.d (.int .i64 (a0.Words.length:Int)),.d (.int .i64 (i1:Int))]++us 14)) (λi1 v1=>⟨[(cJ a0)],[(2,v1.length)]⟩) qg91 (λ_ _=>rfl) (by simp only[seval,FMB,eInt,zNI]) (by simp only[seval,FMB,eInt,zNI]) ?_ ?_)
 intro i1 e1 v1 qr89
 refine .sR λe h=>?_
 simp only[seval,EMB,qr89,eInt]
 refine mU e (.seqK (.condT rfl (.skip (Mir.toK (.seqK (Mir.joinO (λv2:(List Int)=>([U,.d (.int .u8 a1),U,U,U,.own 0 (zA (eInt .i64) v2),U,U,U,.d (.list (zA ar a0.Words)),.d (.int .i64 (a0.Words.length:Int)),.d (.int .i64 (i1:Int))]++us 14)) (λv2=>⟨[(cJ a0)],[(2,v2.length)]⟩) (λ_=>rfl) ?_ ?_)))))) h
 refine .block (.sR λe h=>?_)
 simp only[seval,EMB,br,bP,qr89,zG,ju,bk,eInt]
 refine mU e (.sR λe h=>?_) h
 simp only[seval,EMB,cr,sz_5,ag_5,eInt]
 refine mU e (.cond rfl (λhb94=>?_) (λhb94=>?_)) h
 refine .guard λq95=>.region λe h=>?_
 simp only[seval,EMB,bu,sz_2,ag_2,cn,kH,(oL 1),app_64,al_eInt,q95,eInt]
 cases h
 simp only[seval,FMB,eInt,Tryz.results20]
 refine .skip λe h=>?_
 cases h
 simp only[seval,FMB,eInt,Tryz.results20]
 intro v2
 refine Mir.toK (.region λe h=>?_)
 simp only[seval,EMB,eInt]
 cases h
 simp only[seval,FMB,eInt,Tryz.results20,qr89]
 intro v1 qd90
 refine .sR λe h=>?_
 simp only[seval,EMB,qd90,eInt]
 refine mU e (.seqK (.condF rfl (.exit λe h=>?_))) h
 cases h
 simp only[seval,FMB,eInt,Tryz.results20]
 intro v3
 refine Mir.toK (.sR λe h=>?_)
 simp only[seval,EMB,eInt]
 refine mU e (.ret λe h=>?_) h
 cases h
 simp only[seval,FMB,eInt,Tryz.results20]
def bB(a0:(List Int))(a1:Int):Option Int:=bindX (aF (okIdx a0) ( aU (λ(i1:Nat) (e1:Int) (v1:Unit)=>if (a1==e1)=true then some (.ret (.ret (i1:Int)))else some (.go ())) (λ(v1:Unit)=>some (.go ())) a0 0 ())) λ(v2:Unit)=>some (-1)
theorem fG{a0:(List Int)}{a1:Int}{y:Int}(h:bB a0 a1=some y):Spec gP 104 [.d (.list (zA (eInt .i64) a0)),.d (.int .i64 a1)] (.d (.int .i64 y)):=by
 refine aB Tryz.func104 rfl (by kernel_rfl) (by kernel_rfl) (λy:Int=>.d (.int .i64 y)) ?_ h
 unfold bB
 simp only[zB,zD,nS,nA,Tryz.ntmps104,SV]
 refine .sR λe h=>?_
 simp only[seval,EMB,eInt]
 refine mU e (.seqK (.sR λe h=>?_)) h
 simp only[seval,EMB,cn,eInt]
 refine mU e (Mir.join (λv2:Unit=>(us 19)) (λv2=>⟨[],[]⟩) (λ_=>rfl) ?_ ?_) h
 refine .block (.guard λqg51=>Mir.range (λ(i1:Nat) (v1:Unit)=>([.d (.list (zA (eInt .i64) a0)),.d (.int .i64 a1),U,U,U,U,U,.d (.int .i64 (a0.length:Int)),.d (.int .i64 (i1:Int))]++us 10)) (λi1 v1=>⟨[],[]⟩) qg51 (λ_ _=>rfl) (by simp only[seval,FMB,eInt,zNI]) (by simp only[seval,FMB,eInt,zNI]) ?_ ?_)
 intro i1 e1 v1 qr49
 refine .sR λe h=>?_
 simp only[seval,EMB,qr49,eInt]
 refine mU e (.seqK (.condT rfl (.skip (Mir.toK (.seqK (.block (.sR λe h=>?_))))))) h
 simp only[seval,EMB,eInt]
 refine mU e (.sR λe h=>?_) h
 simp only[seval,EMB,cn,sz_2,qr49,zG,ag_2,eInt]
 refine mU e (.cond rfl (λhb54=>?_) (λhb54=>?_)) h
 refine .sR λe h=>?_
 simp only[seval,EMB,eInt]
 refine mU e (.ret λe h=>?_) h
 cases h
 simp only[seval,FMB,eInt,Tryz.results104]
 refine .skip (Mir.toB (Mir.toK (.region λe h=>?_)))
 simp only[seval,EMB,eInt]
 cases h
 simp only[seval,FMB,eInt,Tryz.results104,qr49]
 intro v1 qd50
 refine .sR λe h=>?_
 simp only[seval,EMB,qd50,eInt]
 refine mU e (.seqK (.condF rfl (.exit λe h=>?_))) h
 cases h
 simp only[seval,FMB,eInt,Tryz.results104]
 intro v2
 refine Mir.toK (.sR λe h=>?_)
 simp only[seval,EMB,eInt]
 refine mU e (.ret λe h=>?_) h
 cases h
 simp only[seval,FMB,eInt,Tryz.results104]
def aY(a0:(List Int))(a1:Int):Option Bool:=bindO (bB a0 a1) λ(y1:Int)=>some (decide (y1≥0))
theorem bZ{a0:(List Int)}{a1:Int}{y:Bool}(h:aY a0 a1=some y):Spec gP 57 [.d (.list (zA (eInt .i64) a0)),.d (.int .i64 a1)] (.d (.bool y)):=by
 refine aB Tryz.func57 rfl (by kernel_rfl) (by kernel_rfl) (λy:Bool=>.d (.bool y)) ?_ h
 unfold aY
 simp only[zB,zD,nS,nA,Tryz.ntmps57,SV]
 refine .sR λe h=>?_
 simp only[seval,EMB,eInt]
 refine mU e (.seqK (.bind λy1 hy1=>.region λe h=>?_)) h
 simp only[seval,EMB,eInt]
 refine SpecS.by (fG hy1) (by simp only[seval,FMB,eInt]) ?_
 simp only[seval,EMB,eInt]
 refine mU e (.ret λe h=>?_) h
 cases h
 simp only[seval,FMB,eInt,Tryz.results57]
def kN(a0:ac)(a1:Int)(a2:Int):Option Bool:=bindO (gf a0 a1) λ(y1:(List Int))=>bindO (aY y1 a2) λ(y2:Bool)=>some y2
theorem cd{a0:ac}{a1:Int}{a2:Int}{y:Bool}(h:kN a0 a1 a2=some y):Spec gP 46 [.agg (cJ a0),.d (.int .u8 a1),.d (.int .i64 a2)] (.d (.bool y)):=by
 refine aB Tryz.func46 rfl (by kernel_rfl) (by kernel_rfl) (λy:Bool=>.d (.bool y)) ?_ h
 unfold kN
 simp only[zB,zD,nS,nA,Tryz.ntmps46,SV]
 refine .sR λe h=>?_
 simp only[seval,EMB]
 refine mU e (.seqK (.bind λy1 hy1=>.bind λy2 hy2=>.region λe h=>?_)) h
 simp only[seval,EMB,ag_58,sz_58]
 refine SpecS.by (cf hy1) (by simp only[seval,FMB]) ?_
 simp only[seval,EMB]
 refine SpecS.by (bZ hy2) (by simp only[seval,FMB]) ?_
 simp only[seval,EMB]
 refine mU e (.ret λe h=>?_) h
 cases h
 simp only[seval,FMB,Tryz.results46]
def jI(a0:ac):Option Bool:=bindO (bindO (gf a0 79) λ(y1:(List Int))=>if (decide ((y1.length:Int)>0))=true then some true else bindO (kN a0 77 30000) λ(y2:Bool)=>if y2=true then some true else bindO (kN a0 77 99000) λ(y3:Bool)=>some y3) λ(v1:Bool)=>some v1
theorem dW{a0:ac}{y:Bool}(h:jI a0=some y):Spec gP 134 [.agg (cJ a0)] (.d (.bool y)):=by
 refine aB Tryz.func134 rfl (by kernel_rfl) (by kernel_rfl) (λy:Bool=>.d (.bool y)) ?_ h
 unfold jI
 simp only[zB,zD,nS,nA,Tryz.ntmps134,SV]
 refine .sR λe h=>?_
 simp only[seval,EMB]
 refine mU e (.seqK (Mir.joinO (λv1:Bool=>([U,U,.d (.bool v1)]++us 12)) (λv1=>⟨[(cJ a0)],[]⟩) (λ_=>rfl) ?_ ?_)) h
 refine .bind λy1 hy1=>.ite (λhb2=>?_) (λhb2=>?_)
 refine .region λe h=>?_
 simp only[seval,EMB,ag_58,sz_58,hb2]
 refine SpecS.by (cf hy1) (by simp only[seval,FMB,hb2]) ?_
 simp only[seval,EMB,cn,hb2]
 cases h
 simp only[seval,FMB,hb2]
 refine .bind λy2 hy3=>.ite (λhb4=>?_) (λhb4=>?_)
 refine .region λe h=>?_
 simp only[seval,EMB,ag_58,sz_58,hb2,hb4]
 refine SpecS.by (cf hy1) (by simp only[seval,FMB,hb2,hb4]) ?_
 simp only[seval,EMB,cn,ag_58,sz_58,hb2,hb4]
 refine SpecS.by (cd hy3) (by simp only[seval,FMB,hb2,hb4]) ?_
 simp only[seval,EMB,hb2,hb4]
 cases h
 simp only[seval,FMB,hb2,hb4]
 refine .bind λy3 hy5=>.region λe h=>?_
 simp only[seval,EMB,ag_58,sz_58,hb2,hb4]
 refine SpecS.by (cf hy1) (by simp only[seval,FMB,hb2,hb4]) ?_
 simp only[seval,EMB,cn,ag_58,sz_58,hb2,hb4]
 refine SpecS.by (cd hy3) (by simp only[seval,FMB,hb2,hb4]) ?_
 simp only[seval,EMB,ag_58,sz_58,hb2,hb4]
 refine SpecS.by (cd hy5) (by simp only[seval,FMB,hb2,hb4]) ?_
 simp only[seval,EMB,hb2,hb4]
 cases h
 simp only[seval,FMB,hb2,hb4]
 intro v1
 refine Mir.toK (.ret λe h=>?_)
 cases h
 simp only[seval,FMB,Tryz.results134]
def lf(a0:ac):Option Bool:=bindO (bindO (jI a0) λ(y1:Bool)=>if y1=true then some false else bindO (gf a0 78) λ(y2:(List Int))=>if ((y2.length:Int)==0)=true then bindO (kN a0 77 98000) λ(y3:Bool)=>some (!y3)else some false) λ(v1:Bool)=>some v1
theorem jp{a0:ac}{y:Bool}(h:lf a0=some y):Spec gP 92 [.agg (cJ a0)] (.d (.bool y)):=by
 refine aB Tryz.func92 rfl (by kernel_rfl) (by kernel_rfl) (λy:Bool=>.d (.bool y)) ?_ h
 unfold lf
 simp only[zB,zD,nS,nA,Tryz.ntmps92,SV]
 refine .sR λe h=>?_
 simp only[seval,EMB]
 refine mU e (.seqK (Mir.joinO (λv1:Bool=>([U,U,.d (.bool v1)]++us 14)) (λv1=>⟨[(cJ a0)],[]⟩) (λ_=>rfl) ?_ ?_)) h
 refine .bind λy1 hy1=>.ite (λhb2=>?_) (λhb2=>?_)
 refine .region λe h=>?_
 simp only[seval,EMB,ag_58,sz_58,hb2]
 refine SpecS.by (dW hy1) (by simp only[seval,FMB,hb2]) ?_
 simp only[seval,EMB,hb2]
 cases h
 simp only[seval,FMB,hb2]
 refine .bind λy2 hy3=>.ite (λhb4=>?_) (λhb4=>?_)
 refine .bind λy3 hy5=>.region λe h=>?_
 simp only[seval,EMB,ag_58,sz_58,hb2,hb4]
 refine SpecS.by (dW hy1) (by simp only[seval,FMB,hb2,hb4]) ?_
 simp only[seval,EMB,ag_58,sz_58,hb2,hb4]
 refine SpecS.by (cf hy3) (by simp only[seval,FMB,hb2,hb4]) ?_
 simp only[seval,EMB,cn,ag_58,sz_58,hb2,hb4]
 refine SpecS.by (cd hy5) (by simp only[seval,FMB,hb2,hb4]) ?_
 simp only[seval,EMB,hb2,hb4]
 cases h
 simp only[seval,FMB,hb2,hb4]
 refine .region λe h=>?_
 simp only[seval,EMB,ag_58,sz_58,hb2,hb4]
 refine SpecS.by (dW hy1) (by simp only[seval,FMB,hb2,hb4]) ?_
 simp only[seval,EMB,ag_58,sz_58,hb2,hb4]
 refine SpecS.by (cf hy3) (by simp only[seval,FMB,hb2,hb4]) ?_
 simp only[seval,EMB,cn,hb2,hb4]
 cases h
 simp only[seval,FMB,hb2,hb4]
 intro v1
 refine Mir.toK (.ret λe h=>?_)
 cases h
 simp only[seval,FMB,Tryz.results92]
def ci(a0:(List ay))(a1:(List ay)):Option Bool:=if ((a0.length:Int) != (a1.length:Int))=true then some false else bindX (aF (okIdx a0) ( aU (λ(i1:Nat) (e1:ay) (v1:Unit)=>bindO (gt a1 (i1:Int)) λ(e2:ay)=>if (!((e1.Letter==e2.Letter)&&(e1.Value==e2.Value)))=true then some (.ret (.ret false))else some (.go ())) (λ(v1:Unit)=>some (.go ())) a0 0 ())) λ(v2:Unit)=>some true
theorem d6{a0:(List ay)}{a1:(List ay)}{y:Bool}(h:ci a0 a1=some y):Spec gP 140 [.d (.list (zA ar a0)),.d (.list (zA ar a1))] (.d (.bool y)):=by
 refine aB Tryz.func140 rfl (by kernel_rfl) (by kernel_rfl) (λy:Bool=>.d (.bool y)) ?_ h
 unfold ci
 simp only[zB,zD,nS,nA,Tryz.ntmps140,SV]
 refine .sR λe h=>?_
 simp only[seval,EMB]
 refine mU e (.seqK (.sR λe h=>?_)) h
 simp only[seval,EMB,br]
 refine mU e (.cond rfl (λhb2=>?_) (λhb2=>?_)) h
 refine .sR λe h=>?_
 simp only[seval,EMB]
 refine mU e (.ret λe h=>?_) h
 cases h
 simp only[seval,FMB,Tryz.results140]
 refine .skip (Mir.toK (.seqK (.sR λe h=>?_)))
 simp only[seval,EMB,br]
 refine mU e (Mir.join (λv2:Unit=>(us 26)) (λv2=>⟨[],[]⟩) (λ_=>rfl) ?_ ?_) h
 refine .block (.guard λqg67=>Mir.range (λ(i1:Nat) (v1:Unit)=>([.d (.list (zA ar a0)),.d (.list (zA ar a1)),U,U,U,U,U,U,U,U,U,U,.d (.int .i64 (a0.length:Int)),.d (.int .i64 (i1:Int))]++us 12)) (λi1 v1=>⟨[],[]⟩) qg67 (λ_ _=>rfl) (by simp only[seval,FMB,zNI]) (by simp only[seval,FMB,zNI]) ?_ ?_)
 intro i1 e1 v1 qr65
 refine .sR λe h=>?_
 simp only[seval,EMB,qr65]
 refine mU e (.seqK (.condT rfl (.skip (Mir.toK (.seqK (.block (.sR λe h=>?_))))))) h
 simp only[seval,EMB]
 refine mU e (.seqK (.bind λe2 q70=>?_)) h
 replace q70:=gt_ok q70
 simp only[zG]at q70
 refine .regionD [] (by kernel_rfl) λe h=>?_
 simp only[seval,EMB,SB,br,bP,qr65,zG,ju,q70,gE_101]
 refine mU e (.cond rfl (λhb72=>?_) (λhb72=>?_)) h
 refine .sR λe h=>?_
 simp only[seval,EMB]
 refine mU e (.ret λe h=>?_) h
 cases h
 simp only[seval,FMB,Tryz.results140]
 refine .skip (Mir.toB (Mir.toK (.region λe h=>?_)))
 simp only[seval,EMB]
 cases h
 simp only[seval,FMB,Tryz.results140,qr65]
 intro v1 qd66
 refine .sR λe h=>?_
 simp only[seval,EMB,qd66]
 refine mU e (.seqK (.condF rfl (.exit λe h=>?_))) h
 cases h
 simp only[seval,FMB,Tryz.results140]
 intro v2
 refine Mir.toK (.sR λe h=>?_)
 simp only[seval,EMB]
 refine mU e (.ret λe h=>?_) h
 cases h
 simp only[seval,FMB,Tryz.results140]
def bk_Equal(a0:ac)(a1:ac):Option Bool:=bindO (if (a0.Skip==a1.Skip)=true then if (a0.Comment==a1.Comment)=true then bindO (ci a0.Words a1.Words) λ(y1:Bool)=>some y1 else some false else some false) λ(v1:Bool)=>some v1
theorem bk_Equal_spec{a0:ac}{a1:ac}{y:Bool}(h:bk_Equal a0 a1=some y):Spec gP 93 [.agg (cJ a0),.agg (cJ a1)] (.d (.bool y)):=by
 refine aB Tryz.func93 rfl (by kernel_rfl) (by kernel_rfl) (λy:Bool=>.d (.bool y)) ?_ h
 unfold bk_Equal
 simp only[zB,zD,nS,nA,Tryz.ntmps93,SV]
 refine .sR λe h=>?_
 simp only[seval,EMB]
 refine mU e (.seqK (Mir.joinO (λv1:Bool=>([U,U,U,U,.d (.bool v1)]++us 19)) (λv1=>⟨[(cJ a0),(cJ a1)],[]⟩) (λ_=>rfl) ?_ ?_)) h
 refine .ite (λhb1=>?_) (λhb1=>?_)
 refine .ite (λhb2=>?_) (λhb2=>?_)
 refine .bind λy1 hy3=>.region λe h=>?_
 simp only[seval,EMB,jd,sz_4,ag_4,und_4,gZ,sz_9,ag_9,bL,sz_56,ag_56,hb1,hb2]
 refine SpecS.by (d6 hy3) (by simp only[seval,FMB,hb1,hb2]) ?_
 simp only[seval,EMB,hb1,hb2]
 cases h
 simp only[seval,FMB,hb1,hb2]
 refine .region λe h=>?_
 simp only[seval,EMB,jd,sz_4,ag_4,und_4,gZ,sz_9,ag_9,hb1,hb2]
 cases h
 simp only[seval,FMB,hb1,hb2]
 refine .region λe h=>?_
 simp only[seval,EMB,jd,sz_4,ag_4,und_4,hb1]
 cases h
 simp only[seval,FMB,hb1]
 intro v1
 refine Mir.toK (.ret λe h=>?_)
 cases h
 simp only[seval,FMB,Tryz.results93]
def sp_run(a0:(List ac))(a1:Int)(a2:Int)(a3:Int):Option Bool:=bindX (loopX (λ(v1:Int)=>if (decide (v1<a3))=true then bindO (bindO (gt a0 (zX.wrap (a1+v1))) λ(e1:ac)=>bindO (lf e1) λ(y1:Bool)=>if y1=true then bindO (gt a0 (zX.wrap (a2+v1))) λ(e2:ac)=>bindO (bk_Equal e1 e2) λ(y2:Bool)=>some (!y2)else some true) λ(v2:Bool)=>if v2=true then some (.ret (.ret false))else some (.go (zX.wrap (v1+1)))else some (.ret (.go ()))) fuel 0) λ(v3:Unit)=>some true
theorem sp_run_spec{a0:(List ac)}{a1:Int}{a2:Int}{a3:Int}{y:Bool}(h:sp_run a0 a1 a2 a3=some y):Spec gP 49 [.d (.list (zA aa a0)),.d (.int .i64 a1),.d (.int .i64 a2),.d (.int .i64 a3)] (.d (.bool y)):=by
 refine aB Tryz.func49 rfl (by kernel_rfl) (by kernel_rfl) (λy:Bool=>.d (.bool y)) ?_ h
 unfold sp_run
 simp only[zB,zD,nS,nA,Tryz.ntmps49,SV]
 refine .sR λe h=>?_
 simp only[seval,EMB]
 refine mU e (.seqK (.sR λe h=>?_)) h
 simp only[seval,EMB]
 refine mU e (Mir.join (λv3:Unit=>(us 39)) (λv3=>⟨[],[]⟩) (λ_=>rfl) ?_ ?_) h
 refine .block (Mir.loop (λv1:Int=>([.d (.list (zA aa a0)),.d (.int .i64 a1),.d (.int .i64 a2),U,U,U,U,U,U,U,.d (.int .i64 a3),.d (.int .i64 v1)]++us 27)) (λv1=>⟨[],[]⟩) (λ_=>rfl) (by simp only[seval,FMB]) (by simp only[seval,FMB]) λv1=>.sR λe h=>?_)
 simp only[seval,EMB]
 refine mU e (.seqK (.cond rfl (λhb77=>?_) (λhb77=>?_))) h
 refine .skip (Mir.toK (.seqK (.block (.sR λe h=>?_))))
 simp only[seval,EMB]
 refine mU e (.seqK (Mir.joinO (λv2:Bool=>[.d (.list (zA aa a0)),.d (.int .i64 a1),.d (.int .i64 a2),U,U,U,U,U,U,U,.d (.int .i64 a3),.d (.int .i64 v1),U,U,U,U,U,U,U,U,U,U,U,U,U,U,U,U,U,U,U,U,U,U,U,U,U,.d (.bool v2),U]) (λv2=>⟨[],[]⟩) (λ_=>rfl) ?_ ?_)) h
 refine .bind λe1 q84=>?_
 replace q84:=gt_ok q84
 refine .bind λy1 hy85=>.ite (λhb86=>?_) (λhb86=>?_)
 refine .bind λe2 q87=>?_
 replace q87:=gt_ok q87
 refine .bind λy2 hy88=>.regionD [] (by kernel_rfl) λe h=>?_
 simp only[seval,EMB,SB,aE,sz_58,q84,ag_58,hb86]
 refine Spec.by (jp hy85) (by simp only[seval,FMB,hb86]) ?_
 simp only[seval,EMB,SB,aE,sz_58,q84,ag_58,q87,hb86]
 refine Spec.by (bk_Equal_spec hy88) (by simp only[seval,FMB,hb86]) ?_
 simp only[seval,EMB,SB,hb86]
 cases h
 simp only[seval,FMB,hb86]
 refine .regionD [] (by kernel_rfl) λe h=>?_
 simp only[seval,EMB,SB,aE,sz_58,q84,ag_58,hb86]
 refine Spec.by (jp hy85) (by simp only[seval,FMB,hb86]) ?_
 simp only[seval,EMB,SB,hb86]
 cases h
 simp only[seval,FMB,hb86]
 intro v2
 refine Mir.toK (.cond rfl (λhb90=>?_) (λhb90=>?_))
 refine .sR λe h=>?_
 simp only[seval,EMB]
 refine mU e (.ret λe h=>?_) h
 cases h
 simp only[seval,FMB,Tryz.results49]
 refine .skip (Mir.toB (Mir.toK (.region λe h=>?_)))
 simp only[seval,EMB]
 cases h
 simp only[seval,FMB,Tryz.results49]
 refine .exit λe h=>?_
 cases h
 simp only[seval,FMB,Tryz.results49]
 intro v3
 refine Mir.toK (.sR λe h=>?_)
 simp only[seval,EMB]
 refine mU e (.ret λe h=>?_) h
 cases h
 simp only[seval,FMB,Tryz.results49]
def sp_first(a0:(List ac))(a1:Int):Option Int:=bindX (loopX (λ(v1:Int)=>if (decide ((zX.wrap (v1+a1))≤(zX.wrap ((a0.length:Int)-a1))))=true then bindX (loopX (λ(v2:Int)=>if (decide ((zX.wrap (v2+a1))≤(a0.length:Int)))=true then bindO (sp_run a0 v1 v2 a1) λ(y1:Bool)=>if y1=true then some (.ret (.ret (.ret (.ret v1))))else some (.go (zX.wrap (v2+1)))else some (.ret (.go ()))) fuel (zX.wrap (v1+a1))) λ(v3:Unit)=>some (.go (zX.wrap (v1+1)))else some (.ret (.go ()))) fuel 0) λ(v4:Unit)=>some (-1)
theorem sp_first_spec{a0:(List ac)}{a1:Int}{y:Int}(h:sp_first a0 a1=some y):Spec gP 48 [.d (.list (zA aa a0)),.d (.int .i64 a1)] (.d (.int .i64 y)):=by
 refine aB Tryz.func48 rfl (by kernel_rfl) (by kernel_rfl) (λy:Int=>.d (.int .i64 y)) ?_ h
 unfold sp_first
 simp only[zB,zD,nS,nA,Tryz.ntmps48,SV]
 refine .sR λe h=>?_
 simp only[seval,EMB]
 refine mU e (.seqK (.sR λe h=>?_)) h
 simp only[seval,EMB]
 refine mU e (Mir.join (λv4:Unit=>(us 34)) (λv4=>⟨[],[]⟩) (λ_=>rfl) ?_ ?_) h
 refine .block (Mir.loop (λv1:Int=>([.d (.list (zA aa a0)),.d (.int .i64 a1),U,U,U,.d (.int .i64 v1)]++us 28)) (λv1=>⟨[],[]⟩) (λ_=>rfl) (by simp only[seval,FMB]) (by simp only[seval,FMB]) λv1=>.seqK (.sR λe h=>?_))
 simp only[seval,EMB,aE]
 refine mU e (.cond rfl (λh1=>?_) (λh1=>?_)) h
 refine .skip (Mir.toK (.seqK (Mir.join (λv3:Unit=>([.d (.list (zA aa a0)),.d (.int .i64 a1),U,U,U,.d (.int .i64 v1)]++us 28)) (λv3=>⟨[],[]⟩) (λ_=>rfl) ?_ ?_)))
 refine .block (.sR λe h=>?_)
 simp only[seval,EMB]
 refine mU e (.block (Mir.loop (λv2:Int=>([.d (.list (zA aa a0)),.d (.int .i64 a1),U,U,U,.d (.int .i64 v1),.d (.int .i64 v2)]++us 27)) (λv2=>⟨[],[]⟩) (λ_=>rfl) (by simp only[seval,FMB]) (by simp only[seval,FMB]) λv2=>.seqK (.sR λe h=>?_))) h
 simp only[seval,EMB,aE]
 refine mU e (.cond rfl (λh2=>?_) (λh2=>?_)) h
 refine .skip (Mir.toK (.seqK (.block (.seqK (.bind λy1 h3=>.region λe h=>?_)))))
 simp only[seval,EMB]
 refine SpecS.by (sp_run_spec h3) (by simp only[seval,FMB]) ?_
 simp only[seval,EMB]
 refine mU e (.cond rfl (λh4=>?_) (λh4=>?_)) h
 refine .sR λe h=>?_
 simp only[seval,EMB]
 refine mU e (.ret λe h=>?_) h
 cases h
 simp only[seval,FMB,Tryz.results48]
 refine .skip (Mir.toB (Mir.toK (.region λe h=>?_)))
 simp only[seval,EMB]
 cases h
 simp only[seval,FMB,Tryz.results48]
 refine .exit λe h=>?_
 cases h
 simp only[seval,FMB,Tryz.results48]
 intro v3
 refine Mir.toK (.region λe h=>?_)
 simp only[seval,EMB]
 cases h
 simp only[seval,FMB,Tryz.results48]
 refine .exit λe h=>?_
 cases h
 simp only[seval,FMB,Tryz.results48]
 intro v4
 refine Mir.toK (.sR λe h=>?_)
 simp only[seval,EMB]
 refine mU e (.ret λe h=>?_) h
 cases h
 simp only[seval,FMB,Tryz.results48]
def bc(a0:List ac):Option (List ac):=aF (okLen a0.length) (some a0)
theorem er{c0:Nat}{y:List ac}(h:(some [])=some y):Spec gP 22 [.d (.other (.slice none 0 c0))] (.d (.list (zA aa y))):=by
 refine aB Tryz.func22 rfl (by kernel_rfl) (by kernel_rfl) (λy:List ac=>.d (.list (zA aa y))) ?_ h
 simp only[zB,zD,nS,nA,Tryz.ntmps22,SV]
 refine .sR λe h=>?_
 simp only[seval,EMB]
 refine mU e (.seqK (.sR λe h=>?_)) h
 simp only[seval,EMB,aE]
 refine mU e (.condT rfl (.sR λe h=>?_)) h
 simp only[seval,EMB]
 refine mU e (.ret λe h=>?_) h
 cases h
 simp only[seval,FMB,Tryz.results22]
theorem ek{p0:Addr}{c0:Nat}{y:List ac}(h:(some [])=some y):Spec gP 22 [.d (.other (.slice (some p0) 0 c0))] (.d (.list (zA aa y))):=by
 refine aB Tryz.func22 rfl (by kernel_rfl) (by kernel_rfl) (λy:List ac=>.d (.list (zA aa y))) ?_ h
 simp only[zB,zD,nS,nA,Tryz.ntmps22,SV]
 refine .sR λe h=>?_
 simp only[seval,EMB]
 refine mU e (.seqK (.sR λe h=>?_)) h
 simp only[seval,EMB,aE]
 refine mU e (.condF rfl (.skip (Mir.toK (.sR λe h=>?_)))) h
 simp only[seval,EMB,aE,sz_58,aC,(oL 0),bh,ba,List.all_cons,List.all_nil]
 refine mU e (.ret λe h=>?_) h
 cases h
 simp only[seval,FMB,Tryz.results22]
theorem eu{x0:ac}{l0:List ac}{y:List ac}(h:(aF (okLen ((x0::l0).length)) (   some (x0::l0)))=some y):Spec gP 22 [.d (.list (zA aa (x0::l0)))] (.d (.list (zA aa y))):=by
 refine aB Tryz.func22 rfl (by kernel_rfl) (by kernel_rfl) (λy:List ac=>.d (.list (zA aa y))) ?_ h
 simp only[zB,zD,nS,nA,Tryz.ntmps22,SV]
 refine .sR λe h=>?_
 simp only[seval,EMB]
 refine mU e (.seqK (.sR λe h=>?_)) h
 simp only[seval,EMB,aE]
 refine mU e (.condF rfl (.skip (Mir.toK (.seqK (.guard λq1=>.region λe h=>?_))))) h
 simp only[seval,EMB,aE,sz_58,aC,(oL 0),bh,ba,q1]
 refine mU e (.ret λe h=>?_) h
 cases h
 simp only[seval,FMB,Tryz.results22]
theorem bq{a0:List ac}{y:List ac}(h:bc a0=some y):Spec gP 22 [.d (.list (zA aa a0))] (.d (.list (zA aa y))):=by
 obtain⟨hl,h⟩:=cT h
 cases h
 cases a0 with
 | nil =>
  refine Spec.nilcase λA c=>?_
  cases A with
  | none=>exact er rfl
  | some p=>exact ek rfl
 | cons x l=>exact eu (by simp only[aF,hl])
theorem d9{c0:Nat}{y:List ac}(h:(some [])=some y):SpecO gP 22 [.d (.other (.slice none 0 c0))] 58 (zA aa y):=by
 refine specO_mir Tryz.func22 rfl (by kernel_rfl) (by kernel_rfl) (λy:List ac=>zA aa y) ?_ h
 simp only[zB,zD,nS,nA,Tryz.ntmps22,SV]
 refine .sR λe h=>?_
 simp only[seval,EMB]
 refine mU e (.seqK (.sR λe h=>?_)) h
 simp only[seval,EMB,aE]
 refine mU e (.condT rfl (.sR λe h=>?_)) h
 simp only[seval,EMB]
 refine mU e (.ret λe h=>?_) h
 cases h
 simp only[seval,FMB,Tryz.results22,fy_r,fy_n,yr_o,yr_n]
theorem d8{p0:Addr}{c0:Nat}{y:List ac}(h:(some [])=some y):SpecO gP 22 [.d (.other (.slice (some p0) 0 c0))] 58 (zA aa y):=by
 refine specO_mir Tryz.func22 rfl (by kernel_rfl) (by kernel_rfl) (λy:List ac=>zA aa y) ?_ h
 simp only[zB,zD,nS,nA,Tryz.ntmps22,SV]
 refine .sR λe h=>?_
 simp only[seval,EMB]
 refine mU e (.seqK (.sR λe h=>?_)) h
 simp only[seval,EMB,aE]
 refine mU e (.condF rfl (.skip (Mir.toK (.seqK (.regionW λe h=>regW.alt 0 rfl ?_))))) h
 simp only[seval,EMB,ah,w_eq]
 refine g8 bh (regW.of ?_)
 simp only[seval,EMB,ah,w_eq,aE,sz_58,aC,(oL 0),bh,ba]
 refine mU e (.ret λe h=>?_) h
 cases h
 simp only[seval,FMB,Tryz.results22,fy_r,fy_n,yr_o,yr_n]
theorem ea{x0:ac}{l0:List ac}{y:List ac}(h:(aF (okLen (0+(x0::l0).length)) (   some ([]++(x0::l0))))=some y):SpecO gP 22 [.d (.list (zA aa (x0::l0)))] 58 (zA aa y):=by
 refine specO_mir Tryz.func22 rfl (by kernel_rfl) (by kernel_rfl) (λy:List ac=>zA aa y) ?_ h
 simp only[zB,zD,nS,nA,Tryz.ntmps22,SV]
 refine .sR λe h=>?_
 simp only[seval,EMB]
 refine mU e (.seqK (.sR λe h=>?_)) h
 simp only[seval,EMB,aE]
 refine mU e (.condF rfl (.skip (Mir.toK (.seqK (.guard λq1=>.regionW λe h=>regW.alt 0 rfl ?_))))) h
 simp only[seval,EMB,ah,w_eq]
 refine g8 bh (regW.of ?_)
 simp only[seval,EMB,ah,w_eq,aE,sz_58,aC,(oL 0),bh,ba,q1]
 refine mU e (.ret λe h=>?_) h
 cases h
 simp only[seval,FMB,Tryz.results22,fy_r,fy_n,yr_o,yr_n]
theorem dH{a0:List ac}{y:List ac}(h:bc a0=some y):SpecO gP 22 [.d (.list (zA aa a0))] 58 (zA aa y):=by
 obtain⟨hl,h⟩:=cT h
 cases h
 cases a0 with
 | nil =>
  refine SpecO.nilcase λA c=>?_
  cases A with
  | none=>exact d9 rfl
  | some p=>exact d8 rfl
 | cons x l=>exact ea (by simp only[aF,zQ,List.nil_append,hl])
def sp_Fold(a0:(List ac))(a1:Int)(a2:Int):Option (aJ×Int):=if ((decide (a1<1))||((decide (a1>9999))||(decide (a2<1))))=true then some (aJ.mk [] [],1)else bindO (if (decide (a2≤(zX.wrap (zT (a0.length:Int) 2))))=true then bindO (sp_first a0 a2) λ(y1:Int)=>some y1 else some (-1)) λ(v1:Int)=>if (decide (v1<0))=true then bindO (bc a0) λ(y2:(List ac))=>some (aJ.mk y2 [],0)else bindO (loopX (λ(v2:(List ac)×Int)=>if (decide (v2.2<(a0.length:Int)))=true then bindO (if (decide ((zX.wrap (v2.2+a2))≤(a0.length:Int)))=true then bindO (sp_run a0 v1 v2.2 a2) λ(y3:Bool)=>some y3 else some false) λ(v3:Bool)=>if v3=true then aF (okLen (v2.1.length+1)) ( some (.go (v2.1++[ac.mk false [ay.mk 77 98000,ay.mk 80 (zX.wrap (1000*a1))] []],zX.wrap (v2.2+a2))))else bindO (gt a0 v2.2) λ(e1:ac)=>aF (okLen (v2.1.length+1)) ( some (.go (v2.1++[e1],zX.wrap (v2.2+1))))else some (.ret v2.1)) fuel ([],0)) λ(v4:(List ac))=>bindO (cutL a0 v1 (zX.wrap (v1+a2))) λ(s1:(List ac))=>bindO (bc s1) λ(y4:(List ac))=>some (aJ.mk v4 [bd.mk a1 y4],0)
theorem sp_Fold_spec{a0:(List ac)}{a1:Int}{a2:Int}{y:aJ×Int}(h:sp_Fold a0 a1 a2=some y):Spec gP 21 [.d (.list (zA aa a0)),.d (.int .i64 a1),.d (.int .i64 a2)] (.tuple [.agg [.d (.list (zA aa y.1.Main)),.d (.list (zA aK y.1.Subs))],.d (.int .i64 y.2)]):=by
 refine aB Tryz.func21 rfl (by kernel_rfl) (by kernel_rfl) (λy:aJ×Int=>.tuple [.agg [.d (.list (zA aa y.1.Main)),.d (.list (zA aK y.1.Subs))],.d (.int .i64 y.2)]) ?_ h
 unfold sp_Fold
 simp only[zB,zD,nS,nA,Tryz.ntmps21,SV]
 refine .sR λe h=>?_
 simp only[seval,EMB,fE]
 refine mU e (.seqK (.seqK (.joinV ([.d (.list (zA aa a0)),.d (.int .i64 a1),.d (.int .i64 a2),U,U,U,.ptr 0 0,U,U,U,U,U,U,U,U,U,U,U,U,U,.d (.bool ((decide (a1<1))||((decide (a1>9999))||(decide (a2<1)))))]++us 64) ⟨[[.nil,.nil]],[]⟩ rfl ?_ ?_))) h
 refine SWs.region ?_
 rcases zE (decide (a1<1))with hb1 | hb1
 simp only[seval,EMB,SL,PB,hb1]
 rcases zE (decide (a1>9999))with hb2 | hb2
 simp only[seval,EMB,SL,PB,hb1,hb2]
 simp only[seval,EMB,SL,PB,hb1,hb2]
 refine Mir.toK (.cond rfl (λhb4=>?_) (λhb4=>?_))
 refine .sR λe h=>?_
 simp only[seval,EMB,fE,pl_71,sz_71]
 refine mU e (.ret λe h=>?_) h
 cases h
 simp only[seval,FMB,Tryz.results21,ag_71,sz_71]
 refine .skip (Mir.toK (.sR λe h=>?_))
 simp only[seval,EMB]
 refine mU e (.seqK (.sR λe h=>?_)) h
 simp only[seval,EMB,aE]
 refine mU e (Mir.joinO (λv1:Int=>([.d (.list (zA aa a0)),.d (.int .i64 a1),.d (.int .i64 a2),U,U,U,.ptr 0 0,U,.d (.int .i64 v1)]++us 76)) (λv1=>⟨[[.nil,.nil]],[]⟩) (λ_=>rfl) ?_ ?_) h
 refine .cond rfl (λhb7=>?_) (λhb7=>?_)
 refine .bind λy1 hy8=>.region λe h=>?_
 simp only[seval,EMB]
 refine SpecS.by (sp_first_spec hy8) (by simp only[seval,FMB]) ?_
 simp only[seval,EMB]
 cases h
 simp only[seval,FMB,Tryz.results21,ag_71,sz_71]
 refine .skip λe h=>?_
 cases h
 simp only[seval,FMB,Tryz.results21,ag_71,sz_71]
 intro v1
 refine Mir.toK (.seqK (.sR λe h=>?_))
 simp only[seval,EMB]
 refine mU e (.cond rfl (λhb11=>?_) (λhb11=>?_)) h
 refine .seqK (.bind λy2 hy12=>.region λe h=>?_)
 simp only[seval,EMB]
 refine SpecS.by (bq hy12) (by simp only[seval,FMB]) ?_
 simp only[seval,EMB,fE,pl_71,sz_71]
 refine mU e (.ret λe h=>?_) h
 cases h
 simp only[seval,FMB,Tryz.results21,ag_71,sz_71]
 refine .skip (Mir.toK (.sR λe h=>?_))
 simp only[seval,EMB]
 refine mU e (.seqK (.sR λe h=>?_)) h
 simp only[seval,EMB]
 refine mU e (.gh [.slot 9 58] rfl (Mir.joinO (λv4:(List ac)=>([.d (.list (zA aa a0)),.d (.int .i64 a1),.d (.int .i64 a2),U,U,U,.ptr 0 0,U,.d (.int .i64 v1),.own 0 (zA aa v4)]++us 75)) (λv4=>⟨[[.nil,.nil]],[(58,v4.length)]⟩) (λ_=>rfl) ?_ ?_)) h
 refine .block (Mir.loop (λv2:(List ac)×Int=>([.d (.list (zA aa a0)),.d (.int .i64 a1),.d (.int .i64 a2),U,U,U,.ptr 0 0,U,.d (.int .i64 v1),.own 0 (zA aa v2.1),.d (.int .i64 v2.2)]++us 74)) (λv2=>⟨[[.nil,.nil]],[(58,v2.1.length)]⟩) (λ_=>rfl) (by simp only[seval,FMB]) (by simp only[seval,FMB]) λv2=>.seqK (.sR λe h=>?_))
 simp only[seval,EMB,aE]
 refine mU e (.cond rfl (λh1=>?_) (λh1=>?_)) h
 refine .skip (Mir.toK (.block (.seqK (.seqK (Mir.joinO (λv3:Bool=>([.d (.list (zA aa a0)),.d (.int .i64 a1),.d (.int .i64 a2),U,U,U,.ptr 0 0,U,.d (.int .i64 v1),.own 0 (zA aa v2.1),.d (.int .i64 v2.2),U,U,U,U,U,U,U,U,U,U,U,U,U,U,U,U,U,U,U,U,U,U,U,U,U,U,U,U,U,U,U,U,U,U,U,U,U,U,U,U,.d (.bool v3)]++us 33)) (λv3=>⟨[[.nil,.nil]],[(58,v2.1.length)]⟩) (λ_=>rfl) ?_ ?_)))))
 refine .ite (λh2=>?_) (λh2=>?_)
 refine .bind λy3 h3=>.region λe h=>?_
 simp only[seval,EMB,aE,h2]
 refine SpecS.by (sp_run_spec h3) (by simp only[seval,FMB,h2]) ?_
 simp only[seval,EMB,h2]
 cases h
 simp only[seval,FMB,h2]
 refine .region λe h=>?_
 simp only[seval,EMB,aE,h2]
 cases h
 simp only[seval,FMB,h2]
 intro v3
 refine Mir.toK (.cond rfl (λh4=>?_) (λh4=>?_))
 refine .seqK (.guard λq1=>.region λe h=>?_)
 simp only[seval,EMB,bk,jO,br,bP,(oL 4),aC,pl_58,aE,sz_58,(oL 3),bh,ba,q1]
 refine mU e (.sR λe h=>?_) h
 simp only[seval,EMB]
 refine mU e (.exit λe h=>?_) h
 cases h
 simp only[seval,FMB,Tryz.results21,ag_71,sz_71]
 refine .skip (Mir.toK (.seqK (.bind λe1 q2=>?_)))
 replace q2:=gt_ok q2
 refine .guard λq3=>.region λe h=>?_
 simp only[seval,EMB,aE,sz_58,q2,ag_58,aC,(oL 3),bh,ba,q3]
 refine mU e (.region λe h=>?_) h
 simp only[seval,EMB]
 cases h
 simp only[seval,FMB,Tryz.results21,ag_71,sz_71]
 refine .exit λe h=>?_
 cases h
 simp only[seval,FMB,Tryz.results21,ag_71,sz_71]
 intro v4
 refine Mir.toK (.seqK (.bind λs1 q4=>?_))
 replace q4:=cutL_ok q4
 refine .bind λy4 h5=>.region λe h=>?_
 simp only[seval,EMB,aE,sz_58,q4,zM,and_true,true_and,dm,tm,ba]
 refine SpecS.by (bq h5) (by simp only[seval,FMB]) ?_
 simp only[seval,EMB,iC,pl_131,fi,kM,(oL 2),fE,pl_71,sz_71]
 refine mU e (.ret λe h=>?_) h
 cases h
 simp only[seval,FMB,Tryz.results21,ag_71,sz_71]
def sp_Join(a0:aJ):Option (List ac):=bindO (bc a0.Main) λ(y1:(List ac))=>bindO (aF (okIdx a0.Subs) ( aU (λ(i1:Nat) (e1:bd) (v1:(List ac))=>aF (okLen (v1.length+1)) ( aF (okLen (v1.length+1+e1.Blocks.length)) ( aF (okLen (v1.length+1+e1.Blocks.length+1)) ( some (.go (v1++[ac.mk false [ay.mk 79 (zX.wrap (1000*e1.Number))] []]++e1.Blocks++[ac.mk false [ay.mk 77 99000] []])))))) (λ(v1:(List ac))=>some v1) a0.Subs 0 y1)) λ(v2:(List ac))=>some v2
theorem sp_Join_spec{a0:aJ}{y:(List ac)}(h:sp_Join a0=some y):Spec gP 24 [.agg (cN a0)] (.d (.list (zA aa y))):=by
 refine aB Tryz.func24 rfl (by kernel_rfl) (by kernel_rfl) (λy:(List ac)=>.d (.list (zA aa y))) ?_ h
 unfold sp_Join
 simp only[zB,zD,nS,nA,Tryz.ntmps24,SV]
 refine .sR λe h=>?_
 simp only[seval,EMB]
 refine mU e (.seqK (.bind λy1 hy1=>.region λe h=>?_)) h
 simp only[seval,EMB,de,sz_50,ag_50]
 refine SpecO.toS (dH hy1) (by simp only[seval,FMB]) ?_
 simp only[seval,EMB]
 refine mU e (.seqK (.sR λe h=>?_)) h
 simp only[seval,EMB,fY,sz_69,ag_69,fi]
 refine mU e (Mir.joinO (λv2:(List ac)=>([U,U,U,.own 0 (zA aa v2)]++us 33)) (λv2=>⟨[(cN a0)],[(58,v2.length)]⟩) (λ_=>rfl) ?_ ?_) h
 refine .block (.guard λqg73=>Mir.range (λ(i1:Nat) (v1:(List ac))=>([U,U,U,.own 0 (zA aa v1),U,U,U,U,U,U,.d (.list (zA aK a0.Subs)),.d (.int .i64 (a0.Subs.length:Int)),.d (.int .i64 (i1:Int))]++us 24)) (λi1 v1=>⟨[(cN a0)],[(58,v1.length)]⟩) qg73 (λ_ _=>rfl) (by simp only[seval,FMB,zNI]) (by simp only[seval,FMB,zNI]) ?_ ?_)
 intro i1 e1 v1 qr71
 refine .sR λe h=>?_
 simp only[seval,EMB,qr71]
 refine mU e (.seqK (.condT rfl (.skip (Mir.toK (.seqK (.block (.sR λe h=>?_))))))) h
 simp only[seval,EMB,fi,kM,qr71,zG,ag_131,iC]
 refine mU e (.seqK (.guard λq77=>.region λe h=>?_)) h
 simp only[seval,EMB,ix,sz_2,ag_2,bk,jO,br,bP,(oL 2),aC,pl_58,aE,sz_58,(oL 3),bh,ba,q77]
 refine mU e (.seqK (.guard λq78=>.region λe h=>?_)) h
 simp only[seval,EMB,fld_131_1,sz_50,ag_50,bh,ba,xLA,q78]
 refine mU e (.guard λq79=>.region λe h=>?_) h
 simp only[seval,EMB,bk,jO,br,bP,(oL 2),aC,pl_58,aE,sz_58,(oL 3),bh,ba,xLA,q79]
 refine mU e (.region λe h=>?_) h
 simp only[seval,EMB]
 cases h
 simp only[seval,FMB,Tryz.results24,qr71]
 intro v1 qd72
 refine .sR λe h=>?_
 simp only[seval,EMB,qd72]
 refine mU e (.seqK (.condF rfl (.exit λe h=>?_))) h
 cases h
 simp only[seval,FMB,Tryz.results24]
 intro v2
 refine Mir.toK (.sR λe h=>?_)
 simp only[seval,EMB]
 refine mU e (.ret λe h=>?_) h
 cases h
 simp only[seval,FMB,Tryz.results24]
def po_Blocks(a0:(List fg))(a1:ag)(a2:ct):Option ((List ac)×Int):=bindO (po_Valid a2) λ(y1:Int)=>if (y1 != 0)=true then some ([],y1)else bindO (po_plain a0 (ag.mk a1.X a1.Y a1.Z) a2) λ(y2:(List ac)×Int)=>if (y2.2 != 0)=true then some ([],y2.2)else if a2.Compress=true then none else bindX (if (a2.Fold != 0)=true then bindO (sp_Fold y2.1 1000 a2.Fold) λ(y3:aJ×Int)=>if (y3.2 != 0)=true then some (.ret ([],y3.2))else bindO (sp_Join y3.1) λ(y4:(List ac))=>some (.go y4)else some (.go y2.1)) λ(v1:(List ac))=>if (decide ((v1.length:Int)>20000))=true then some ([],3)else if (a2.Numbers != 0)=true then none else some (v1,0)
theorem po_Blocks_spec{a0:(List fg)}{a1:ag}{a2:ct}{y:(List ac)×Int}(h:po_Blocks a0 a1 a2=some y):Spec gP 36 [.d (.list (zA ce a0)),.agg (cH a1),.agg (cG a2)] (.tuple [.d (.list (zA aa y.1)),.d (.int .i64 y.2)]):=by
 refine aB Tryz.func36 rfl (by kernel_rfl) (by kernel_rfl) (λy:(List ac)×Int=>.tuple [.d (.list (zA aa y.1)),.d (.int .i64 y.2)]) ?_ h
 unfold po_Blocks
 simp only[zB,zD,nS,nA,Tryz.ntmps36,SV]
 refine .sR λe h=>?_
 simp only[seval,EMB]
 refine mU e (.seqK (.seqK (.bind λy1 hy1=>.region λe h=>?_))) h
 simp only[seval,EMB,ag_33,sz_33]
 refine SpecS.by (po_Valid_spec hy1) (by simp only[seval,FMB]) ?_
 simp only[seval,EMB]
 refine mU e (.sR λe h=>?_) h
 simp only[seval,EMB]
 refine mU e (.cond rfl (λhb3=>?_) (λhb3=>?_)) h
 refine .sR λe h=>?_
 simp only[seval,EMB]
 refine mU e (.ret λe h=>?_) h
 cases h
 simp only[seval,FMB,Tryz.results36]
 refine .skip (Mir.toK (.seqK (.bind λy2 hy4=>.region λe h=>?_)))
 simp only[seval,EMB,ag_24,sz_24,ag_33,sz_33]
 refine SpecS.by (po_plain_spec hy4) (by simp only[seval,FMB]) ?_
 simp only[seval,EMB]
 refine mU e (.seqK (.sR λe h=>?_)) h
 simp only[seval,EMB]
 refine mU e (.cond rfl (λhb6=>?_) (λhb6=>?_)) h
 refine .sR λe h=>?_
 simp only[seval,EMB]
 refine mU e (.ret λe h=>?_) h
 cases h
 simp only[seval,FMB,Tryz.results36]
 refine .skip (Mir.toK (.seqK (.sR λe h=>?_)))
 simp only[seval,EMB,fld_33_1,sz_4,ag_4]
 refine mU e (.cond rfl (λhb9=>?_) (λhb9=>?_)) h
 exact Mir.no
 refine .skip (Mir.toK (.seqK (.sR λe h=>?_)))
 simp only[seval,EMB,fld_33_3,sz_3,ag_3]
 refine mU e (Mir.join (λv1:(List ac)=>([U,U,U,U,U,.ptr 1 0,U,U,U,.d (.list (zA aa v1))]++us 55)) (λv1=>⟨[(cH a1),(cG a2)],[]⟩) (λ_=>rfl) ?_ ?_) h
 refine .cond rfl (λhb16=>?_) (λhb16=>?_)
 refine .seqK (.bind λy3 hy17=>.region λe h=>?_)
 simp only[seval,EMB,fld_33_3,sz_3,ag_3]
 refine SpecS.by (sp_Fold_spec hy17) (by simp only[seval,FMB]) ?_
 simp only[seval,EMB,fE,sz_71]
 refine mU e (.seqK (.sR λe h=>?_)) h
 simp only[seval,EMB]
 refine mU e (.cond rfl (λhb19=>?_) (λhb19=>?_)) h
 refine .sR λe h=>?_
 simp only[seval,EMB]
 refine mU e (.ret λe h=>?_) h
 cases h
 simp only[seval,FMB,Tryz.results36]
 refine .skip (Mir.toK (.bind λy4 hy20=>.region λe h=>?_))
 simp only[seval,EMB,ag_71,sz_71]
 refine SpecS.by (sp_Join_spec hy20) (by simp only[seval,FMB]) ?_
 simp only[seval,EMB]
 cases h
 simp only[seval,FMB,Tryz.results36]
 refine .skip λe h=>?_
 cases h
 simp only[seval,FMB,Tryz.results36]
 intro v1
 refine Mir.toK (.seqK (.sR λe h=>?_))
 simp only[seval,EMB,aE]
 refine mU e (.cond rfl (λhb22=>?_) (λhb22=>?_)) h
 refine .sR λe h=>?_
 simp only[seval,EMB]
 refine mU e (.ret λe h=>?_) h
 cases h
 simp only[seval,FMB,Tryz.results36]
 refine .skip (Mir.toK (.seqK (.sR λe h=>?_)))
 simp only[seval,EMB,kv,sz_2,ag_2]
 refine mU e (.cond rfl (λhb24=>?_) (λhb24=>?_)) h
 exact Mir.no
 refine .skip (Mir.toK (.sR λe h=>?_))
 simp only[seval,EMB]
 refine mU e (.ret λe h=>?_) h
 cases h
 simp only[seval,FMB,Tryz.results36]
def fA(a0:Int):Option Bool:=some ((decide (a0≥32))&&((decide (a0≤126))&&((a0 != 40)&&(a0 != 41))))
theorem iz{a0:Int}{y:Bool}(h:fA a0=some y):Spec gP 45 [.d (.int .u8 a0)] (.d (.bool y)):=by
 refine aB Tryz.func45 rfl (by kernel_rfl) (by kernel_rfl) (λy:Bool=>.d (.bool y)) ?_ h
 unfold fA
 simp only[zB,zD,nS,nA,Tryz.ntmps45,SV]
 refine .sR λe h=>?_
 simp only[seval,EMB]
 refine mU e (.seqK (.joinV ([U,U,.d (.bool ((decide (a0≥32))&&((decide (a0≤126))&&((a0 != 40)&&(a0 != 41)))))]++us 14) ⟨[],[]⟩ rfl ?_ ?_)) h
 refine SWs.region ?_
 rcases zE (decide (a0≥32))with hb1 | hb1
 rcases zE (decide (a0≤126))with hb2 | hb2
 rcases zE (a0 != 40)with hb3 | hb3
 simp only[seval,EMB,SL,PB,hb1,hb2,hb3]
 simp only[seval,EMB,SL,PB,hb1,hb2,hb3]
 simp only[seval,EMB,SL,PB,hb1,hb2]
 simp only[seval,EMB,SL,PB,hb1]
 refine Mir.toK (.ret λe h=>?_)
 cases h
 simp only[seval,FMB,Tryz.results45]
def gc(a0:ac):Option Int:=if ((decide ((a0.Words.length:Int)>16))||(decide ((a0.Comment.length:Int)>100)))=true then some 1 else bindX (aF (okIdx a0.Words) ( aU (λ(i1:Nat) (e1:ay) (v1:Unit)=>if ((decide (e1.Letter<65))||((decide (e1.Letter>90))||((decide (e1.Value>1000000000000))||(decide (e1.Value<(-1000000000000))))))=true then some (.ret (.ret 1))else some (.go ())) (λ(v1:Unit)=>some (.go ())) a0.Words 0 ())) λ(v2:Unit)=>bindX (aF (okIdx (la a0.Comment)) ( aU (λ(i2:Nat) (e2:Int) (v3:Unit)=>bindO (fA e2) λ(y1:Bool)=>if (!y1)=true then some (.ret (.ret 1))else some (.go ())) (λ(v3:Unit)=>some (.go ())) (la a0.Comment) 0 ())) λ(v4:Unit)=>some 0
theorem ga{a0:ac}{y:Int}(h:gc a0=some y):Spec gP 17 [.agg (cJ a0)] (.d (.int .i64 y)):=by
 refine aB Tryz.func17 rfl (by kernel_rfl) (by kernel_rfl) (λy:Int=>.d (.int .i64 y)) ?_ h
 unfold gc
 simp only[zB,zD,nS,nA,Tryz.ntmps17,SV]
 refine .sR λe h=>?_
 simp only[seval,EMB,eInt]
 refine mU e (.seqK (.seqK (.joinV ([U,.ptr 0 0,U,U,U,U,U,U,U,U,U,U,U,U,U,U,.d (.bool ((decide ((a0.Words.length:Int)>16))||(decide ((a0.Comment.length:Int)>100))))]++us 38) ⟨[(cJ a0)],[]⟩ rfl ?_ ?_))) h
 refine SWs.region ?_
 rcases zE (decide ((a0.Words.length:Int)>16))with hb1 | hb1
 simp only[seval,EMB,SL,PB,bL,sz_56,ag_56,br,hb1,eInt]
 simp only[seval,EMB,SL,PB,bL,sz_56,ag_56,br,gZ,sz_9,ag_9,und_9,hb1,eInt]
 refine Mir.toK (.cond rfl (λhb3=>?_) (λhb3=>?_))
 refine .sR λe h=>?_
 simp only[seval,EMB]
 refine mU e (.ret λe h=>?_) h
 cases h
 simp only[seval,FMB,Tryz.results17]
 refine .skip (Mir.toK (.seqK (.sR λe h=>?_)))
 simp only[seval,EMB,bL,sz_56,ag_56,br,eInt]
 refine mU e (Mir.join (λv2:Unit=>([U,.ptr 0 0]++us 53)) (λv2=>⟨[(cJ a0)],[]⟩) (λ_=>rfl) ?_ ?_) h
 refine .block (.guard λqg96=>Mir.range (λ(i1:Nat) (v1:Unit)=>([U,.ptr 0 0,U,U,U,U,U,U,U,U,U,U,U,U,U,U,U,U,.d (.list (zA ar a0.Words)),.d (.int .i64 (a0.Words.length:Int)),.d (.int .i64 (i1:Int))]++us 34)) (λi1 v1=>⟨[(cJ a0)],[]⟩) qg96 (λ_ _=>rfl) (by simp only[seval,FMB,zNI]) (by simp only[seval,FMB,zNI]) ?_ ?_)
 intro i1 e1 v1 qr94
 refine .sR λe h=>?_
 simp only[seval,EMB,qr94]
 refine mU e (.seqK (.condT rfl (.skip (Mir.toK (.seqK (.block (.sR λe h=>?_))))))) h
 simp only[seval,EMB,br,bP,qr94,zG,ju,bk]
 refine mU e (.seqK (.joinV ([U,.ptr 0 0,U,U,U,U,U,U,U,U,U,U,U,U,U,U,U,U,.d (.list (zA ar a0.Words)),.d (.int .i64 (a0.Words.length:Int)),.d (.int .i64 (i1:Int)),U,U,U,U,U,U,U,U,U,U,U,U,U,U,U,U,U,U,U,U,.d (.bool ((decide (e1.Letter<65))||((decide (e1.Letter>90))||((decide (e1.Value>1000000000000))||(decide (e1.Value<(-1000000000000)))))))]++us 13) ⟨[(cJ a0),(cL e1)],[]⟩ rfl ?_ ?_)) h
 refine SWs.region ?_
 rcases zE (decide (e1.Letter<65))with h1 | h1
 simp only[seval,EMB,SL,PB,cr,sz_5,ag_5,h1]
 rcases zE (decide (e1.Letter>90))with h2 | h2
 simp only[seval,EMB,SL,PB,cr,sz_5,ag_5,h1,h2]
 rcases zE (decide (e1.Value>1000000000000))with h3 | h3
 simp only[seval,EMB,SL,PB,cr,sz_5,ag_5,bu,sz_2,ag_2,h1,h2,h3]
 simp only[seval,EMB,SL,PB,cr,sz_5,ag_5,bu,sz_2,ag_2,h1,h2,h3]
 refine Mir.toK (.cond rfl (λh4=>?_) (λh4=>?_))
 refine .sR λe h=>?_
 simp only[seval,EMB]
 refine mU e (.ret λe h=>?_) h
 cases h
 simp only[seval,FMB,Tryz.results17]
 refine .skip (Mir.toB (Mir.toK (.region λe h=>?_)))
 simp only[seval,EMB]
 cases h
 simp only[seval,FMB,Tryz.results17,qr94]
 intro v1 qd95
 refine .sR λe h=>?_
 simp only[seval,EMB,qd95]
 refine mU e (.seqK (.condF rfl (.exit λe h=>?_))) h
 cases h
 simp only[seval,FMB,Tryz.results17]
 intro v2
 refine Mir.toK (.seqK (.sR λe h=>?_))
 simp only[seval,EMB,gZ,sz_9,ag_9,und_9,und_123,und_5,bytes_enc,eInt]
 refine mU e (Mir.join (λv4:Unit=>(us 55)) (λv4=>⟨[(cJ a0)],[]⟩) (λ_=>rfl) ?_ ?_) h
 refine .block (.guard λq1=>Mir.range (λ(i2:Nat) (v3:Unit)=>([U,U,U,U,U,U,U,U,U,U,U,U,U,U,U,U,U,U,U,U,U,U,U,U,U,U,U,U,U,U,U,U,U,U,U,U,U,U,U,U,U,U,U,U,U,.d (.list (zA (eInt .u8) (la a0.Comment))),.d (.int .i64 ((la a0.Comment).length:Int)),.d (.int .i64 (i2:Int))]++us 7)) (λi2 v3=>⟨[(cJ a0)],[]⟩) q1 (λ_ _=>rfl) (by simp only[seval,FMB,eInt,zNI]) (by simp only[seval,FMB,eInt,zNI]) ?_ ?_)
 intro i2 e2 v3 q2
 refine .sR λe h=>?_
 simp only[seval,EMB,q2,eInt]
 refine mU e (.seqK (.condT rfl (.skip (Mir.toK (.seqK (.block (.sR λe h=>?_))))))) h
 simp only[seval,EMB,und_123,sz_5,q2,zG,ag_5,eInt]
 refine mU e (.seqK (.bind λy1 h5=>.region λe h=>?_)) h
 simp only[seval,EMB,eInt]
 refine SpecS.by (iz h5) (by simp only[seval,FMB,eInt]) ?_
 simp only[seval,EMB,eInt]
 refine mU e (.cond rfl (λh6=>?_) (λh6=>?_)) h
 refine .sR λe h=>?_
 simp only[seval,EMB,eInt]
 refine mU e (.ret λe h=>?_) h
 cases h
 simp only[seval,FMB,eInt,Tryz.results17]
 refine .skip (Mir.toB (Mir.toK (.region λe h=>?_)))
 simp only[seval,EMB,eInt]
 cases h
 simp only[seval,FMB,eInt,Tryz.results17,q2]
 intro v3 q3
 refine .sR λe h=>?_
 simp only[seval,EMB,q3,eInt]
 refine mU e (.seqK (.condF rfl (.exit λe h=>?_))) h
 cases h
 simp only[seval,FMB,eInt,Tryz.results17]
 intro v4
 refine Mir.toK (.sR λe h=>?_)
 simp only[seval,EMB,eInt]
 refine mU e (.ret λe h=>?_) h
 cases h
 simp only[seval,FMB,eInt,Tryz.results17]
def bk_Text(a0:Int):Option (List UInt8):=bindO (if (decide (a0<0))=true then some (zY.wrap (0-(zY.wrap a0)),[45])else some (zY.wrap a0,[])) λ(v1:Int×(List UInt8))=>bindO (eA (zY.wrap (zT v1.1 1000)) 10) λ(y1:(List UInt8))=>aF (okStr v1.2 y1) ( bindO (if (decide ((zW v1.1 1000)>0))=true then bindO (eA (zY.wrap (1000+(zW v1.1 1000))) 10) λ(y2:(List UInt8))=>bindO (cutF y2 1) λ(s1:(List UInt8))=>bindO (eT s1 [48]) λ(y3:(List UInt8))=>aF (okStr [46] y3) ( aF (okStr (v1.2++y1) ([46]++y3)) ( some ((v1.2++y1)++([46]++y3))))else some (v1.2++y1)) λ(v2:(List UInt8))=>some v2)
theorem bk_Text_spec{a0:Int}{y:(List UInt8)}(h:bk_Text a0=some y):Spec gP 94 [.d (.int .i64 a0)] (.d (.str y)):=by
 refine aB Tryz.func94 rfl (by kernel_rfl) (by kernel_rfl) (λy:(List UInt8)=>.d (.str y)) ?_ h
 unfold bk_Text
 simp only[zB,zD,nS,nA,Tryz.ntmps94,SV]
 refine .sR λe h=>?_
 simp only[seval,EMB]
 refine mU e (.sR λe h=>?_) h
 simp only[seval,EMB,und_2,und_196]
 refine mU e (.seqK (.sR λe h=>?_)) h
 simp only[seval,EMB]
 refine mU e (Mir.joinO (λv1:Int×(List UInt8)=>([U,U,U,.d (.int .u64 v1.1),.d (.str v1.2)]++us 26)) (λv1=>⟨[],[]⟩) (λ_=>rfl) ?_ ?_) h
 refine .cond rfl (λhb2=>?_) (λhb2=>?_)
 refine .region λe h=>?_
 simp only[seval,EMB]
 cases h
 simp only[seval,FMB,Tryz.results94]
 refine .skip λe h=>?_
 cases h
 simp only[seval,FMB,Tryz.results94]
 intro v1
 refine Mir.toK (.seqK (.bind λy1 hy3=>.guard λq4=>?_))
 replace q4:=fT q4
 refine .region λe h=>?_
 simp only[seval,EMB]
 refine SpecS.by (ez hy3) (by simp only[seval,FMB]) ?_
 simp only[seval,EMB,q4]
 refine mU e (.seqK (.sR λe h=>?_)) h
 simp only[seval,EMB]
 refine mU e (.sR λe h=>?_) h
 simp only[seval,EMB]
 refine mU e (Mir.joinO (λv2:(List UInt8)=>([U,U,U,U,U,.d (.str v2)]++us 25)) (λv2=>⟨[],[]⟩) (λ_=>rfl) ?_ ?_) h
 refine .cond rfl (λhb11=>?_) (λhb11=>?_)
 refine .bind λy2 hy12=>.bind λs1 q13=>?_
 replace q13:=jY q13
 simp only[zO,zU,zV,dp0]at q13
 refine .bind λy3 hy14=>.guard λq15=>?_
 replace q15:=fT q15
 try simp only[lm,xNA,xCA,xAN,xLC,xLN,xAC,xAL,nA,zQ]at q15
 refine .guard λq16=>?_
 replace q16:=fT q16
 try simp only[lm,xNA,xCA,xAN,xLC,xLN,xAC,xAL,nA,zQ]at q16
 refine .region λe h=>?_
 simp only[seval,EMB]
 refine SpecS.by (ez hy12) (by simp only[seval,FMB]) ?_
 simp only[seval,EMB,und_9,q13,zM,and_true,true_and,dm,tm]
 refine SpecS.by (jx hy14) (by simp only[seval,FMB]) ?_
 simp only[seval,EMB,q15,q16]
 cases h
 simp only[seval,FMB,Tryz.results94]
 refine .skip λe h=>?_
 cases h
 simp only[seval,FMB,Tryz.results94]
 intro v2
 refine Mir.toK (.sR λe h=>?_)
 simp only[seval,EMB]
 refine mU e (.ret λe h=>?_) h
 cases h
 simp only[seval,FMB,Tryz.results94]
def bk_Format(a0:ac):Option ((List UInt8)×Int):=bindO (gc a0) λ(y1:Int)=>if (y1 != 0)=true then some ([],y1)else bindO (aF (okIdx a0.Words) ( aU (λ(i1:Nat) (e1:ay) (v1:(List (List UInt8)))=>bindO (bk_Text e1.Value) λ(y2:(List UInt8))=>aF (okStr (runeS (IntKind.i32.wrap e1.Letter)) y2) ( aF (okLen (v1.length+1)) ( some (.go (v1++[(runeS (IntKind.i32.wrap e1.Letter))++y2]))))) (λ(v1:(List (List UInt8)))=>some v1) a0.Words 0 [])) λ(v2:(List (List UInt8)))=>bindO (if (!(a0.Comment==[]))=true then aF (okStr [40] a0.Comment) ( aF (okStr ([40]++a0.Comment) [41]) ( aF (okLen (v2.length+1)) ( some (v2++[([40]++a0.Comment)++[41]]))))else some v2) λ(v3:(List (List UInt8)))=>bindO (strings_Join v3 [32]) λ(y3:(List UInt8))=>bindO (if a0.Skip=true then aF (okStr [47] y3) ( some ([47]++y3))else some y3) λ(v4:(List UInt8))=>some (v4,0)
theorem bk_Format_spec{a0:ac}{y:(List UInt8)×Int}(h:bk_Format a0=some y):Spec gP 50 [.agg (cJ a0)] (.tuple [.d (.str y.1),.d (.int .i64 y.2)]):=by
 refine aB Tryz.func50 rfl (by kernel_rfl) (by kernel_rfl) (λy:(List UInt8)×Int=>.tuple [.d (.str y.1),.d (.int .i64 y.2)]) ?_ h
 unfold bk_Format
 simp only[zB,zD,nS,nA,Tryz.ntmps50,SV]
 refine .sR λe h=>?_
 simp only[seval,EMB,eStr]
 refine mU e (.seqK (.seqK (.bind λy1 hy1=>.region λe h=>?_))) h
 simp only[seval,EMB,ag_58,sz_58,eStr]
 refine SpecS.by (ga hy1) (by simp only[seval,FMB,eStr]) ?_
 simp only[seval,EMB,eStr]
 refine mU e (.sR λe h=>?_) h
 simp only[seval,EMB,eStr]
 refine mU e (.cond rfl (λhb3=>?_) (λhb3=>?_)) h
 refine .sR λe h=>?_
 simp only[seval,EMB]
 refine mU e (.ret λe h=>?_) h
 cases h
 simp only[seval,FMB,Tryz.results50]
 refine .skip (Mir.toK (.sR λe h=>?_))
 simp only[seval,EMB,eStr]
 refine mU e (.seqK (.sR λe h=>?_)) h
 simp only[seval,EMB,bL,sz_56,ag_56,br,eStr]
 refine mU e (.gh [.slot 5 9] rfl (Mir.joinO (λv2:(List (List UInt8))=>([U,.ptr 0 0,U,U,U,.own 0 (zA eStr v2)]++us 44)) (λv2=>⟨[(cJ a0)],[(9,v2.length)]⟩) (λ_=>rfl) ?_ ?_)) h
 refine .block (.guard λq1=>Mir.range (λ(i1:Nat) (v1:(List (List UInt8)))=>([U,.ptr 0 0,U,U,U,.own 0 (zA eStr v1),U,U,U,U,U,U,U,U,U,.d (.list (zA ar a0.Words)),.d (.int .i64 (a0.Words.length:Int)),.d (.int .i64 (i1:Int))]++us 32)) (λi1 v1=>⟨[(cJ a0)],[(9,v1.length)]⟩) q1 (λ_ _=>rfl) (by simp only[seval,FMB,eStr,zNI]) (by simp only[seval,FMB,eStr,zNI]) ?_ ?_)
 intro i1 e1 v1 q2
 refine .sR λe h=>?_
 simp only[seval,EMB,q2,eStr]
 refine mU e (.seqK (.condT rfl (.skip (Mir.toK (.seqK (.block (.sR λe h=>?_))))))) h
 simp only[seval,EMB,br,bP,q2,zG,ju,bk,eStr]
 refine mU e (.bind λy2 h1=>.guard λq3=>?_) h
 replace q3:=fT q3
 refine .guard λq4=>.regionD [] (by kernel_rfl) λe h=>?_
 simp only[seval,EMB,SB,cr,sz_5,ag_5,und_5,und_21,und_9,rune_enc,bu,sz_2,ag_2,eStr]
 refine Spec.by (bk_Text_spec h1) (by simp only[seval,FMB,eStr]) ?_
 simp only[seval,EMB,SB,q3,und_181,sz_9,zero_9,(oL 1),app_181,al_eStr,q4,eStr]
 refine mU e (.region λe h=>?_) h
 simp only[seval,EMB,eStr]
 cases h
 simp only[seval,FMB,eStr,Tryz.results50,q2]
 intro v1 q5
 refine .sR λe h=>?_
 simp only[seval,EMB,q5,eStr]
 refine mU e (.seqK (.condF rfl (.exit λe h=>?_))) h
 cases h
 simp only[seval,FMB,eStr,Tryz.results50]
 intro v2
 refine Mir.toK (.seqK (.sR λe h=>?_))
 simp only[seval,EMB,gZ,sz_9,ag_9,eStr]
 refine mU e (Mir.joinO (λv3:(List (List UInt8))=>([U,.ptr 0 0,U,U,U,.own 0 (zA eStr v3)]++us 44)) (λv3=>⟨[(cJ a0)],[(9,v3.length)]⟩) (λ_=>rfl) ?_ ?_) h
 refine .cond rfl (λh2=>?_) (λh2=>?_)
 refine .guard λq6=>?_
 replace q6:=fT q6
 try simp only[lm,xNA,xCA,xAN,xLC,xLN,xAC,xAL,nA,zQ]at q6
 refine .guard λq7=>?_
 replace q7:=fT q7
 try simp only[lm,xNA,xCA,xAN,xLC,xLN,xAC,xAL,nA,zQ]at q7
 refine .guard λq8=>.region λe h=>?_
 simp only[seval,EMB,gZ,sz_9,ag_9,q6,q7,und_181,zero_9,(oL 1),app_181,al_eStr,q8,eStr]
 cases h
 simp only[seval,FMB,eStr,Tryz.results50]
 refine .skip λe h=>?_
 cases h
 simp only[seval,FMB,eStr,Tryz.results50]
 intro v3
 refine Mir.toK (.seqK (.bind λy3 h3=>.region λe h=>?_))
 simp only[seval,EMB,eStr]
 refine SpecS.by (strings_Join_spec h3) (by simp only[seval,FMB,eStr]) ?_
 simp only[seval,EMB,eStr]
 refine mU e (.seqK (.sR λe h=>?_)) h
 simp only[seval,EMB,jd,sz_4,ag_4,eStr]
 refine mU e (Mir.joinO (λv4:(List UInt8)=>([U,U,U,U,U,U,U,U,.d (.str v4)]++us 41)) (λv4=>⟨[(cJ a0)],[(9,v3.length)]⟩) (λ_=>rfl) ?_ ?_) h
 refine .cond rfl (λh4=>?_) (λh4=>?_)
 refine .guard λq9=>?_
 replace q9:=fT q9
 try simp only[lm,xNA,xCA,xAN,xLC,xLN,xAC,xAL,nA,zQ]at q9
 refine .region λe h=>?_
 simp only[seval,EMB,q9,eStr]
 cases h
 simp only[seval,FMB,eStr,Tryz.results50]
 refine .skip λe h=>?_
 cases h
 simp only[seval,FMB,eStr,Tryz.results50]
 intro v4
 refine Mir.toK (.sR λe h=>?_)
 simp only[seval,EMB,eStr]
 refine mU e (.ret λe h=>?_) h
 cases h
 simp only[seval,FMB,eStr,Tryz.results50]
def bk_Print(a0:(List ac)):Option ((List UInt8)×Int):=bindX (aF (okIdx a0) ( aU (λ(i1:Nat) (e1:ac) (v1:(List UInt8))=>bindO (bk_Format e1) λ(y1:(List UInt8)×Int)=>if (y1.2 != 0)=true then some (.ret (.ret ([],y1.2)))else aF (okLen (v1.length+y1.1.length)) ( aF (okLen ((v1++y1.1).length+1)) ( some (.go (v1++y1.1++[10]))))) (λ(v1:(List UInt8))=>some (.go v1)) a0 0 [])) λ(v2:(List UInt8))=>some (v2,0)
theorem bk_Print_spec{a0:(List ac)}{y:(List UInt8)×Int}(h:bk_Print a0=some y):Spec gP 23 [.d (.list (zA aa a0))] (.tuple [.d (.str y.1),.d (.int .i64 y.2)]):=by
 refine aB Tryz.func23 rfl (by kernel_rfl) (by kernel_rfl) (λy:(List UInt8)×Int=>.tuple [.d (.str y.1),.d (.int .i64 y.2)]) ?_ h
 unfold bk_Print
 simp only[zB,zD,nS,nA,Tryz.ntmps23,SV]
 refine .sR λe h=>?_
 simp only[seval,EMB]
 refine mU e (.seqK (.regionW λe h=>regW.alt 0 rfl ?_)) h
 simp only[seval,EMB,ah,w_eq]
 refine alt_allocB (e:=5) (zv:=.agg #[.pointer none,.slice none 0 0]) rfl (by kernel_rfl) rfl (regW.of ?_)
 simp only[seval,EMB,ah,w_eq]
 refine mU e (.seqK (.sR λe h=>?_)) h
 simp only[seval,EMB,aE]
 refine mU e (Mir.join (λv2:(List UInt8)=>([U,U,U,U,.ptr 0 0]++us 23)) (λv2=>⟨[[.adr 0,.own 0 (zA byteE v2)]],[(5,v2.length)]⟩) (λ_=>rfl) ?_ ?_) h
 refine .block (.guard λq1=>Mir.range (λ(i1:Nat) (v1:(List UInt8))=>([U,U,U,U,.ptr 0 0,U,U,U,U,.d (.list (zA aa a0)),.d (.int .i64 (a0.length:Int)),.d (.int .i64 (i1:Int))]++us 16)) (λi1 v1=>⟨[[.adr 0,.own 0 (zA byteE v1)]],[(5,v1.length)]⟩) q1 (λ_ _=>rfl) (by simp only[seval,FMB,zNI]) (by simp only[seval,FMB,zNI]) ?_ ?_)
 intro i1 e1 v1 qr98
 refine .sR λe h=>?_
 simp only[seval,EMB,qr98]
 refine mU e (.seqK (.condT rfl (.skip (Mir.toK (.seqK (.block (.sR λe h=>?_))))))) h
 simp only[seval,EMB,aE,sz_58,qr98,zG,ag_58,aC]
 refine mU e (.seqK (.bind λy1 h1=>.region λe h=>?_)) h
 simp only[seval,EMB,ag_58,sz_58]
 refine SpecS.by (bk_Format_spec h1) (by simp only[seval,FMB]) ?_
 simp only[seval,EMB]
 refine mU e (.seqK (.sR λe h=>?_)) h
 simp only[seval,EMB]
 refine mU e (.cond rfl (λh2=>?_) (λh2=>?_)) h
 refine .sR λe h=>?_
 simp only[seval,EMB]
 refine mU e (.ret λe h=>?_) h
 cases h
 simp only[seval,FMB,Tryz.results23]
 refine .skip (Mir.toK (.seqK (.guard λq2=>.region λe h=>?_)))
 simp only[seval,EMB]
 refine specS_wsN (n:=(v1++y1.1).length) rfl (lns_at (by simp only[zK,zI,zL,zJ,zR,zN,xOS,xON]<;>omega)) (ok2 q2 (by simp only[zK,zI,zL,zJ,zR,zN,xOS,xON]<;>omega) rfl) (by simp only[zK,zI,zL,zJ,zR,zN,xOS,xON]<;>omega) ?_
 simp only[seval,EMB]
 refine mU e (.guard λq3=>.region λe h=>?_) h
 simp only[seval,EMB]
 refine specS_wbN (b:=10) (n:=(v1++y1.1++[10]).length) rfl rfl (lns_at (by simp only[zK,zI,zL,zJ,zR,zN,xOS,xON]<;>omega)) (ok2 q3 (by simp only[zK,zI,zL,zJ,zR,zN,xOS,xON]<;>omega) rfl) (by simp only[zK,zI,zL,zJ,zR,zN,xOS,xON]<;>omega) ?_
 simp only[seval,EMB]
 refine mU e (.region λe h=>?_) h
 simp only[seval,EMB]
 cases h
 simp only[seval,FMB,Tryz.results23,qr98]
 intro v1 qd99
 refine .sR λe h=>?_
 simp only[seval,EMB,qd99]
 refine mU e (.seqK (.condF rfl (.exit λe h=>?_))) h
 cases h
 simp only[seval,FMB,Tryz.results23]
 intro v2
 refine Mir.toK (.sR λe h=>?_)
 simp only[seval,EMB]
 refine specS_st rfl (lns_at (by simp only[zK,zI,zL,zJ,zR,zN,xOS,xON]<;>omega)) ?_
 simp only[seval,EMB]
 refine mU e (.ret λe h=>?_) h
 cases h
 simp only[seval,FMB,Tryz.results23]
def po_Emit(a0:(List fg))(a1:ag)(a2:ct):Option ((List UInt8)×Int):=bindO (po_Blocks a0 (ag.mk a1.X a1.Y a1.Z) a2) λ(y1:(List ac)×Int)=>if (y1.2 != 0)=true then some ([],y1.2)else bindO (bk_Print y1.1) λ(y2:(List UInt8)×Int)=>if (y2.2 != 0)=true then some ([],y2.2)else if (decide ((y2.1.length:Int)>65536))=true then some ([],3)else some (y2.1,0)
theorem po_Emit_spec{a0:(List fg)}{a1:ag}{a2:ct}{y:(List UInt8)×Int}(h:po_Emit a0 a1 a2=some y):Spec gP 9 [.d (.list (zA ce a0)),.agg (cH a1),.agg (cG a2)] (.tuple [.d (.str y.1),.d (.int .i64 y.2)]):=by
 refine aB Tryz.func9 rfl (by kernel_rfl) (by kernel_rfl) (λy:(List UInt8)×Int=>.tuple [.d (.str y.1),.d (.int .i64 y.2)]) ?_ h
 unfold po_Emit
 simp only[zB,zD,nS,nA,Tryz.ntmps9,SV]
 refine .sR λe h=>?_
 simp only[seval,EMB]
 refine mU e (.seqK (.bind λy1 hy1=>.region λe h=>?_)) h
 simp only[seval,EMB,ag_24,sz_24,ag_33,sz_33]
 refine SpecS.by (po_Blocks_spec hy1) (by simp only[seval,FMB]) ?_
 simp only[seval,EMB]
 refine mU e (.seqK (.sR λe h=>?_)) h
 simp only[seval,EMB]
 refine mU e (.cond rfl (λhb3=>?_) (λhb3=>?_)) h
 refine .sR λe h=>?_
 simp only[seval,EMB]
 refine mU e (.ret λe h=>?_) h
 cases h
 simp only[seval,FMB,Tryz.results9]
 refine .skip (Mir.toK (.seqK (.bind λy2 hy4=>.region λe h=>?_)))
 simp only[seval,EMB]
 refine SpecS.by (bk_Print_spec hy4) (by simp only[seval,FMB]) ?_
 simp only[seval,EMB]
 refine mU e (.seqK (.sR λe h=>?_)) h
 simp only[seval,EMB]
 refine mU e (.cond rfl (λhb6=>?_) (λhb6=>?_)) h
 refine .sR λe h=>?_
 simp only[seval,EMB]
 refine mU e (.ret λe h=>?_) h
 cases h
 simp only[seval,FMB,Tryz.results9]
 refine .skip (Mir.toK (.seqK (.sR λe h=>?_)))
 simp only[seval,EMB,und_9]
 refine mU e (.cond rfl (λhb8=>?_) (λhb8=>?_)) h
 refine .sR λe h=>?_
 simp only[seval,EMB]
 refine mU e (.ret λe h=>?_) h
 cases h
 simp only[seval,FMB,Tryz.results9]
 refine .skip (Mir.toK (.sR λe h=>?_))
 simp only[seval,EMB]
 refine mU e (.ret λe h=>?_) h
 cases h
 simp only[seval,FMB,Tryz.results9]
def iI(a0:ag):Option aw:=bindO (some ()) λ(v1:Unit)=>some (aw.mk (dR.mk (ag.mk 0 0 0) a0 (ag.mk 0 0 0) (ag.mk 0 0 0) (ag.mk 0 0 0) (ag.mk 0 0 0)) [aX.mk 1 11000,aX.mk 2 12000,aX.mk 3 13000,aX.mk 4 14000,aX.mk 5 15000,aX.mk 6 16000,aX.mk 7 17000,aX.mk 8 18000,aX.mk 9 19000])
theorem top_lengths53_spec{a0:ag}{y:aw}(h:iI a0=some y):Spec gP 11 [.agg (cH a0)] (.agg (w6 y.Work [.d (.list (zA av y.Lengths))])):=by
 refine aB Tryz.func11 rfl (by kernel_rfl) (by kernel_rfl) (λy:aw=>.agg (w6 y.Work [.d (.list (zA av y.Lengths))])) ?_ h
 unfold iI
 simp only[zB,zD,nS,nA,Tryz.ntmps11,SV]
 refine .sR λe h=>?_
 simp only[seval,EMB,zero_38]
 refine mU e (.sR λe h=>?_) h
 simp only[seval,EMB,zero_38]
 refine mU e (.sR λe h=>?_) h
 simp only[seval,EMB,ag_24,sz_24,g7,sz_35,und_35]
 refine mU e (.seqK (.sR λe h=>?_)) h
 simp only[seval,EMB]
 refine mU e (.gh [.cell 2 18 68] rfl (Mir.joinO (λv1:Unit=>([U,U,.ptr 1 0,.ptr 2 0]++us 19)) (λv1=>⟨[(cH a0),[.d (.int .i64 0),.d (.int .i64 0),.d (.int .i64 0),.d (.int .i64 0),.d (.int .i64 0),.d (.int .i64 0),.d (.int .i64 0),.d (.int .i64 0),.d (.int .i64 0),.d (.int .i64 0),.d (.int .i64 0),.d (.int .i64 0),.d (.int .i64 0),.d (.int .i64 0),.d (.int .i64 0),.d (.int .i64 0),.d (.int .i64 0),.d (.int .i64 0),.nil],[.d (.int .i64 0),.d (.int .i64 0),.d (.int .i64 0),.d (.int .i64 a0.X),.d (.int .i64 a0.Y),.d (.int .i64 a0.Z),.d (.int .i64 0),.d (.int .i64 0),.d (.int .i64 0),.d (.int .i64 0),.d (.int .i64 0),.d (.int .i64 0),.d (.int .i64 0),.d (.int .i64 0),.d (.int .i64 0),.d (.int .i64 0),.d (.int .i64 0),.d (.int .i64 0),.own 0 (zA av [aX.mk 1 11000,aX.mk 2 12000,aX.mk 3 13000,aX.mk 4 14000,aX.mk 5 15000,aX.mk 6 16000,aX.mk 7 17000,aX.mk 8 18000,aX.mk 9 19000])]],[(68,9)]⟩) (λ_=>rfl) ?_ ?_)) h
 refine .block (.loopR 15 (.seqK (.sR λe h=>?_)))
 simp only[seval,EMB,(nr rfl:(decide ((1:Int)≤9))=true)]
 refine mU e (.condT rfl (.skip (Mir.toK (.seqK (.block (.region λe h=>?_)))))) h
 simp only[seval,EMB,dN,sz_36,ag_36,(nr rfl:zX.wrap 1000=1000),(nr rfl:zX.wrap 11000=11000),ia,pl_68,fM,sz_68,(oL 2),app_36,cg,(oL 1)]
 refine mU e (.region λe h=>?_) h
 simp only[seval,EMB,(nr rfl:zX.wrap 2=2)]
 refine Mir.useN (e:=e) ?_ h
 refine .seqK (.sR λe h=>?_)
 simp only[seval,EMB,(nr rfl:(decide ((2:Int)≤9))=true)]
 refine mU e (.condT rfl (.skip (Mir.toK (.seqK (.block (.region λe h=>?_)))))) h
 simp only[seval,EMB,dN,sz_36,ag_36,(nr rfl:zX.wrap 2000=2000),(nr rfl:zX.wrap 12000=12000),ia,pl_68,fM,sz_68,(oL 2),app_36,cg]
 refine mU e (.region λe h=>?_) h
 simp only[seval,EMB,(nr rfl:zX.wrap 3=3)]
 refine Mir.useN (e:=e) ?_ h
 refine .seqK (.sR λe h=>?_)
 simp only[seval,EMB,(nr rfl:(decide ((3:Int)≤9))=true)]
 refine mU e (.condT rfl (.skip (Mir.toK (.seqK (.block (.region λe h=>?_)))))) h
 simp only[seval,EMB,dN,sz_36,ag_36,(nr rfl:zX.wrap 3000=3000),(nr rfl:zX.wrap 13000=13000),ia,pl_68,fM,sz_68,(oL 2),app_36,cg,(oL 3)]
 refine mU e (.region λe h=>?_) h
 simp only[seval,EMB,(nr rfl:zX.wrap 4=4)]
 refine Mir.useN (e:=e) ?_ h
 refine .seqK (.sR λe h=>?_)
 simp only[seval,EMB,(nr rfl:(decide ((4:Int)≤9))=true)]
 refine mU e (.condT rfl (.skip (Mir.toK (.seqK (.block (.region λe h=>?_)))))) h
 simp only[seval,EMB,dN,sz_36,ag_36,(nr rfl:zX.wrap 4000=4000),(nr rfl:zX.wrap 14000=14000),ia,pl_68,fM,sz_68,(oL 2),app_36,cg,(oL 4)]
 refine mU e (.region λe h=>?_) h
 simp only[seval,EMB,(nr rfl:zX.wrap 5=5)]
 refine Mir.useN (e:=e) ?_ h
 refine .seqK (.sR λe h=>?_)
 simp only[seval,EMB,(nr rfl:(decide ((5:Int)≤9))=true)]
 refine mU e (.condT rfl (.skip (Mir.toK (.seqK (.block (.region λe h=>?_)))))) h
 simp only[seval,EMB,dN,sz_36,ag_36,(nr rfl:zX.wrap 5000=5000),(nr rfl:zX.wrap 15000=15000),ia,pl_68,fM,sz_68,(oL 2),app_36,cg,(oL 5)]
 refine mU e (.region λe h=>?_) h
 simp only[seval,EMB,(nr rfl:zX.wrap 6=6)]
 refine Mir.useN (e:=e) ?_ h
 refine .seqK (.sR λe h=>?_)
 simp only[seval,EMB,(nr rfl:(decide ((6:Int)≤9))=true)]
 refine mU e (.condT rfl (.skip (Mir.toK (.seqK (.block (.region λe h=>?_)))))) h
 simp only[seval,EMB,dN,sz_36,ag_36,(nr rfl:zX.wrap 6000=6000),(nr rfl:zX.wrap 16000=16000),ia,pl_68,fM,sz_68,(oL 2),app_36,cg,(oL 6)]
 refine mU e (.region λe h=>?_) h
 simp only[seval,EMB,(nr rfl:zX.wrap 7=7)]
 refine Mir.useN (e:=e) ?_ h
 refine .seqK (.sR λe h=>?_)
 simp only[seval,EMB,(nr rfl:(decide ((7:Int)≤9))=true)]
 refine mU e (.condT rfl (.skip (Mir.toK (.seqK (.block (.region λe h=>?_)))))) h
 simp only[seval,EMB,dN,sz_36,ag_36,(nr rfl:zX.wrap 7000=7000),(nr rfl:zX.wrap 17000=17000),ia,pl_68,fM,sz_68,(oL 2),app_36,cg,(oL 7)]
 refine mU e (.region λe h=>?_) h
 simp only[seval,EMB,(nr rfl:zX.wrap 8=8)]
 refine Mir.useN (e:=e) ?_ h
 refine .seqK (.sR λe h=>?_)
 simp only[seval,EMB,(nr rfl:(decide ((8:Int)≤9))=true)]
 refine mU e (.condT rfl (.skip (Mir.toK (.seqK (.block (.region λe h=>?_)))))) h
 simp only[seval,EMB,dN,sz_36,ag_36,(nr rfl:zX.wrap 8000=8000),(nr rfl:zX.wrap 18000=18000),ia,pl_68,fM,sz_68,(oL 2),app_36,cg,(oL 8)]
 refine mU e (.region λe h=>?_) h
 simp only[seval,EMB,(nr rfl:zX.wrap 9=9)]
 refine Mir.useN (e:=e) ?_ h
 refine .seqK (.sR λe h=>?_)
 simp only[seval,EMB,(nr rfl:(decide ((9:Int)≤9))=true)]
 refine mU e (.condT rfl (.skip (Mir.toK (.seqK (.block (.region λe h=>?_)))))) h
 simp only[seval,EMB,dN,sz_36,ag_36,(nr rfl:zX.wrap 9000=9000),(nr rfl:zX.wrap 19000=19000),ia,pl_68,fM,sz_68,(oL 2),app_36,cg,(oL 9)]
 refine mU e (.region λe h=>?_) h
 simp only[seval,EMB,(nr rfl:zX.wrap 10=10)]
 refine Mir.useN (e:=e) ?_ h
 refine .seqK (.sR λe h=>?_)
 simp only[seval,EMB,(nr rfl:(decide ((10:Int)≤9))=false)]
 refine mU e (.condF rfl (.exit λe h=>?_)) h
 cases h
 simp only[seval,FMB,Tryz.results11,ag_38,sz_38]
 intro v1
 refine Mir.toK (.sR λe h=>?_)
 simp only[seval,EMB,ag_38,sz_38]
 refine mU e (.ret λe h=>?_) h
 cases h
 simp only[seval,FMB,Tryz.results11,ag_38,sz_38]
def jk(a0:ag):Option Bool:=some ((decide ((mmI true (mmI true a0.X a0.Y) a0.Z)>10000000))||(decide ((mmI false (mmI false a0.X a0.Y) a0.Z)<(-10000000))))
theorem dt{a0:ag}{y:Bool}(h:jk a0=some y):Spec gP 111 [.agg (cH a0)] (.d (.bool y)):=by
 refine aB Tryz.func111 rfl (by kernel_rfl) (by kernel_rfl) (λy:Bool=>.d (.bool y)) ?_ h
 unfold jk
 simp only[zB,zD,nS,nA,Tryz.ntmps111,SV]
 refine .sR λe h=>?_
 simp only[seval,EMB]
 refine mU e (.sR λe h=>?_) h
 simp only[seval,EMB,bG,sz_2,ag_2,bM,cv]
 refine mU e (.sR λe h=>?_) h
 simp only[seval,EMB,bG,sz_2,ag_2,bM,cv]
 refine mU e (.seqK (.joinV ([U,U,.d (.bool ((decide ((mmI true (mmI true a0.X a0.Y) a0.Z)>10000000))||(decide ((mmI false (mmI false a0.X a0.Y) a0.Z)<(-10000000)))))]++us 22) ⟨[(cH a0)],[]⟩ rfl ?_ ?_)) h
 refine SWs.region ?_
 rcases zE (decide ((mmI true (mmI true a0.X a0.Y) a0.Z)>10000000))with hb1 | hb1
 simp only[seval,EMB,SL,PB,hb1]
 simp only[seval,EMB,SL,PB,hb1]
 refine Mir.toK (.ret λe h=>?_)
 cases h
 simp only[seval,FMB,Tryz.results111]
def tb_entry(a0:aX):Option Bool:=some ((decide (a0.Number≥1))&&((decide (a0.Number≤999))&&((decide (a0.Length≥0))&&(decide (a0.Length≤10000000)))))
theorem iK{a0:aX}{y:Bool}(h:tb_entry a0=some y):Spec gP 124 [.agg [.d (.int .i64 a0.Number),.d (.int .i64 a0.Length)]] (.d (.bool y)):=by
 refine aB Tryz.func124 rfl (by kernel_rfl) (by kernel_rfl) (λy:Bool=>.d (.bool y)) ?_ h
 unfold tb_entry
 simp only[zB,zD,nS,nA,Tryz.ntmps124,SV]
 refine .sR λe h=>?_
 simp only[seval,EMB]
 refine mU e (.seqK (.joinV ([U,U,.d (.bool ((decide (a0.Number≥1))&&((decide (a0.Number≤999))&&((decide (a0.Length≥0))&&(decide (a0.Length≤10000000))))))]++us 18) ⟨[[.d (.int .i64 a0.Number),.d (.int .i64 a0.Length)]],[]⟩ rfl ?_ ?_)) h
 refine SWs.region ?_
 rcases zE (decide (a0.Number≥1))with hb1 | hb1
 rcases zE (decide (a0.Number≤999))with hb2 | hb2
 rcases zE (decide (a0.Length≥0))with hb3 | hb3
 simp only[seval,EMB,SL,PB,ku,sz_2,ag_2,fld_68_1,hb1,hb2,hb3]
 simp only[seval,EMB,SL,PB,ku,sz_2,ag_2,fld_68_1,hb1,hb2,hb3]
 simp only[seval,EMB,SL,PB,ku,sz_2,ag_2,hb1,hb2]
 simp only[seval,EMB,SL,PB,ku,sz_2,ag_2,hb1]
 refine Mir.toK (.ret λe h=>?_)
 cases h
 simp only[seval,FMB,Tryz.results124]
def ey(a0:aw):Option Int:=bindO (bindO (bindX (bindO (jk a0.Work.e0) λ(y1:Bool)=>if y1=true then some (.ret 0)else bindO (jk a0.Work.e1) λ(y2:Bool)=>if y2=true then some (.ret 1)else bindO (jk a0.Work.e2) λ(y3:Bool)=>if y3=true then some (.ret 2)else bindO (jk a0.Work.e3) λ(y4:Bool)=>if y4=true then some (.ret 3)else bindO (jk a0.Work.e4) λ(y5:Bool)=>if y5=true then some (.ret 4)else bindO (jk a0.Work.e5) λ(y6:Bool)=>if y6=true then some (.ret 5)else some (.go ())) λ(v1:Unit)=>some (-1)) λ(v2:Int)=>some (decide (v2≥0))) λ(v3:Bool)=>if v3=true then some 1 else bindX (aF (okIdx a0.Lengths) ( aU (λ(i1:Nat) (e1:aX) (v4:Unit)=>bindO (bindO (tb_entry e1) λ(y7:Bool)=>if y7=true then if (decide ((i1:Int)>0))=true then bindO (gt a0.Lengths (zX.wrap ((i1:Int)-1))) λ(e2:aX)=>some (decide (e2.Number≥e1.Number))else some false else some true) λ(v5:Bool)=>if v5=true then some (.ret (.ret 1))else some (.go ())) (λ(v4:Unit)=>some (.go ())) a0.Lengths 0 ())) λ(v6:Unit)=>some 0
theorem tb_Valid_spec{a0:aw}{y:Int}(h:ey a0=some y):Spec gP 75 [.agg (w6 a0.Work [.d (.list (zA av a0.Lengths))])] (.d (.int .i64 y)):=by
 refine aB Tryz.func75 rfl (by kernel_rfl) (by kernel_rfl) (λy:Int=>.d (.int .i64 y)) ?_ h
 unfold ey
 simp only[zB,zD,nS,nA,Tryz.ntmps75,SV]
 refine .sR λe h=>?_
 simp only[seval,EMB]
 refine mU e (.seqK (.seqK (.bind λv3 hv62=>.region λe h=>?_))) h
 simp only[seval,EMB,g7,sz_35,und_35,sz_24]
 refine SpecS.inl Tryz.func123 rfl (by kernel_rfl) (by kernel_rfl) (λv3:Bool=>.d (.bool v3)) (λv3=>⟨[(w6 a0.Work [.d (.list (zA av a0.Lengths))])],[]⟩) hv62 rfl ?_ ?_
 simp only[zB,zD,nS,nA,Tryz.ntmps123,SV]
 refine .sR λe h=>?_
 simp only[seval,EMB]
 refine mU e (.seqK (.bind λv2 h1=>.region λe h=>?_)) h
 simp only[seval,EMB]
 refine SpecS.inl Tryz.func156 rfl (by kernel_rfl) (by kernel_rfl) (λv2:Int=>.d (.int .i64 v2)) (λv2=>⟨[(w6 a0.Work [.d (.list (zA av a0.Lengths))])],[]⟩) h1 rfl ?_ ?_
 simp only[zB,zD,nS,nA,Tryz.ntmps156,SV]
 refine .sR λe h=>?_
 simp only[seval,EMB]
 refine mU e (.seqK (.sR λe h=>?_)) h
 simp only[seval,EMB,gq,(nr rfl:((6:Nat):Int)=6)]
 refine mU e (Mir.join (λv1:Unit=>(us 19)) (λv1=>⟨[(w6 a0.Work [.d (.list (zA av a0.Lengths))])],[]⟩) (λ_=>rfl) ?_ ?_) h
 refine .block (.loopR 15 (.sR λe h=>?_))
 simp only[seval,EMB]
 refine mU e (.seqK (.condT rfl (.skip (Mir.toK (.seqK (.block (.sR λe h=>?_))))))) h
 simp only[seval,EMB]
 refine mU e (.seqK (.bind λy1 h2=>.region λe h=>?_)) h
 simp only[seval,EMB,gq,sz_24,ag_24]
 refine SpecS.by (dt h2) (by simp only[seval,FMB]) ?_
 simp only[seval,EMB]
 refine mU e (.cond rfl (λh3=>?_) (λh3=>?_)) h
 refine .sR λe h=>?_
 simp only[seval,EMB]
 refine mU e (.ret λe h=>?_) h
 cases h
 simp only[seval,FMB,Tryz.results156]
 refine .skip (Mir.toB (Mir.toK (.region λe h=>?_)))
 simp only[seval,EMB,(nr rfl:zX.wrap 1=1)]
 refine Mir.useN (e:=e) ?_ h
 refine .sR λe h=>?_
 simp only[seval,EMB]
 refine mU e (.seqK (.condT rfl (.skip (Mir.toK (.seqK (.block (.sR λe h=>?_))))))) h
 simp only[seval,EMB]
 refine mU e (.seqK (.bind λy2 h4=>.region λe h=>?_)) h
 simp only[seval,EMB,gq,sz_24,ag_24]
 refine SpecS.by (dt h4) (by simp only[seval,FMB]) ?_
 simp only[seval,EMB]
 refine mU e (.cond rfl (λh5=>?_) (λh5=>?_)) h
 refine .sR λe h=>?_
 simp only[seval,EMB]
 refine mU e (.ret λe h=>?_) h
 cases h
 simp only[seval,FMB,Tryz.results156]
 refine .skip (Mir.toB (Mir.toK (.region λe h=>?_)))
 simp only[seval,EMB,(nr rfl:zX.wrap 2=2)]
 refine Mir.useN (e:=e) ?_ h
 refine .sR λe h=>?_
 simp only[seval,EMB]
 refine mU e (.seqK (.condT rfl (.skip (Mir.toK (.seqK (.block (.sR λe h=>?_))))))) h
 simp only[seval,EMB]
 refine mU e (.seqK (.bind λy3 h6=>.region λe h=>?_)) h
 simp only[seval,EMB,gq,sz_24,ag_24]
 refine SpecS.by (dt h6) (by simp only[seval,FMB]) ?_
 simp only[seval,EMB]
 refine mU e (.cond rfl (λh7=>?_) (λh7=>?_)) h
 refine .sR λe h=>?_
 simp only[seval,EMB]
 refine mU e (.ret λe h=>?_) h
 cases h
 simp only[seval,FMB,Tryz.results156]
 refine .skip (Mir.toB (Mir.toK (.region λe h=>?_)))
 simp only[seval,EMB,(nr rfl:zX.wrap 3=3)]
 refine Mir.useN (e:=e) ?_ h
 refine .sR λe h=>?_
 simp only[seval,EMB]
 refine mU e (.seqK (.condT rfl (.skip (Mir.toK (.seqK (.block (.sR λe h=>?_))))))) h
 simp only[seval,EMB]
 refine mU e (.seqK (.bind λy4 h8=>.region λe h=>?_)) h
 simp only[seval,EMB,gq,sz_24,ag_24]
 refine SpecS.by (dt h8) (by simp only[seval,FMB]) ?_
 simp only[seval,EMB]
 refine mU e (.cond rfl (λh9=>?_) (λh9=>?_)) h
 refine .sR λe h=>?_
 simp only[seval,EMB]
 refine mU e (.ret λe h=>?_) h
 cases h
 simp only[seval,FMB,Tryz.results156]
 refine .skip (Mir.toB (Mir.toK (.region λe h=>?_)))
 simp only[seval,EMB,(nr rfl:zX.wrap 4=4)]
 refine Mir.useN (e:=e) ?_ h
 refine .sR λe h=>?_
 simp only[seval,EMB]
 refine mU e (.seqK (.condT rfl (.skip (Mir.toK (.seqK (.block (.sR λe h=>?_))))))) h
 simp only[seval,EMB]
 refine mU e (.seqK (.bind λy5 h10=>.region λe h=>?_)) h
 simp only[seval,EMB,gq,sz_24,ag_24]
 refine SpecS.by (dt h10) (by simp only[seval,FMB]) ?_
 simp only[seval,EMB]
 refine mU e (.cond rfl (λh11=>?_) (λh11=>?_)) h
 refine .sR λe h=>?_
 simp only[seval,EMB]
 refine mU e (.ret λe h=>?_) h
 cases h
 simp only[seval,FMB,Tryz.results156]
 refine .skip (Mir.toB (Mir.toK (.region λe h=>?_)))
 simp only[seval,EMB,(nr rfl:zX.wrap 5=5)]
 refine Mir.useN (e:=e) ?_ h
 refine .sR λe h=>?_
 simp only[seval,EMB]
 refine mU e (.seqK (.condT rfl (.skip (Mir.toK (.seqK (.block (.sR λe h=>?_))))))) h
 simp only[seval,EMB]
 refine mU e (.seqK (.bind λy6 h12=>.region λe h=>?_)) h
 simp only[seval,EMB,gq,sz_24,ag_24]
 refine SpecS.by (dt h12) (by simp only[seval,FMB]) ?_
 simp only[seval,EMB]
 refine mU e (.cond rfl (λh13=>?_) (λh13=>?_)) h
 refine .sR λe h=>?_
 simp only[seval,EMB]
 refine mU e (.ret λe h=>?_) h
 cases h
 simp only[seval,FMB,Tryz.results156]
 refine .skip (Mir.toB (Mir.toK (.region λe h=>?_)))
 simp only[seval,EMB,(nr rfl:zX.wrap 6=6)]
 refine Mir.useN (e:=e) ?_ h
 refine .sR λe h=>?_
 simp only[seval,EMB]
 refine mU e (.seqK (.condF rfl (.exit λe h=>?_))) h
 cases h
 simp only[seval,FMB,Tryz.results156]
 intro v1
 refine Mir.toK (.sR λe h=>?_)
 simp only[seval,EMB]
 refine mU e (.ret λe h=>?_) h
 cases h
 simp only[seval,FMB,Tryz.results156]
 simp only[seval,EMB]
 refine mU e (.ret λe h=>?_) h
 cases h
 simp only[seval,FMB,Tryz.results123]
 simp only[seval,EMB]
 refine mU e (.cond rfl (λh14=>?_) (λh14=>?_)) h
 refine .sR λe h=>?_
 simp only[seval,EMB]
 refine mU e (.ret λe h=>?_) h
 cases h
 simp only[seval,FMB,Tryz.results75]
 refine .skip (Mir.toK (.seqK (.sR λe h=>?_)))
 simp only[seval,EMB,dN,sz_36,ag_36,fM]
 refine mU e (Mir.join (λv6:Unit=>(us 36)) (λv6=>⟨[(w6 a0.Work [.d (.list (zA av a0.Lengths))])],[]⟩) (λ_=>rfl) ?_ ?_) h
 refine .block (.guard λq1=>Mir.range (λ(i1:Nat) (v4:Unit)=>([U,.ptr 0 0,U,U,U,U,U,U,U,.d (.list (zA av a0.Lengths)),.d (.int .i64 (a0.Lengths.length:Int)),.d (.int .i64 (i1:Int))]++us 24)) (λi1 v4=>⟨[(w6 a0.Work [.d (.list (zA av a0.Lengths))])],[]⟩) q1 (λ_ _=>rfl) (by simp only[seval,FMB,zNI]) (by simp only[seval,FMB,zNI]) ?_ ?_)
 intro i1 e1 v4 q2
 refine .sR λe h=>?_
 simp only[seval,EMB,q2]
 refine mU e (.seqK (.condT rfl (.skip (Mir.toK (.seqK (.block (.sR λe h=>?_))))))) h
 simp only[seval,EMB,fM,sz_68,q2,zG,ag_68,ia]
 refine mU e (.seqK (Mir.joinO (λv5:Bool=>[U,.ptr 0 0,U,U,U,U,U,U,U,.d (.list (zA av a0.Lengths)),.d (.int .i64 (a0.Lengths.length:Int)),.d (.int .i64 (i1:Int)),U,U,U,U,U,U,U,U,U,U,U,U,U,U,U,U,U,U,U,U,U,U,.d (.bool v5),U]) (λv5=>⟨[(w6 a0.Work [.d (.list (zA av a0.Lengths))]),[.d (.int .i64 e1.Number),.d (.int .i64 e1.Length)]],[]⟩) (λ_=>rfl) ?_ ?_)) h
 refine .bind λy7 h15=>.ite (λh16=>?_) (λh16=>?_)
 refine .ite (λh17=>?_) (λh17=>?_)
 refine .bind λe2 q3=>?_
 replace q3:=gt_ok q3
 refine .regionD [] (by kernel_rfl) λe h=>?_
 simp only[seval,EMB,SB,ag_68,sz_68,h16,h17]
 refine Spec.by (iK h15) (by simp only[seval,FMB,h16,h17]) ?_
 simp only[seval,EMB,SB,dN,sz_36,ag_36,fM,sz_68,q3,ku,sz_2,ag_2,h16,h17]
 cases h
 simp only[seval,FMB,h16,h17]
 refine .regionD [] (by kernel_rfl) λe h=>?_
 simp only[seval,EMB,SB,ag_68,sz_68,h16,h17]
 refine Spec.by (iK h15) (by simp only[seval,FMB,h16,h17]) ?_
 simp only[seval,EMB,SB,h16,h17]
 cases h
 simp only[seval,FMB,h16,h17]
 refine .regionD [] (by kernel_rfl) λe h=>?_
 simp only[seval,EMB,SB,ag_68,sz_68,h16]
 refine Spec.by (iK h15) (by simp only[seval,FMB,h16]) ?_
 simp only[seval,EMB,SB,h16]
 cases h
 simp only[seval,FMB,h16]
 intro v5
 refine Mir.toK (.cond rfl (λh18=>?_) (λh18=>?_))
 refine .sR λe h=>?_
 simp only[seval,EMB]
 refine mU e (.ret λe h=>?_) h
 cases h
 simp only[seval,FMB,Tryz.results75]
 refine .skip (Mir.toB (Mir.toK (.region λe h=>?_)))
 simp only[seval,EMB]
 cases h
 simp only[seval,FMB,Tryz.results75,q2]
 intro v4 q4
 refine .sR λe h=>?_
 simp only[seval,EMB,q4]
 refine mU e (.seqK (.condF rfl (.exit λe h=>?_))) h
 cases h
 simp only[seval,FMB,Tryz.results75]
 intro v6
 refine Mir.toK (.sR λe h=>?_)
 simp only[seval,EMB]
 refine mU e (.ret λe h=>?_) h
 cases h
 simp only[seval,FMB,Tryz.results75]
def dL(a0:Int):Option Bool:=some ((decide (a0<(-10000000)))||(decide (a0>10000000)))
theorem eD{a0:Int}{y:Bool}(h:dL a0=some y):Spec gP 126 [.d (.int .i64 a0)] (.d (.bool y)):=by
 refine aB Tryz.func126 rfl (by kernel_rfl) (by kernel_rfl) (λy:Bool=>.d (.bool y)) ?_ h
 unfold dL
 simp only[zB,zD,nS,nA,Tryz.ntmps126,SV]
 refine .sR λe h=>?_
 simp only[seval,EMB]
 refine mU e (.seqK (.joinV ([U,U,.d (.bool ((decide (a0<(-10000000)))||(decide (a0>10000000))))]++us 6) ⟨[],[]⟩ rfl ?_ ?_)) h
 refine SWs.region ?_
 rcases zE (decide (a0<(-10000000)))with hb1 | hb1
 simp only[seval,EMB,SL,PB,hb1]
 simp only[seval,EMB,SL,PB,hb1]
 refine Mir.toK (.ret λe h=>?_)
 cases h
 simp only[seval,FMB,Tryz.results126]
def im(a0:ag):Option Bool:=bindO (bindO (bindX (bindO (dL a0.X) λ(y1:Bool)=>if y1=true then some (.ret 0)else bindO (dL a0.Y) λ(y2:Bool)=>if y2=true then some (.ret 1)else bindO (dL a0.Z) λ(y3:Bool)=>if y3=true then some (.ret 2)else some (.go ())) λ(v1:Unit)=>some (-1)) λ(v2:Int)=>some (decide (v2≥0))) λ(v3:Bool)=>some (!v3)
theorem inp_inside_spec{a0:ag}{y:Bool}(h:im a0=some y):Spec gP 76 [.agg (cH a0)] (.d (.bool y)):=by
 refine aB Tryz.func76 rfl (by kernel_rfl) (by kernel_rfl) (λy:Bool=>.d (.bool y)) ?_ h
 unfold im
 simp only[zB,zD,nS,nA,Tryz.ntmps76,SV]
 refine .sR λe h=>?_
 simp only[seval,EMB,eInt]
 refine mU e (.seqK (.bind λv3 hv32=>.region λe h=>?_)) h
 simp only[seval,EMB,bG,sz_2,ag_2,bM,cv,cn,kH,(oL 3),eInt]
 refine SpecS.inl Tryz.func125 rfl (by kernel_rfl) (by kernel_rfl) (λv3:Bool=>.d (.bool v3)) (λv3=>⟨[(cH a0)],[]⟩) hv32 rfl ?_ ?_
 simp only[zB,zD,nS,nA,Tryz.ntmps125,SV]
 refine .sR λe h=>?_
 simp only[seval,EMB,eInt]
 refine mU e (.seqK (.bind λv2 hv63=>.region λe h=>?_)) h
 simp only[seval,EMB,eInt]
 refine SpecS.inl Tryz.func157 rfl (by kernel_rfl) (by kernel_rfl) (λv2:Int=>.d (.int .i64 v2)) (λv2=>⟨[(cH a0)],[]⟩) hv63 rfl ?_ ?_
 simp only[zB,zD,nS,nA,Tryz.ntmps157,SV]
 refine .sR λe h=>?_
 simp only[seval,EMB,eInt]
 refine mU e (.seqK (.sR λe h=>?_)) h
 simp only[seval,EMB,cn,(nr rfl:((3:Nat):Int)=3),eInt]
 refine mU e (Mir.join (λv1:Unit=>(us 19)) (λv1=>⟨[(cH a0)],[]⟩) (λ_=>rfl) ?_ ?_) h
 refine .block (.loopR 15 (.sR λe h=>?_))
 simp only[seval,EMB,eInt]
 refine mU e (.seqK (.condT rfl (.skip (Mir.toK (.seqK (.block (.sR λe h=>?_))))))) h
 simp only[seval,EMB,eInt]
 refine mU e (.seqK (.bind λy1 hy81=>.region λe h=>?_)) h
 simp only[seval,EMB,cn,sz_2,ag_2,eInt]
 refine SpecS.by (eD hy81) (by simp only[seval,FMB,eInt]) ?_
 simp only[seval,EMB,eInt]
 refine mU e (.cond rfl (λhb83=>?_) (λhb83=>?_)) h
 refine .sR λe h=>?_
 simp only[seval,EMB,eInt]
 refine mU e (.ret λe h=>?_) h
 cases h
 simp only[seval,FMB,eInt,Tryz.results157]
 refine .skip (Mir.toB (Mir.toK (.region λe h=>?_)))
 simp only[seval,EMB,(nr rfl:zX.wrap 1=1),eInt]
 refine Mir.useN (e:=e) ?_ h
 refine .sR λe h=>?_
 simp only[seval,EMB,eInt]
 refine mU e (.seqK (.condT rfl (.skip (Mir.toK (.seqK (.block (.sR λe h=>?_))))))) h
 simp only[seval,EMB,eInt]
 refine mU e (.seqK (.bind λy2 hy86=>.region λe h=>?_)) h
 simp only[seval,EMB,cn,sz_2,ag_2,eInt]
 refine SpecS.by (eD hy86) (by simp only[seval,FMB,eInt]) ?_
 simp only[seval,EMB,eInt]
 refine mU e (.cond rfl (λhb88=>?_) (λhb88=>?_)) h
 refine .sR λe h=>?_
 simp only[seval,EMB,eInt]
 refine mU e (.ret λe h=>?_) h
 cases h
 simp only[seval,FMB,eInt,Tryz.results157]
 refine .skip (Mir.toB (Mir.toK (.region λe h=>?_)))
 simp only[seval,EMB,(nr rfl:zX.wrap 2=2),eInt]
 refine Mir.useN (e:=e) ?_ h
 refine .sR λe h=>?_
 simp only[seval,EMB,eInt]
 refine mU e (.seqK (.condT rfl (.skip (Mir.toK (.seqK (.block (.sR λe h=>?_))))))) h
 simp only[seval,EMB,eInt]
 refine mU e (.seqK (.bind λy3 hy91=>.region λe h=>?_)) h
 simp only[seval,EMB,cn,sz_2,ag_2,eInt]
 refine SpecS.by (eD hy91) (by simp only[seval,FMB,eInt]) ?_
 simp only[seval,EMB,eInt]
 refine mU e (.cond rfl (λhb93=>?_) (λhb93=>?_)) h
 refine .sR λe h=>?_
 simp only[seval,EMB,eInt]
 refine mU e (.ret λe h=>?_) h
 cases h
 simp only[seval,FMB,eInt,Tryz.results157]
 refine .skip (Mir.toB (Mir.toK (.region λe h=>?_)))
 simp only[seval,EMB,(nr rfl:zX.wrap 3=3),eInt]
 refine Mir.useN (e:=e) ?_ h
 refine .sR λe h=>?_
 simp only[seval,EMB,eInt]
 refine mU e (.seqK (.condF rfl (.exit λe h=>?_))) h
 cases h
 simp only[seval,FMB,eInt,Tryz.results157]
 intro v1
 refine Mir.toK (.sR λe h=>?_)
 simp only[seval,EMB,eInt]
 refine mU e (.ret λe h=>?_) h
 cases h
 simp only[seval,FMB,eInt,Tryz.results157]
 simp only[seval,EMB,eInt]
 refine mU e (.ret λe h=>?_) h
 cases h
 simp only[seval,FMB,eInt,Tryz.results125]
 simp only[seval,EMB,eInt]
 refine mU e (.ret λe h=>?_) h
 cases h
 simp only[seval,FMB,eInt,Tryz.results76]
def bC(a0:aw)(a1:ag):Option Int:=bindO (ey (aw.mk a0.Work a0.Lengths)) λ(y1:Int)=>if (y1 != 0)=true then some 1 else bindO (im a1) λ(y2:Bool)=>if (!y2)=true then some 11 else some 0
theorem fJ{a0:aw}{a1:ag}{y:Int}(h:bC a0 a1=some y):Spec gP 37 [.agg (w6 a0.Work [.d (.list (zA av a0.Lengths))]),.agg (cH a1)] (.d (.int .i64 y)):=by
 refine aB Tryz.func37 rfl (by kernel_rfl) (by kernel_rfl) (λy:Int=>.d (.int .i64 y)) ?_ h
 unfold bC
 simp only[zB,zD,nS,nA,Tryz.ntmps37,SV]
 refine .sR λe h=>?_
 simp only[seval,EMB]
 refine mU e (.seqK (.block (.seqK (.bind λy1 hy5=>.region λe h=>?_)))) h
 simp only[seval,EMB,ag_38,sz_38]
 refine SpecS.by (tb_Valid_spec hy5) (by simp only[seval,FMB]) ?_
 simp only[seval,EMB]
 refine mU e (.cond rfl (λhb9=>?_) (λhb9=>?_)) h
 refine .sR λe h=>?_
 simp only[seval,EMB]
 refine mU e (.ret λe h=>?_) h
 cases h
 simp only[seval,FMB,Tryz.results37]
 refine .seqK (.bind λy2 hy10=>.region λe h=>?_)
 simp only[seval,EMB,ag_24,sz_24]
 refine SpecS.by (inp_inside_spec hy10) (by simp only[seval,FMB]) ?_
 simp only[seval,EMB]
 refine mU e (.cond rfl (λhb12=>?_) (λhb12=>?_)) h
 refine .sR λe h=>?_
 simp only[seval,EMB]
 refine mU e (.ret λe h=>?_) h
 cases h
 simp only[seval,FMB,Tryz.results37]
 refine .skip (Mir.toB (Mir.toK (.sR λe h=>?_)))
 simp only[seval,EMB]
 refine mU e (.ret λe h=>?_) h
 cases h
 simp only[seval,FMB,Tryz.results37]
def du(a0:(List UInt8))(a1:(List UInt8)):Option Bool:=bindO (if (decide ((a0.length:Int)≥(a1.length:Int)))=true then bindO (cutF a0 (zX.wrap ((a0.length:Int)-(a1.length:Int)))) λ(s1:(List UInt8))=>some (s1==a1)else some false) λ(v1:Bool)=>some v1
theorem gN{a0:(List UInt8)}{a1:(List UInt8)}{y:Bool}(h:du a0 a1=some y):Spec gP 130 [.d (.str a0),.d (.str a1)] (.d (.bool y)):=by
 refine aB Tryz.func130 rfl (by kernel_rfl) (by kernel_rfl) (λy:Bool=>.d (.bool y)) ?_ h
 unfold du
 simp only[zB,zD,nS,nA,Tryz.ntmps130,SV]
 refine .sR λe h=>?_
 simp only[seval,EMB]
 refine mU e (.seqK (Mir.joinO (λv1:Bool=>([U,U,U,U,.d (.bool v1)]++us 16)) (λv1=>⟨[],[]⟩) (λ_=>rfl) ?_ ?_)) h
 refine .ite (λhb1=>?_) (λhb1=>?_)
 refine .bind λs1 q2=>?_
 replace q2:=jY q2
 refine .region λe h=>?_
 simp only[seval,EMB,und_9,q2,zM,and_true,true_and,dm,tm,hb1]
 cases h
 simp only[seval,FMB,hb1]
 refine .region λe h=>?_
 simp only[seval,EMB,und_9,hb1]
 cases h
 simp only[seval,FMB,hb1]
 intro v1
 refine Mir.toK (.ret λe h=>?_)
 cases h
 simp only[seval,FMB,Tryz.results130]
def eU(a0:(List UInt8))(a1:(List UInt8)):Option Bool:=bindO (du a0 a1) λ(y1:Bool)=>some y1
theorem jy{a0:(List UInt8)}{a1:(List UInt8)}{y:Bool}(h:eU a0 a1=some y):Spec gP 78 [.d (.str a0),.d (.str a1)] (.d (.bool y)):=by
 refine aB Tryz.func78 rfl (by kernel_rfl) (by kernel_rfl) (λy:Bool=>.d (.bool y)) ?_ h
 unfold eU
 simp only[zB,zD,nS,nA,Tryz.ntmps78,SV]
 refine .sR λe h=>?_
 simp only[seval,EMB]
 refine mU e (.seqK (.bind λy1 hy1=>.region λe h=>?_)) h
 simp only[seval,EMB]
 refine SpecS.by (gN hy1) (by simp only[seval,FMB]) ?_
 simp only[seval,EMB]
 refine mU e (.ret λe h=>?_) h
 cases h
 simp only[seval,FMB,Tryz.results78]
def eS(a0:(List UInt8))(a1:(List UInt8)):Option Int:=if (((a1.length:Int)==0)||(a1==a0))=true then some 0 else if ((a1.length:Int)==1)=true then bindO (gt a1 0) λ(c1:UInt8)=>bindO (stringslite_IndexByte a0 (c1.toNat:Int)) λ(y1:Int)=>some y1 else if (decide ((a1.length:Int)≥(a0.length:Int)))=true then some (-1)else none
theorem jv{a0:(List UInt8)}{a1:(List UInt8)}{y:Int}(h:eS a0 a1=some y):Spec gP 158 [.d (.str a0),.d (.str a1)] (.d (.int .i64 y)):=by
 refine aB Tryz.func158 rfl (by kernel_rfl) (by kernel_rfl) (λy:Int=>.d (.int .i64 y)) ?_ h
 unfold eS
 simp only[zB,zD,nS,nA,Tryz.ntmps158,SV]
 refine .sR λe h=>?_
 simp only[seval,EMB]
 refine mU e (.sR λe h=>?_) h
 simp only[seval,EMB,und_9]
 refine mU e (.seqK (.block (.seqK (.joinV ([.d (.str a0),.d (.str a1),U,U,U,.d (.int .i64 (a1.length:Int)),U,U,U,U,U,U,U,U,U,U,.d (.bool (((a1.length:Int)==0)||(a1==a0)))]++us 126) ⟨[],[]⟩ rfl ?_ ?_)))) h
 refine SWs.region ?_
 rcases zE ((a1.length:Int)==0)with hb7 | hb7
 simp only[seval,EMB,SL,PB,hb7]
 simp only[seval,EMB,SL,PB,hb7]
 refine Mir.toK (.cond rfl (λhb13=>?_) (λhb13=>?_))
 refine .sR λe h=>?_
 simp only[seval,EMB]
 refine mU e (.ret λe h=>?_) h
 cases h
 simp only[seval,FMB,Tryz.results158]
 refine .sR λe h=>?_
 simp only[seval,EMB]
 refine mU e (.cond rfl (λhb18=>?_) (λhb18=>?_)) h
 refine .seqK (.bind λc1 q19=>?_)
 replace q19:=gt_ok q19
 simp only[zO,zU,zV,dp0]at q19
 refine .bind λy1 hy20=>.region λe h=>?_
 simp only[seval,EMB,und_9,q19]
 refine SpecS.by (gM hy20) (by simp only[seval,FMB]) ?_
 simp only[seval,EMB]
 refine mU e (.ret λe h=>?_) h
 cases h
 simp only[seval,FMB,Tryz.results158]
 refine .sR λe h=>?_
 simp only[seval,EMB,und_9]
 refine mU e (.cond rfl (λhb22=>?_) (λhb22=>?_)) h
 refine .sR λe h=>?_
 simp only[seval,EMB]
 refine mU e (.ret λe h=>?_) h
 cases h
 simp only[seval,FMB,Tryz.results158]
 exact Mir.no
def gx(a0:(List UInt8))(a1:(List UInt8)):Option ((List UInt8)×(List UInt8)×Bool):=bindO (eS a0 a1) λ(y1:Int)=>if (decide (y1≥0))=true then bindO (cutT a0 y1) λ(s1:(List UInt8))=>bindO (cutF a0 (zX.wrap (y1+(a1.length:Int)))) λ(s2:(List UInt8))=>some (s1,s2,true)else some (a0,[],false)
theorem kG{a0:(List UInt8)}{a1:(List UInt8)}{y:(List UInt8)×(List UInt8)×Bool}(h:gx a0 a1=some y):Spec gP 131 [.d (.str a0),.d (.str a1)] (.tuple [.d (.str y.1),.d (.str y.2.1),.d (.bool y.2.2)]):=by
 refine aB Tryz.func131 rfl (by kernel_rfl) (by kernel_rfl) (λy:(List UInt8)×(List UInt8)×Bool=>.tuple [.d (.str y.1),.d (.str y.2.1),.d (.bool y.2.2)]) ?_ h
 unfold gx
 simp only[zB,zD,nS,nA,Tryz.ntmps131,SV]
 refine .sR λe h=>?_
 simp only[seval,EMB]
 refine mU e (.seqK (.seqK (.bind λy1 hy1=>.region λe h=>?_))) h
 simp only[seval,EMB]
 refine SpecS.by (jv hy1) (by simp only[seval,FMB]) ?_
 simp only[seval,EMB]
 refine mU e (.sR λe h=>?_) h
 simp only[seval,EMB]
 refine mU e (.cond rfl (λhb5=>?_) (λhb5=>?_)) h
 refine .seqK (.bind λs1 q6=>?_)
 replace q6:=cutT_ok q6
 refine .bind λs2 q7=>?_
 replace q7:=jY q7
 refine .regionD [] (by kernel_rfl) λe h=>?_
 simp only[seval,EMB,SB,und_9,q6,zM,and_true,true_and,dm,tm,q7]
 refine mU e (.ret λe h=>?_) h
 cases h
 simp only[seval,FMB,Tryz.results131]
 refine .skip (Mir.toK (.sR λe h=>?_))
 simp only[seval,EMB]
 refine mU e (.ret λe h=>?_) h
 cases h
 simp only[seval,FMB,Tryz.results131]
def iM(a0:(List UInt8))(a1:(List UInt8)):Option ((List UInt8)×(List UInt8)×Bool):=bindO (gx a0 a1) λ(y1:(List UInt8)×(List UInt8)×Bool)=>some (y1.1,y1.2.1,y1.2.2)
theorem jm{a0:(List UInt8)}{a1:(List UInt8)}{y:(List UInt8)×(List UInt8)×Bool}(h:iM a0 a1=some y):Spec gP 79 [.d (.str a0),.d (.str a1)] (.tuple [.d (.str y.1),.d (.str y.2.1),.d (.bool y.2.2)]):=by
 refine aB Tryz.func79 rfl (by kernel_rfl) (by kernel_rfl) (λy:(List UInt8)×(List UInt8)×Bool=>.tuple [.d (.str y.1),.d (.str y.2.1),.d (.bool y.2.2)]) ?_ h
 unfold iM
 simp only[zB,zD,nS,nA,Tryz.ntmps79,SV]
 refine .sR λe h=>?_
 simp only[seval,EMB]
 refine mU e (.seqK (.bind λy1 hy1=>.region λe h=>?_)) h
 simp only[seval,EMB]
 refine SpecS.by (kG hy1) (by simp only[seval,FMB]) ?_
 simp only[seval,EMB]
 refine mU e (.ret λe h=>?_) h
 cases h
 simp only[seval,FMB,Tryz.results79]
def dv(a0:(List UInt8))(a1:(List UInt8)):Option Bool:=bindO (if (decide ((a0.length:Int)≥(a1.length:Int)))=true then bindO (cutT a0 (a1.length:Int)) λ(s1:(List UInt8))=>some (s1==a1)else some false) λ(v1:Bool)=>some v1
theorem gO{a0:(List UInt8)}{a1:(List UInt8)}{y:Bool}(h:dv a0 a1=some y):Spec gP 216 [.d (.str a0),.d (.str a1)] (.d (.bool y)):=by
 refine aB Tryz.func216 rfl (by kernel_rfl) (by kernel_rfl) (λy:Bool=>.d (.bool y)) ?_ h
 unfold dv
 simp only[zB,zD,nS,nA,Tryz.ntmps216,SV]
 refine .sR λe h=>?_
 simp only[seval,EMB]
 refine mU e (.seqK (Mir.joinO (λv1:Bool=>([U,U,U,U,.d (.bool v1)]++us 13)) (λv1=>⟨[],[]⟩) (λ_=>rfl) ?_ ?_)) h
 refine .ite (λhb1=>?_) (λhb1=>?_)
 refine .bind λs1 q2=>?_
 replace q2:=cutT_ok q2
 refine .region λe h=>?_
 simp only[seval,EMB,und_9,q2,zM,and_true,true_and,dm,tm,hb1]
 cases h
 simp only[seval,FMB,hb1]
 refine .region λe h=>?_
 simp only[seval,EMB,und_9,hb1]
 cases h
 simp only[seval,FMB,hb1]
 intro v1
 refine Mir.toK (.ret λe h=>?_)
 cases h
 simp only[seval,FMB,Tryz.results216]
def dw(a0:(List UInt8))(a1:(List UInt8)):Option ((List UInt8)×Bool):=bindO (dv a0 a1) λ(y1:Bool)=>if (!y1)=true then some (a0,false)else bindO (cutF a0 (a1.length:Int)) λ(s1:(List UInt8))=>some (s1,true)
theorem gQ{a0:(List UInt8)}{a1:(List UInt8)}{y:(List UInt8)×Bool}(h:dw a0 a1=some y):Spec gP 207 [.d (.str a0),.d (.str a1)] (.tuple [.d (.str y.1),.d (.bool y.2)]):=by
 refine aB Tryz.func207 rfl (by kernel_rfl) (by kernel_rfl) (λy:(List UInt8)×Bool=>.tuple [.d (.str y.1),.d (.bool y.2)]) ?_ h
 unfold dw
 simp only[zB,zD,nS,nA,Tryz.ntmps207,SV]
 refine .sR λe h=>?_
 simp only[seval,EMB]
 refine mU e (.seqK (.seqK (.bind λy1 hy1=>.region λe h=>?_))) h
 simp only[seval,EMB]
 refine SpecS.by (gO hy1) (by simp only[seval,FMB]) ?_
 simp only[seval,EMB]
 refine mU e (.cond rfl (λhb3=>?_) (λhb3=>?_)) h
 refine .sR λe h=>?_
 simp only[seval,EMB]
 refine mU e (.ret λe h=>?_) h
 cases h
 simp only[seval,FMB,Tryz.results207]
 refine .skip (Mir.toK (.seqK (.bind λs1 q4=>?_)))
 replace q4:=jY q4
 refine .region λe h=>?_
 simp only[seval,EMB,und_9,q4,zM,and_true,true_and,dm,tm]
 refine mU e (.ret λe h=>?_) h
 cases h
 simp only[seval,FMB,Tryz.results207]
def eV(a0:(List UInt8))(a1:(List UInt8)):Option ((List UInt8)×Bool):=bindO (dw a0 a1) λ(y1:(List UInt8)×Bool)=>some (y1.1,y1.2)
theorem jz{a0:(List UInt8)}{a1:(List UInt8)}{y:(List UInt8)×Bool}(h:eV a0 a1=some y):Spec gP 196 [.d (.str a0),.d (.str a1)] (.tuple [.d (.str y.1),.d (.bool y.2)]):=by
 refine aB Tryz.func196 rfl (by kernel_rfl) (by kernel_rfl) (λy:(List UInt8)×Bool=>.tuple [.d (.str y.1),.d (.bool y.2)]) ?_ h
 unfold eV
 simp only[zB,zD,nS,nA,Tryz.ntmps196,SV]
 refine .sR λe h=>?_
 simp only[seval,EMB]
 refine mU e (.seqK (.bind λy1 hy1=>.region λe h=>?_)) h
 simp only[seval,EMB]
 refine SpecS.by (gQ hy1) (by simp only[seval,FMB]) ?_
 simp only[seval,EMB]
 refine mU e (.ret λe h=>?_) h
 cases h
 simp only[seval,FMB,Tryz.results196]
def j7(a0:(List UInt8)):Option Bool:=bindO (if (a0==[])=true then some false else bindO (strings_Trim a0 [48,49,50,51,52,53,54,55,56,57]) λ(y1:(List UInt8))=>some (y1==[])) λ(v1:Bool)=>some v1
theorem aQ{a0:(List UInt8)}{y:Bool}(h:j7 a0=some y):Spec gP 197 [.d (.str a0)] (.d (.bool y)):=by
 refine aB Tryz.func197 rfl (by kernel_rfl) (by kernel_rfl) (λy:Bool=>.d (.bool y)) ?_ h
 unfold j7
 simp only[zB,zD,nS,nA,Tryz.ntmps197,SV]
 refine .sR λe h=>?_
 simp only[seval,EMB]
 refine mU e (.seqK (Mir.joinO (λv1:Bool=>([U,U,.d (.bool v1)]++us 7)) (λv1=>⟨[],[]⟩) (λ_=>rfl) ?_ ?_)) h
 refine .ite (λhb1=>?_) (λhb1=>?_)
 refine .region λe h=>?_
 simp only[seval,EMB,hb1]
 cases h
 simp only[seval,FMB,hb1]
 refine .bind λy1 hy2=>.region λe h=>?_
 simp only[seval,EMB,hb1]
 refine SpecS.by (strings_Trim_spec hy2) (by simp only[seval,FMB,hb1]) ?_
 simp only[seval,EMB,hb1]
 cases h
 simp only[seval,FMB,hb1]
 intro v1
 refine Mir.toK (.ret λe h=>?_)
 cases h
 simp only[seval,FMB,Tryz.results197]
def bk_Value(a0:(List UInt8)):Option (Int×Int):=bindO (eV a0 [45]) λ(y1:(List UInt8)×Bool)=>bindO (iM y1.1 [46]) λ(y2:(List UInt8)×(List UInt8)×Bool)=>bindO (bindO (j7 y2.1) λ(y3:Bool)=>if y3=true then if (decide ((y2.1.length:Int)>1))=true then bindO (gt y2.1 0) λ(c1:UInt8)=>if ((c1.toNat:Int)==48)=true then some true else if y2.2.2=true then bindO (j7 y2.2.1) λ(y4:Bool)=>if y4=true then if (decide ((y2.2.1.length:Int)>3))=true then some true else bindO (gt y2.2.1 (zX.wrap ((y2.2.1.length:Int)-1))) λ(c2:UInt8)=>if ((c2.toNat:Int)==48)=true then some true else if y1.2=true then some (y1.1==[48])else some false else some true else if y1.2=true then some (y1.1==[48])else some false else if y2.2.2=true then bindO (j7 y2.2.1) λ(y5:Bool)=>if y5=true then if (decide ((y2.2.1.length:Int)>3))=true then some true else bindO (gt y2.2.1 (zX.wrap ((y2.2.1.length:Int)-1))) λ(c3:UInt8)=>if ((c3.toNat:Int)==48)=true then some true else if y1.2=true then some (y1.1==[48])else some false else some true else if y1.2=true then some (y1.1==[48])else some false else some true) λ(v1:Bool)=>if v1=true then some (0,2)else if (decide ((y2.1.length:Int)>10))=true then some (0,11)else aF (okStr y2.1 y2.2.1) ( bindO (cutF [48,48,48] (y2.2.1.length:Int)) λ(s1:(List UInt8))=>aF (okStr (y2.1++y2.2.1) s1) ( bindO (jn ((y2.1++y2.2.1)++s1) 10 64) λ(y6:Int)=>if (decide (y6>1000000000000))=true then some (0,11)else bindO (if y1.2=true then some (zX.wrap (0-y6))else some y6) λ(v2:Int)=>some (v2,0)))
theorem bk_Value_spec{a0:(List UInt8)}{y:Int×Int}(h:bk_Value a0=some y):Spec gP 182 [.d (.str a0)] (.tuple [.d (.int .i64 y.1),.d (.int .i64 y.2)]):=by
 refine aB Tryz.func182 rfl (by kernel_rfl) (by kernel_rfl) (λy:Int×Int=>.tuple [.d (.int .i64 y.1),.d (.int .i64 y.2)]) ?_ h
 unfold bk_Value
 simp only[zB,zD,nS,nA,Tryz.ntmps182,SV]
 refine .sR λe h=>?_
 simp only[seval,EMB]
 refine mU e (.seqK (.bind λy1 hy1=>.region λe h=>?_)) h
 simp only[seval,EMB]
 refine SpecS.by (jz hy1) (by simp only[seval,FMB]) ?_
 simp only[seval,EMB]
 refine mU e (.seqK (.bind λy2 hy2=>.region λe h=>?_)) h
 simp only[seval,EMB]
 refine SpecS.by (jm hy2) (by simp only[seval,FMB]) ?_
 simp only[seval,EMB]
 refine mU e (.seqK (.seqK (Mir.joinO (λv1:Bool=>([U,U,U,U,U,.d (.bool y1.2),.d (.str y2.1),.d (.str y2.2.1),U,U,U,U,U,U,U,U,U,U,U,U,U,U,U,U,U,U,U,U,U,U,U,U,U,U,U,U,U,U,U,U,U,U,U,U,U,U,U,U,U,U,U,U,U,U,U,U,U,U,U,U,U,U,.d (.bool v1)]++us 20)) (λv1=>⟨[],[]⟩) (λ_=>rfl) ?_ ?_))) h
 refine .bind λy3 hy3=>.ite (λhb4=>?_) (λhb4=>?_)
 refine .ite (λhb5=>?_) (λhb5=>?_)
 refine .bind λc1 q6=>?_
 replace q6:=gt_ok q6
 simp only[zO,zU,zV,dp0]at q6
 refine .ite (λhb7=>?_) (λhb7=>?_)
 refine .region λe h=>?_
 simp only[seval,EMB,hb4,hb5,hb7]
 refine SpecS.by (aQ hy3) (by simp only[seval,FMB,hb4,hb5,hb7]) ?_
 simp only[seval,EMB,und_9,q6,hb4,hb5,hb7]
 cases h
 simp only[seval,FMB,hb4,hb5,hb7]
 refine .ite (λhb8=>?_) (λhb8=>?_)
 refine .bind λy4 hy9=>.ite (λhb10=>?_) (λhb10=>?_)
 refine .ite (λhb11=>?_) (λhb11=>?_)
 refine .region λe h=>?_
 simp only[seval,EMB,hb4,hb5,hb7,hb8,hb10,hb11]
 refine SpecS.by (aQ hy3) (by simp only[seval,FMB,hb4,hb5,hb7,hb8,hb10,hb11]) ?_
 simp only[seval,EMB,und_9,q6,hb4,hb5,hb7,hb8,hb10,hb11]
 refine SpecS.by (aQ hy9) (by simp only[seval,FMB,hb4,hb5,hb7,hb8,hb10,hb11]) ?_
 simp only[seval,EMB,und_9,hb4,hb5,hb7,hb8,hb10,hb11]
 cases h
 simp only[seval,FMB,hb4,hb5,hb7,hb8,hb10,hb11]
 refine .bind λc2 q12=>?_
 replace q12:=gt_ok q12
 refine .ite (λhb13=>?_) (λhb13=>?_)
 refine .region λe h=>?_
 simp only[seval,EMB,hb4,hb5,hb7,hb8,hb10,hb11,hb13]
 refine SpecS.by (aQ hy3) (by simp only[seval,FMB,hb4,hb5,hb7,hb8,hb10,hb11,hb13]) ?_
 simp only[seval,EMB,und_9,q6,hb4,hb5,hb7,hb8,hb10,hb11,hb13]
 refine SpecS.by (aQ hy9) (by simp only[seval,FMB,hb4,hb5,hb7,hb8,hb10,hb11,hb13]) ?_
 simp only[seval,EMB,und_9,q12,hb4,hb5,hb7,hb8,hb10,hb11,hb13]
 cases h
 simp only[seval,FMB,hb4,hb5,hb7,hb8,hb10,hb11,hb13]
 refine .ite (λhb14=>?_) (λhb14=>?_)
 refine .region λe h=>?_
 simp only[seval,EMB,hb4,hb5,hb7,hb8,hb10,hb11,hb13,hb14]
 refine SpecS.by (aQ hy3) (by simp only[seval,FMB,hb4,hb5,hb7,hb8,hb10,hb11,hb13,hb14]) ?_
 simp only[seval,EMB,und_9,q6,hb4,hb5,hb7,hb8,hb10,hb11,hb13,hb14]
 refine SpecS.by (aQ hy9) (by simp only[seval,FMB,hb4,hb5,hb7,hb8,hb10,hb11,hb13,hb14]) ?_
 simp only[seval,EMB,und_9,q12,hb4,hb5,hb7,hb8,hb10,hb11,hb13,hb14]
 cases h
 simp only[seval,FMB,hb4,hb5,hb7,hb8,hb10,hb11,hb13,hb14]
 refine .region λe h=>?_
 simp only[seval,EMB,hb4,hb5,hb7,hb8,hb10,hb11,hb13,hb14]
 refine SpecS.by (aQ hy3) (by simp only[seval,FMB,hb4,hb5,hb7,hb8,hb10,hb11,hb13,hb14]) ?_
 simp only[seval,EMB,und_9,q6,hb4,hb5,hb7,hb8,hb10,hb11,hb13,hb14]
 refine SpecS.by (aQ hy9) (by simp only[seval,FMB,hb4,hb5,hb7,hb8,hb10,hb11,hb13,hb14]) ?_
 simp only[seval,EMB,und_9,q12,hb4,hb5,hb7,hb8,hb10,hb11,hb13,hb14]
 cases h
 simp only[seval,FMB,hb4,hb5,hb7,hb8,hb10,hb11,hb13,hb14]
 refine .region λe h=>?_
 simp only[seval,EMB,hb4,hb5,hb7,hb8,hb10]
 refine SpecS.by (aQ hy3) (by simp only[seval,FMB,hb4,hb5,hb7,hb8,hb10]) ?_
 simp only[seval,EMB,und_9,q6,hb4,hb5,hb7,hb8,hb10]
 refine SpecS.by (aQ hy9) (by simp only[seval,FMB,hb4,hb5,hb7,hb8,hb10]) ?_
 simp only[seval,EMB,hb4,hb5,hb7,hb8,hb10]
 cases h
 simp only[seval,FMB,hb4,hb5,hb7,hb8,hb10]
 refine .ite (λhb15=>?_) (λhb15=>?_)
 refine .region λe h=>?_
 simp only[seval,EMB,hb4,hb5,hb7,hb8,hb15]
 refine SpecS.by (aQ hy3) (by simp only[seval,FMB,hb4,hb5,hb7,hb8,hb15]) ?_
 simp only[seval,EMB,und_9,q6,hb4,hb5,hb7,hb8,hb15]
 cases h
 simp only[seval,FMB,hb4,hb5,hb7,hb8,hb15]
 refine .region λe h=>?_
 simp only[seval,EMB,hb4,hb5,hb7,hb8,hb15]
 refine SpecS.by (aQ hy3) (by simp only[seval,FMB,hb4,hb5,hb7,hb8,hb15]) ?_
 simp only[seval,EMB,und_9,q6,hb4,hb5,hb7,hb8,hb15]
 cases h
 simp only[seval,FMB,hb4,hb5,hb7,hb8,hb15]
 refine .ite (λhb16=>?_) (λhb16=>?_)
 refine .bind λy5 hy17=>.ite (λhb18=>?_) (λhb18=>?_)
 refine .ite (λhb19=>?_) (λhb19=>?_)
 refine .region λe h=>?_
 simp only[seval,EMB,hb4,hb5,hb16,hb18,hb19]
 refine SpecS.by (aQ hy3) (by simp only[seval,FMB,hb4,hb5,hb16,hb18,hb19]) ?_
 simp only[seval,EMB,und_9,hb4,hb5,hb16,hb18,hb19]
 refine SpecS.by (aQ hy17) (by simp only[seval,FMB,hb4,hb5,hb16,hb18,hb19]) ?_
 simp only[seval,EMB,und_9,hb4,hb5,hb16,hb18,hb19]
 cases h
 simp only[seval,FMB,hb4,hb5,hb16,hb18,hb19]
 refine .bind λc3 q20=>?_
 replace q20:=gt_ok q20
 refine .ite (λhb21=>?_) (λhb21=>?_)
 refine .region λe h=>?_
 simp only[seval,EMB,hb4,hb5,hb16,hb18,hb19,hb21]
 refine SpecS.by (aQ hy3) (by simp only[seval,FMB,hb4,hb5,hb16,hb18,hb19,hb21]) ?_
 simp only[seval,EMB,und_9,hb4,hb5,hb16,hb18,hb19,hb21]
 refine SpecS.by (aQ hy17) (by simp only[seval,FMB,hb4,hb5,hb16,hb18,hb19,hb21]) ?_
 simp only[seval,EMB,und_9,q20,hb4,hb5,hb16,hb18,hb19,hb21]
 cases h
 simp only[seval,FMB,hb4,hb5,hb16,hb18,hb19,hb21]
 refine .ite (λhb22=>?_) (λhb22=>?_)
 refine .region λe h=>?_
 simp only[seval,EMB,hb4,hb5,hb16,hb18,hb19,hb21,hb22]
 refine SpecS.by (aQ hy3) (by simp only[seval,FMB,hb4,hb5,hb16,hb18,hb19,hb21,hb22]) ?_
 simp only[seval,EMB,und_9,hb4,hb5,hb16,hb18,hb19,hb21,hb22]
 refine SpecS.by (aQ hy17) (by simp only[seval,FMB,hb4,hb5,hb16,hb18,hb19,hb21,hb22]) ?_
 simp only[seval,EMB,und_9,q20,hb4,hb5,hb16,hb18,hb19,hb21,hb22]
 cases h
 simp only[seval,FMB,hb4,hb5,hb16,hb18,hb19,hb21,hb22]
 refine .region λe h=>?_
 simp only[seval,EMB,hb4,hb5,hb16,hb18,hb19,hb21,hb22]
 refine SpecS.by (aQ hy3) (by simp only[seval,FMB,hb4,hb5,hb16,hb18,hb19,hb21,hb22]) ?_
 simp only[seval,EMB,und_9,hb4,hb5,hb16,hb18,hb19,hb21,hb22]
 refine SpecS.by (aQ hy17) (by simp only[seval,FMB,hb4,hb5,hb16,hb18,hb19,hb21,hb22]) ?_
 simp only[seval,EMB,und_9,q20,hb4,hb5,hb16,hb18,hb19,hb21,hb22]
 cases h
 simp only[seval,FMB,hb4,hb5,hb16,hb18,hb19,hb21,hb22]
 refine .region λe h=>?_
 simp only[seval,EMB,hb4,hb5,hb16,hb18]
 refine SpecS.by (aQ hy3) (by simp only[seval,FMB,hb4,hb5,hb16,hb18]) ?_
 simp only[seval,EMB,und_9,hb4,hb5,hb16,hb18]
 refine SpecS.by (aQ hy17) (by simp only[seval,FMB,hb4,hb5,hb16,hb18]) ?_
 simp only[seval,EMB,hb4,hb5,hb16,hb18]
 cases h
 simp only[seval,FMB,hb4,hb5,hb16,hb18]
 refine .ite (λhb23=>?_) (λhb23=>?_)
 refine .region λe h=>?_
 simp only[seval,EMB,hb4,hb5,hb16,hb23]
 refine SpecS.by (aQ hy3) (by simp only[seval,FMB,hb4,hb5,hb16,hb23]) ?_
 simp only[seval,EMB,und_9,hb4,hb5,hb16,hb23]
 cases h
 simp only[seval,FMB,hb4,hb5,hb16,hb23]
 refine .region λe h=>?_
 simp only[seval,EMB,hb4,hb5,hb16,hb23]
 refine SpecS.by (aQ hy3) (by simp only[seval,FMB,hb4,hb5,hb16,hb23]) ?_
 simp only[seval,EMB,und_9,hb4,hb5,hb16,hb23]
 cases h
 simp only[seval,FMB,hb4,hb5,hb16,hb23]
 refine .region λe h=>?_
 simp only[seval,EMB,hb4]
 refine SpecS.by (aQ hy3) (by simp only[seval,FMB,hb4]) ?_
 simp only[seval,EMB,hb4]
 cases h
 simp only[seval,FMB,hb4]
 intro v1
 refine Mir.toK (.cond rfl (λhb25=>?_) (λhb25=>?_))
 refine .sR λe h=>?_
 simp only[seval,EMB]
 refine mU e (.ret λe h=>?_) h
 cases h
 simp only[seval,FMB,Tryz.results182]
 refine .skip (Mir.toK (.seqK (.sR λe h=>?_)))
 simp only[seval,EMB,und_9]
 refine mU e (.cond rfl (λhb27=>?_) (λhb27=>?_)) h
 refine .sR λe h=>?_
 simp only[seval,EMB]
 refine mU e (.ret λe h=>?_) h
 cases h
 simp only[seval,FMB,Tryz.results182]
 refine .skip (Mir.toK (.seqK (.guard λq28=>?_)))
 replace q28:=fT q28
 refine .bind λs1 q29=>?_
 replace q29:=jY q29
 simp only[xLC,xLN,zQ,nA]at q29
 refine .guard λq30=>?_
 replace q30:=fT q30
 refine .bind λy6 hy31=>.region λe h=>?_
 simp only[seval,EMB,q28,und_9,q29,zM,and_true,true_and,dm,tm,q30]
 refine SpecS.by (jG hy31) (by simp only[seval,FMB]) ?_
 simp only[seval,EMB]
 refine mU e (.seqK (.sR λe h=>?_)) h
 simp only[seval,EMB]
 refine mU e (.cond rfl (λhb33=>?_) (λhb33=>?_)) h
 refine .sR λe h=>?_
 simp only[seval,EMB]
 refine mU e (.ret λe h=>?_) h
 cases h
 simp only[seval,FMB,Tryz.results182]
 refine .skip (Mir.toK (.seqK (.sR λe h=>?_)))
 simp only[seval,EMB]
 refine mU e (Mir.joinO (λv2:Int=>([U,U,U,U,U,U,U,U,U,.d (.int .i64 v2)]++us 73)) (λv2=>⟨[],[]⟩) (λ_=>rfl) ?_ ?_) h
 refine .cond rfl (λhb35=>?_) (λhb35=>?_)
 refine .region λe h=>?_
 simp only[seval,EMB]
 cases h
 simp only[seval,FMB,Tryz.results182]
 refine .skip λe h=>?_
 cases h
 simp only[seval,FMB,Tryz.results182]
 intro v2
 refine Mir.toK (.sR λe h=>?_)
 simp only[seval,EMB]
 refine mU e (.ret λe h=>?_) h
 cases h
 simp only[seval,FMB,Tryz.results182]
def bk_Parse(a0:(List UInt8)):Option (ac×Int×Int):=if (decide ((a0.length:Int)>65536))=true then some (ac.mk false [] [],0,3)else bindO (bindO (bindO (bindO (some ()) λ(v1:Unit)=>if (0==(a0.length:Int))=true then some true else bindO (gt a0 0) λ(c1:UInt8)=>some ((c1.toNat:Int) != 47)) λ(v2:Bool)=>if v2=true then some (false,0)else some (true,1)) λ(v3:Bool×Int)=>loopX (λ(v4:Bool×bI)=>bindO (some ()) λ(v5:Unit)=>if (v4.2.at_==(v4.2.s.length:Int))=true then if v4.1=true then some (.ret (2,v4.2))else some (.ret (0,v4.2))else bindO (gt v4.2.s v4.2.at_) λ(c2:UInt8)=>if ((c2.toNat:Int)==40)=true then bindO (bindO (loopX (λ(v6:Int)=>bindO (bindO (some ()) λ(v7:Unit)=>if (v6==(v4.2.s.length:Int))=true then some false else bindO (gt v4.2.s v6) λ(c3:UInt8)=>bindO (fA (c3.toNat:Int)) λ(y1:Bool)=>some y1) λ(v8:Bool)=>if v8=true then some (.go (zX.wrap (v6+1)))else some (.ret v6)) fuel (zX.wrap (v4.2.at_+1))) λ(v9:Int)=>bindO (cutL v4.2.s (zX.wrap (v4.2.at_+1)) v9) λ(s1:(List UInt8))=>if (decide ((s1.length:Int)>100))=true then some (3,v4.2)else bindO (if (s1==[])=true then some (true,v9)else bindO (bindO (bindO (some ()) λ(v10:Unit)=>if (v9==(v4.2.s.length:Int))=true then some true else bindO (gt v4.2.s v9) λ(c4:UInt8)=>some ((c4.toNat:Int) != 41)) λ(v11:Bool)=>if v11=true then some (false,v9)else some (true,zX.wrap (v9+1))) λ(v12:Bool×Int)=>some (!v12.1,v12.2)) λ(v13:Bool×Int)=>if v13.1=true then some (2,bI.mk v4.2.s v13.2 v4.2.b)else bindO (some ()) λ(v14:Unit)=>if (!(v13.2==(v4.2.s.length:Int)))=true then some (2,bI.mk v4.2.s v13.2 (ac.mk v4.2.b.Skip v4.2.b.Words s1))else some (0,bI.mk v4.2.s v13.2 (ac.mk v4.2.b.Skip v4.2.b.Words s1))) λ(v15:Int×bI)=>some (.ret (v15.1,v15.2))else bindO (bindO (gt v4.2.s v4.2.at_) λ(c5:UInt8)=>if ((decide ((c5.toNat:Int)<65))||(decide ((c5.toNat:Int)>90)))=true then some (2,v4.2)else if ((v4.2.b.Words.length:Int)==16)=true then some (3,v4.2)else bindO (loopX (λ(v16:Int)=>bindO (if (decide (v16<(v4.2.s.length:Int)))=true then bindO (gt v4.2.s v16) λ(c6:UInt8)=>if (decide ((c6.toNat:Int)≥48))=true then if (decide ((c6.toNat:Int)≤57))=true then some true else if ((c6.toNat:Int)==45)=true then some true else some ((c6.toNat:Int)==46)else if ((c6.toNat:Int)==45)=true then some true else some ((c6.toNat:Int)==46)else some false) λ(v17:Bool)=>if v17=true then some (.go (zX.wrap (v16+1)))else some (.ret v16)) fuel (zX.wrap (v4.2.at_+1))) λ(v18:Int)=>bindO (cutL v4.2.s (zX.wrap (v4.2.at_+1)) v18) λ(s2:(List UInt8))=>bindO (bk_Value s2) λ(y2:Int×Int)=>if (y2.2 != 0)=true then some (y2.2,v4.2)else aF (okLen (v4.2.b.Words.length+1)) ( some (0,bI.mk v4.2.s v18 (ac.mk v4.2.b.Skip (v4.2.b.Words++[ay.mk (c5.toNat:Int) y2.1]) v4.2.b.Comment)))) λ(v19:Int×bI)=>if (v19.1 != 0)=true then some (.ret (v19.1,v19.2))else bindO (some ()) λ(v20:Unit)=>if (v19.2.at_==(v19.2.s.length:Int))=true then some (.ret (0,v19.2))else bindO (bindO (bindO (some ()) λ(v21:Unit)=>if (v19.2.at_==(v19.2.s.length:Int))=true then some true else bindO (gt v19.2.s v19.2.at_) λ(c7:UInt8)=>some ((c7.toNat:Int) != 32)) λ(v22:Bool)=>if v22=true then some (false,v19.2.at_)else some (true,zX.wrap (v19.2.at_+1))) λ(v23:Bool×Int)=>if (!v23.1)=true then some (.ret (2,bI.mk v19.2.s v23.2 v19.2.b))else some (.go (true,bI.mk v19.2.s v23.2 v19.2.b))) fuel (false,bI.mk a0 v3.2 (ac.mk v3.1 [] []))) λ(v24:Int×bI)=>if (v24.1 != 0)=true then some (ac.mk false [] [],v24.2.at_,v24.1)else some (v24.2.b,0,0)
theorem bk_Parse_spec{a0:(List UInt8)}{y:ac×Int×Int}(h:bk_Parse a0=some y):Spec gP 80 [.d (.str a0)] (.tuple [.agg [.d (.bool y.1.Skip),.d (.list (zA ar y.1.Words)),.d (.str y.1.Comment)],.d (.int .i64 y.2.1),.d (.int .i64 y.2.2)]):=by
 refine aB Tryz.func80 rfl (by kernel_rfl) (by kernel_rfl) (λy:ac×Int×Int=>.tuple [.agg [.d (.bool y.1.Skip),.d (.list (zA ar y.1.Words)),.d (.str y.1.Comment)],.d (.int .i64 y.2.1),.d (.int .i64 y.2.2)]) ?_ h
 unfold bk_Parse
 simp only[zB,zD,nS,nA,Tryz.ntmps80,SV]
 refine .sR λe h=>?_
 simp only[seval,EMB,aC]
 refine mU e (.seqK (.sR λe h=>?_)) h
 simp only[seval,EMB,und_9]
 refine mU e (.cond rfl (λhb2=>?_) (λhb2=>?_)) h
 refine .sR λe h=>?_
 simp only[seval,EMB,aC,pl_58,sz_58]
 refine mU e (.ret λe h=>?_) h
 cases h
 simp only[seval,FMB,Tryz.results80,ag_58,sz_58]
 refine .skip (Mir.toK (.sR λe h=>?_))
 simp only[seval,EMB,zero_220,pl_220,sz_220]
 refine mU e (.seqK (.seqK (.bind λv24 h1=>.region λe h=>?_))) h
 simp only[seval,EMB]
 refine SpecS.inl Tryz.func132 rfl (by kernel_rfl) (by kernel_rfl) (λv24:Int×bI=>.d (.int .i64 v24.1)) (λv24=>⟨[[.d (.bool false),.nil,.d (.str [])],[.d (.str v24.2.s),.d (.int .i64 v24.2.at_),.d (.bool v24.2.b.Skip),.own 0 (zA ar v24.2.b.Words),.d (.str v24.2.b.Comment)]],[(101,v24.2.b.Words.length)]⟩) h1 rfl ?_ ?_
 simp only[zB,zD,nS,nA,Tryz.ntmps132,SV]
 refine .gh [.cell 1 3 101] rfl (.sR λe h=>?_)
 simp only[seval,EMB]
 refine mU e (.seqK (.bind λv3 h2=>.region λe h=>?_)) h
 simp only[seval,EMB]
 refine SpecS.inl Tryz.func159 rfl (by kernel_rfl) (by kernel_rfl) (λv3:Bool×Int=>.d (.bool v3.1)) (λv3=>⟨[[.d (.bool false),.nil,.d (.str [])],[.d (.str a0),.d (.int .i64 v3.2),.d (.bool false),.own 0 (zA ar []),.d (.str [])]],[(101,0)]⟩) h2 rfl ?_ ?_
 simp only[zB,zD,nS,nA,Tryz.ntmps159,SV]
 refine .sR λe h=>?_
 simp only[seval,EMB]
 refine mU e (.seqK (.seqK (Mir.joinO (λv2:Bool=>([.ptr 1 0,U,U,U,U,U,U,U,U,U,U,U,U,U,U,U,U,U,U,.d (.bool v2)]++us 7)) (λv2=>⟨[[.d (.bool false),.nil,.d (.str [])],[.d (.str a0),.d (.int .i64 0),.d (.bool false),.own 0 (zA ar []),.d (.str [])]],[(101,0)]⟩) (λ_=>rfl) ?_ ?_))) h
 refine .bind λv1 h3=>.ite (λh4=>?_) (λh4=>?_)
 refine Mir.regionA 1 [] ([.ptr 1 0,.d (.int .u8 47),U,U,.d (.bool false),.ptr 1 0,.d (.bool (0==(a0.length:Int))),.d (.bool (0==(a0.length:Int))),.skip,.skip,.skip,.skip,.skip,.skip,.skip,.skip,.skip,.skip,.skip,.d (.bool true)]++us 7) ⟨[[.d (.bool false),.nil,.d (.str [])],[.d (.str a0),.d (.int .i64 0),.d (.bool false),.own 0 (zA ar []),.d (.str [])]],[(101,0)]⟩ (by kernel_rfl) (λe h=>?_) (λe h=>?_)
 simp only[seval,EMB,ah,w_eq,SB,h4]
 refine regA.one (j:=1) (by kernel_rfl) rfl (regW.of ?_)
 simp only[seval,EMB,ah,w_eq,h4]
 refine SpecS.inl Tryz.func160 rfl (by kernel_rfl) (by kernel_rfl) (λv1:Unit=>.d (.bool (0==(a0.length:Int)))) (λv1=>⟨[[.d (.bool false),.nil,.d (.str [])],[.d (.str a0),.d (.int .i64 0),.d (.bool false),.own 0 (zA ar []),.d (.str [])]],[(101,0)]⟩) h3 rfl ?_ ?_
 simp only[zB,zD,nS,nA,Tryz.ntmps160,SV]
 refine .sR λe h=>?_
 simp only[seval,EMB]
 refine mU e (.seqK (.regionD [] (by kernel_rfl) λe h=>?_)) h
 simp only[seval,EMB,SB,bo,sz_3,ag_3,bw,sz_9,ag_9,und_9]
 refine mU e (.ret λe h=>?_) h
 cases h
 simp only[seval,FMB,Tryz.results160]
 simp only[seval,EMB,ah,w_eq,h4]
 refine regA.draw 2 [] (by kernel_rfl) ?_
 simp only[seval,EMB,ah,w_eq,SB,h4]
 exact⟨rfl,rfl⟩
 cases h
 simp only[seval,FMB,h4]
 refine .bind λc1 q1=>?_
 replace q1:=gt_ok q1
 simp only[zO,zU,zV,dp0]at q1
 refine Mir.regionA 1 [] ([.ptr 1 0,.d (.int .u8 47),U,U,.d (.bool false),.ptr 1 0,.d (.bool (0==(a0.length:Int))),.d (.bool (0==(a0.length:Int))),.ptr 1 0,.ptr 1 0,.ptr 1 0,.d (.str a0),.ptr 1 0,.ptr 1 0,.ptr 1 1,.d (.int .i64 0),.d (.int .u8 (c1.toNat:Int)),.d (.int .u8 47),.d (.bool ((c1.toNat:Int) != 47)),.d (.bool ((c1.toNat:Int) != 47))]++us 7) ⟨[[.d (.bool false),.nil,.d (.str [])],[.d (.str a0),.d (.int .i64 0),.d (.bool false),.own 0 (zA ar []),.d (.str [])]],[(101,0)]⟩ (by kernel_rfl) (λe h=>?_) (λe h=>?_)
 simp only[seval,EMB,ah,w_eq,SB,h4]
 refine regA.one (j:=1) (by kernel_rfl) rfl (regW.of ?_)
 simp only[seval,EMB,ah,w_eq,h4]
 refine SpecS.inl Tryz.func160 rfl (by kernel_rfl) (by kernel_rfl) (λv1:Unit=>.d (.bool (0==(a0.length:Int)))) (λv1=>⟨[[.d (.bool false),.nil,.d (.str [])],[.d (.str a0),.d (.int .i64 0),.d (.bool false),.own 0 (zA ar []),.d (.str [])]],[(101,0)]⟩) h3 rfl ?_ ?_
 simp only[zB,zD,nS,nA,Tryz.ntmps160,SV]
 refine .sR λe h=>?_
 simp only[seval,EMB]
 refine mU e (.seqK (.regionD [] (by kernel_rfl) λe h=>?_)) h
 simp only[seval,EMB,SB,bo,sz_3,ag_3,bw,sz_9,ag_9,und_9]
 refine mU e (.ret λe h=>?_) h
 cases h
 simp only[seval,FMB,Tryz.results160]
 simp only[seval,EMB,ah,w_eq,h4]
 refine regA.draw 2 [] (by kernel_rfl) ?_
 simp only[seval,EMB,ah,w_eq,SB,bw,sz_9,ag_9,bo,sz_3,ag_3,und_9,q1,h4]
 exact⟨rfl,rfl⟩
 cases h
 simp only[seval,FMB,h4]
 intro v2
 refine Mir.toK (.cond rfl (λh5=>?_) (λh5=>?_))
 refine .sR λe h=>?_
 simp only[seval,EMB]
 refine mU e (.ret λe h=>?_) h
 cases h
 simp only[seval,FMB,Tryz.results159]
 refine .skip (Mir.toK (.sR λe h=>?_))
 simp only[seval,EMB,bo,sz_3,ag_3,(nr rfl:zX.wrap 1=1)]
 refine mU e (.sR λe h=>?_) h
 simp only[seval,EMB]
 refine mU e (.ret λe h=>?_) h
 cases h
 simp only[seval,FMB,Tryz.results159]
 simp only[seval,EMB,jU,sz_58,jd,sz_4]
 refine mU e (.sR λe h=>?_) h
 simp only[seval,EMB]
 refine mU e (.block (Mir.loop (λv4:Bool×bI=>([.ptr 1 0,U,U,.d (.bool v4.1)]++us 34)) (λv4=>⟨[[.d (.bool false),.nil,.d (.str [])],[.d (.str v4.2.s),.d (.int .i64 v4.2.at_),.d (.bool v4.2.b.Skip),.own 0 (zA ar v4.2.b.Words),.d (.str v4.2.b.Comment)]],[(101,v4.2.b.Words.length)]⟩) (λ_=>rfl) (by simp only[seval,FMB]) (by simp only[seval,FMB]) λv4=>.seqK (.block (.seqK (.block (.seqK (.bind λv5 h6=>.region λe h=>?_))))))) h
 simp only[seval,EMB]
 refine SpecS.inl Tryz.func160 rfl (by kernel_rfl) (by kernel_rfl) (λv5:Unit=>.d (.bool (v4.2.at_==(v4.2.s.length:Int)))) (λv5=>⟨[[.d (.bool false),.nil,.d (.str [])],[.d (.str v4.2.s),.d (.int .i64 v4.2.at_),.d (.bool v4.2.b.Skip),.own 0 (zA ar v4.2.b.Words),.d (.str v4.2.b.Comment)]],[(101,v4.2.b.Words.length)]⟩) h6 rfl ?_ ?_
 simp only[zB,zD,nS,nA,Tryz.ntmps160,SV]
 refine .sR λe h=>?_
 simp only[seval,EMB]
 refine mU e (.seqK (.regionD [] (by kernel_rfl) λe h=>?_)) h
 simp only[seval,EMB,SB,bo,sz_3,ag_3,bw,sz_9,ag_9,und_9]
 refine mU e (.ret λe h=>?_) h
 cases h
 simp only[seval,FMB,Tryz.results160]
 simp only[seval,EMB]
 refine mU e (.cond rfl (λh7=>?_) (λh7=>?_)) h
 refine .seqK (.sR λe h=>?_)
 simp only[seval,EMB]
 refine mU e (.cond rfl (λh8=>?_) (λh8=>?_)) h
 refine .sR λe h=>?_
 simp only[seval,EMB]
 refine mU e (.ret λe h=>?_) h
 cases h
 simp only[seval,FMB,Tryz.results132]
 refine .skip (Mir.toK (.sR λe h=>?_))
 simp only[seval,EMB]
 refine mU e (.ret λe h=>?_) h
 cases h
 simp only[seval,FMB,Tryz.results132]
 refine .seqK (.bind λc2 q2=>?_)
 replace q2:=gt_ok q2
 refine .regionD [] (by kernel_rfl) λe h=>?_
 simp only[seval,EMB,SB,bw,sz_9,ag_9,bo,sz_3,ag_3,und_9,q2]
 refine mU e (.cond rfl (λh9=>?_) (λh9=>?_)) h
 refine .seqK (.bind λv15 h10=>.region λe h=>?_)
 simp only[seval,EMB]
 refine SpecS.inl Tryz.func161 rfl (by kernel_rfl) (by kernel_rfl) (λv15:Int×bI=>.d (.int .i64 v15.1)) (λv15=>⟨[[.d (.bool false),.nil,.d (.str [])],[.d (.str v15.2.s),.d (.int .i64 v15.2.at_),.d (.bool v15.2.b.Skip),.own 0 (zA ar v15.2.b.Words),.d (.str v15.2.b.Comment)]],[(101,v15.2.b.Words.length)]⟩) h10 rfl ?_ ?_
 simp only[zB,zD,nS,nA,Tryz.ntmps161,SV]
 refine .sR λe h=>?_
 simp only[seval,EMB]
 refine mU e (.sR λe h=>?_) h
 simp only[seval,EMB,bo,sz_3,ag_3]
 refine mU e (.sR λe h=>?_) h
 simp only[seval,EMB,bo,sz_3,ag_3]
 refine mU e (.seqK (Mir.joinO (λv9:Int=>([.ptr 1 0,U,U,.d (.int .i64 v4.2.at_)]++us 67)) (λv9=>⟨[[.d (.bool false),.nil,.d (.str [])],[.d (.str v4.2.s),.d (.int .i64 v9),.d (.bool v4.2.b.Skip),.own 0 (zA ar v4.2.b.Words),.d (.str v4.2.b.Comment)]],[(101,v4.2.b.Words.length)]⟩) (λ_=>rfl) ?_ ?_)) h
 refine .block (Mir.loop (λv6:Int=>([.ptr 1 0,U,U,.d (.int .i64 v4.2.at_)]++us 67)) (λv6=>⟨[[.d (.bool false),.nil,.d (.str [])],[.d (.str v4.2.s),.d (.int .i64 v6),.d (.bool v4.2.b.Skip),.own 0 (zA ar v4.2.b.Words),.d (.str v4.2.b.Comment)]],[(101,v4.2.b.Words.length)]⟩) (λ_=>rfl) (by simp only[seval,FMB]) (by simp only[seval,FMB]) λv6=>.seqK (.seqK (Mir.joinO (λv8:Bool=>([.ptr 1 0,U,U,.d (.int .i64 v4.2.at_),U,U,U,U,U,U,U,U,U,U,U,U,U,U,U,U,U,U,U,U,U,U,U,U,U,U,.d (.bool v8)]++us 40)) (λv8=>⟨[[.d (.bool false),.nil,.d (.str [])],[.d (.str v4.2.s),.d (.int .i64 v6),.d (.bool v4.2.b.Skip),.own 0 (zA ar v4.2.b.Words),.d (.str v4.2.b.Comment)]],[(101,v4.2.b.Words.length)]⟩) (λ_=>rfl) ?_ ?_)))
 refine .bind λv7 h11=>.ite (λh12=>?_) (λh12=>?_)
 refine Mir.regionA 1 [] ([.ptr 1 0,U,U,.d (.int .i64 v4.2.at_),U,U,U,U,U,U,U,U,U,U,U,U,.ptr 1 0,.d (.bool (v6==(v4.2.s.length:Int))),.d (.bool (!(v6==(v4.2.s.length:Int)))),.d (.bool (!(v6==(v4.2.s.length:Int)))),.skip,.skip,.skip,.skip,.skip,.skip,.skip,.skip,.skip,.skip,.d (.bool false)]++us 40) ⟨[[.d (.bool false),.nil,.d (.str [])],[.d (.str v4.2.s),.d (.int .i64 v6),.d (.bool v4.2.b.Skip),.own 0 (zA ar v4.2.b.Words),.d (.str v4.2.b.Comment)]],[(101,v4.2.b.Words.length)]⟩ (by kernel_rfl) (λe h=>?_) (λe h=>?_)
 simp only[seval,EMB,ah,w_eq,SB,h12]
 refine regA.one (j:=1) (by kernel_rfl) rfl (regW.of ?_)
 simp only[seval,EMB,ah,w_eq,h12]
 refine SpecS.inl Tryz.func160 rfl (by kernel_rfl) (by kernel_rfl) (λv7:Unit=>.d (.bool (v6==(v4.2.s.length:Int)))) (λv7=>⟨[[.d (.bool false),.nil,.d (.str [])],[.d (.str v4.2.s),.d (.int .i64 v6),.d (.bool v4.2.b.Skip),.own 0 (zA ar v4.2.b.Words),.d (.str v4.2.b.Comment)]],[(101,v4.2.b.Words.length)]⟩) h11 rfl ?_ ?_
 simp only[zB,zD,nS,nA,Tryz.ntmps160,SV]
 refine .sR λe h=>?_
 simp only[seval,EMB]
 refine mU e (.seqK (.regionD [] (by kernel_rfl) λe h=>?_)) h
 simp only[seval,EMB,SB,bo,sz_3,ag_3,bw,sz_9,ag_9,und_9]
 refine mU e (.ret λe h=>?_) h
 cases h
 simp only[seval,FMB,Tryz.results160]
 simp only[seval,EMB,ah,w_eq,h12]
 refine regA.draw 2 [] (by kernel_rfl) ?_
 simp only[seval,EMB,ah,w_eq,SB,h12]
 exact⟨rfl,rfl⟩
 cases h
 simp only[seval,FMB,h12]
 refine .bind λc3 q3=>?_
 replace q3:=gt_ok q3
 refine .bind λy1 h13=>Mir.regionA 1 [] ([.ptr 1 0,U,U,.d (.int .i64 v4.2.at_),U,U,U,U,U,U,U,U,U,U,U,U,.ptr 1 0,.d (.bool (v6==(v4.2.s.length:Int))),.d (.bool (!(v6==(v4.2.s.length:Int)))),.d (.bool (!(v6==(v4.2.s.length:Int)))),.ptr 1 0,.ptr 1 0,.ptr 1 0,.d (.str v4.2.s),.ptr 1 0,.ptr 1 0,.ptr 1 1,.d (.int .i64 v6),.d (.int .u8 (c3.toNat:Int)),.d (.bool y1),.d (.bool y1)]++us 40) ⟨[[.d (.bool false),.nil,.d (.str [])],[.d (.str v4.2.s),.d (.int .i64 v6),.d (.bool v4.2.b.Skip),.own 0 (zA ar v4.2.b.Words),.d (.str v4.2.b.Comment)]],[(101,v4.2.b.Words.length)]⟩ (by kernel_rfl) (λe h=>?_) (λe h=>?_)
 simp only[seval,EMB,ah,w_eq,SB,h12]
 refine regA.one (j:=1) (by kernel_rfl) rfl (regW.of ?_)
 simp only[seval,EMB,ah,w_eq,h12]
 refine SpecS.inl Tryz.func160 rfl (by kernel_rfl) (by kernel_rfl) (λv7:Unit=>.d (.bool (v6==(v4.2.s.length:Int)))) (λv7=>⟨[[.d (.bool false),.nil,.d (.str [])],[.d (.str v4.2.s),.d (.int .i64 v6),.d (.bool v4.2.b.Skip),.own 0 (zA ar v4.2.b.Words),.d (.str v4.2.b.Comment)]],[(101,v4.2.b.Words.length)]⟩) h11 rfl ?_ ?_
 simp only[zB,zD,nS,nA,Tryz.ntmps160,SV]
 refine .sR λe h=>?_
 simp only[seval,EMB]
 refine mU e (.seqK (.regionD [] (by kernel_rfl) λe h=>?_)) h
 simp only[seval,EMB,SB,bo,sz_3,ag_3,bw,sz_9,ag_9,und_9]
 refine mU e (.ret λe h=>?_) h
 cases h
 simp only[seval,FMB,Tryz.results160]
 simp only[seval,EMB,ah,w_eq,h12]
 refine regA.draw 2 [] (by kernel_rfl) ?_
 simp only[seval,EMB,ah,w_eq,SB,bw,sz_9,ag_9,bo,sz_3,ag_3,und_9,q3,h12]
 refine Spec.by (iz h13) (by simp only[seval,FMB,h12]) ?_
 simp only[seval,EMB,ah,w_eq,SB,h12]
 exact⟨rfl,rfl⟩
 cases h
 simp only[seval,FMB,h12]
 intro v8
 refine Mir.toK (.cond rfl (λh14=>?_) (λh14=>?_))
 refine .skip (Mir.toK (.block (.region λe h=>?_)))
 simp only[seval,EMB,bo,sz_3,ag_3]
 cases h
 simp only[seval,FMB,Tryz.results161]
 refine .exit λe h=>?_
 cases h
 simp only[seval,FMB,Tryz.results161]
 intro v9
 refine Mir.toK (.seqK (.bind λs1 q4=>?_))
 replace q4:=cutL_ok q4
 refine .regionD [] (by kernel_rfl) λe h=>?_
 simp only[seval,EMB,SB,bw,sz_9,ag_9,bo,sz_3,ag_3,und_9,q4,zM,and_true,true_and,dm,tm]
 refine mU e (.seqK (.sR λe h=>?_)) h
 simp only[seval,EMB,und_9]
 refine mU e (.cond rfl (λh15=>?_) (λh15=>?_)) h
 refine .sR λe h=>?_
 simp only[seval,EMB,bo,sz_3]
 refine mU e (.sR λe h=>?_) h
 simp only[seval,EMB]
 refine mU e (.ret λe h=>?_) h
 cases h
 simp only[seval,FMB,Tryz.results161]
 refine .skip (Mir.toK (.seqK (.seqK (Mir.joinO (λv13:Bool×Int=>([.ptr 1 0,U,U,U,.d (.str s1),U,U,U,U,U,U,U,U,U,U,U,U,U,U,U,U,U,U,U,U,U,U,U,U,U,U,U,U,U,U,U,U,U,U,U,U,U,U,U,U,U,U,U,U,U,U,U,U,U,U,U,U,U,U,U,U,U,.d (.bool v13.1)]++us 8)) (λv13=>⟨[[.d (.bool false),.nil,.d (.str [])],[.d (.str v4.2.s),.d (.int .i64 v13.2),.d (.bool v4.2.b.Skip),.own 0 (zA ar v4.2.b.Words),.d (.str v4.2.b.Comment)]],[(101,v4.2.b.Words.length)]⟩) (λ_=>rfl) ?_ ?_))))
 refine .ite (λh16=>?_) (λh16=>?_)
 refine .region λe h=>?_
 simp only[seval,EMB,h16]
 cases h
 simp only[seval,FMB,h16]
 refine .bind λv12 h17=>.region λe h=>?_
 simp only[seval,EMB,h16]
 refine SpecS.inl Tryz.func159 rfl (by kernel_rfl) (by kernel_rfl) (λv12:Bool×Int=>.d (.bool v12.1)) (λv12=>⟨[[.d (.bool false),.nil,.d (.str [])],[.d (.str v4.2.s),.d (.int .i64 v12.2),.d (.bool v4.2.b.Skip),.own 0 (zA ar v4.2.b.Words),.d (.str v4.2.b.Comment)]],[(101,v4.2.b.Words.length)]⟩) h17 rfl ?_ ?_
 simp only[zB,zD,nS,nA,Tryz.ntmps159,SV]
 refine .sR λe h=>?_
 simp only[seval,EMB]
 refine mU e (.seqK (.seqK (Mir.joinO (λv11:Bool=>([.ptr 1 0,U,U,U,U,U,U,U,U,U,U,U,U,U,U,U,U,U,U,.d (.bool v11)]++us 7)) (λv11=>⟨[[.d (.bool false),.nil,.d (.str [])],[.d (.str v4.2.s),.d (.int .i64 v9),.d (.bool v4.2.b.Skip),.own 0 (zA ar v4.2.b.Words),.d (.str v4.2.b.Comment)]],[(101,v4.2.b.Words.length)]⟩) (λ_=>rfl) ?_ ?_))) h
 refine .bind λv10 h18=>.ite (λh19=>?_) (λh19=>?_)
 refine Mir.regionA 1 [] ([.ptr 1 0,.d (.int .u8 41),U,U,.d (.bool false),.ptr 1 0,.d (.bool (v9==(v4.2.s.length:Int))),.d (.bool (v9==(v4.2.s.length:Int))),.skip,.skip,.skip,.skip,.skip,.skip,.skip,.skip,.skip,.skip,.skip,.d (.bool true)]++us 7) ⟨[[.d (.bool false),.nil,.d (.str [])],[.d (.str v4.2.s),.d (.int .i64 v9),.d (.bool v4.2.b.Skip),.own 0 (zA ar v4.2.b.Words),.d (.str v4.2.b.Comment)]],[(101,v4.2.b.Words.length)]⟩ (by kernel_rfl) (λe h=>?_) (λe h=>?_)
 simp only[seval,EMB,ah,w_eq,SB,h19]
 refine regA.one (j:=1) (by kernel_rfl) rfl (regW.of ?_)
 simp only[seval,EMB,ah,w_eq,h19]
 refine SpecS.inl Tryz.func160 rfl (by kernel_rfl) (by kernel_rfl) (λv10:Unit=>.d (.bool (v9==(v4.2.s.length:Int)))) (λv10=>⟨[[.d (.bool false),.nil,.d (.str [])],[.d (.str v4.2.s),.d (.int .i64 v9),.d (.bool v4.2.b.Skip),.own 0 (zA ar v4.2.b.Words),.d (.str v4.2.b.Comment)]],[(101,v4.2.b.Words.length)]⟩) h18 rfl ?_ ?_
 simp only[zB,zD,nS,nA,Tryz.ntmps160,SV]
 refine .sR λe h=>?_
 simp only[seval,EMB]
 refine mU e (.seqK (.regionD [] (by kernel_rfl) λe h=>?_)) h
 simp only[seval,EMB,SB,bo,sz_3,ag_3,bw,sz_9,ag_9,und_9]
 refine mU e (.ret λe h=>?_) h
 cases h
 simp only[seval,FMB,Tryz.results160]
 simp only[seval,EMB,ah,w_eq,h19]
 refine regA.draw 2 [] (by kernel_rfl) ?_
 simp only[seval,EMB,ah,w_eq,SB,h19]
 exact⟨rfl,rfl⟩
 cases h
 simp only[seval,FMB,h19]
 refine .bind λc4 q5=>?_
 replace q5:=gt_ok q5
 refine Mir.regionA 1 [] ([.ptr 1 0,.d (.int .u8 41),U,U,.d (.bool false),.ptr 1 0,.d (.bool (v9==(v4.2.s.length:Int))),.d (.bool (v9==(v4.2.s.length:Int))),.ptr 1 0,.ptr 1 0,.ptr 1 0,.d (.str v4.2.s),.ptr 1 0,.ptr 1 0,.ptr 1 1,.d (.int .i64 v9),.d (.int .u8 (c4.toNat:Int)),.d (.int .u8 41),.d (.bool ((c4.toNat:Int) != 41)),.d (.bool ((c4.toNat:Int) != 41))]++us 7) ⟨[[.d (.bool false),.nil,.d (.str [])],[.d (.str v4.2.s),.d (.int .i64 v9),.d (.bool v4.2.b.Skip),.own 0 (zA ar v4.2.b.Words),.d (.str v4.2.b.Comment)]],[(101,v4.2.b.Words.length)]⟩ (by kernel_rfl) (λe h=>?_) (λe h=>?_)
 simp only[seval,EMB,ah,w_eq,SB,h19]
 refine regA.one (j:=1) (by kernel_rfl) rfl (regW.of ?_)
 simp only[seval,EMB,ah,w_eq,h19]
 refine SpecS.inl Tryz.func160 rfl (by kernel_rfl) (by kernel_rfl) (λv10:Unit=>.d (.bool (v9==(v4.2.s.length:Int)))) (λv10=>⟨[[.d (.bool false),.nil,.d (.str [])],[.d (.str v4.2.s),.d (.int .i64 v9),.d (.bool v4.2.b.Skip),.own 0 (zA ar v4.2.b.Words),.d (.str v4.2.b.Comment)]],[(101,v4.2.b.Words.length)]⟩) h18 rfl ?_ ?_
 simp only[zB,zD,nS,nA,Tryz.ntmps160,SV]
 refine .sR λe h=>?_
 simp only[seval,EMB]
 refine mU e (.seqK (.regionD [] (by kernel_rfl) λe h=>?_)) h
 simp only[seval,EMB,SB,bo,sz_3,ag_3,bw,sz_9,ag_9,und_9]
 refine mU e (.ret λe h=>?_) h
 cases h
 simp only[seval,FMB,Tryz.results160]
 simp only[seval,EMB,ah,w_eq,h19]
 refine regA.draw 2 [] (by kernel_rfl) ?_
 simp only[seval,EMB,ah,w_eq,SB,bw,sz_9,ag_9,bo,sz_3,ag_3,und_9,q5,h19]
 exact⟨rfl,rfl⟩
 cases h
 simp only[seval,FMB,h19]
 intro v11
 refine Mir.toK (.cond rfl (λh20=>?_) (λh20=>?_))
 refine .sR λe h=>?_
 simp only[seval,EMB]
 refine mU e (.ret λe h=>?_) h
 cases h
 simp only[seval,FMB,Tryz.results159]
 refine .skip (Mir.toK (.sR λe h=>?_))
 simp only[seval,EMB,bo,sz_3,ag_3]
 refine mU e (.sR λe h=>?_) h
 simp only[seval,EMB]
 refine mU e (.ret λe h=>?_) h
 cases h
 simp only[seval,FMB,Tryz.results159]
 simp only[seval,EMB,h16]
 cases h
 simp only[seval,FMB,h16]
 intro v13
 refine Mir.toK (.cond rfl (λh21=>?_) (λh21=>?_))
 refine .sR λe h=>?_
 simp only[seval,EMB]
 refine mU e (.ret λe h=>?_) h
 cases h
 simp only[seval,FMB,Tryz.results161]
 refine .skip (Mir.toK (.sR λe h=>?_))
 simp only[seval,EMB,jU,sz_58,gZ,sz_9]
 refine mU e (.seqK (.seqK (.bind λv14 h22=>.region λe h=>?_))) h
 simp only[seval,EMB]
 refine SpecS.inl Tryz.func160 rfl (by kernel_rfl) (by kernel_rfl) (λv14:Unit=>.d (.bool (v13.2==(v4.2.s.length:Int)))) (λv14=>⟨[[.d (.bool false),.nil,.d (.str [])],[.d (.str v4.2.s),.d (.int .i64 v13.2),.d (.bool v4.2.b.Skip),.own 0 (zA ar v4.2.b.Words),.d (.str s1)]],[(101,v4.2.b.Words.length)]⟩) h22 rfl ?_ ?_
 simp only[zB,zD,nS,nA,Tryz.ntmps160,SV]
 refine .sR λe h=>?_
 simp only[seval,EMB]
 refine mU e (.seqK (.regionD [] (by kernel_rfl) λe h=>?_)) h
 simp only[seval,EMB,SB,bo,sz_3,ag_3,bw,sz_9,ag_9,und_9]
 refine mU e (.ret λe h=>?_) h
 cases h
 simp only[seval,FMB,Tryz.results160]
 simp only[seval,EMB]
 refine mU e (.cond rfl (λh23=>?_) (λh23=>?_)) h
 refine .sR λe h=>?_
 simp only[seval,EMB]
 refine mU e (.ret λe h=>?_) h
 cases h
 simp only[seval,FMB,Tryz.results161]
 refine .skip (Mir.toK (.sR λe h=>?_))
 simp only[seval,EMB]
 refine mU e (.ret λe h=>?_) h
 cases h
 simp only[seval,FMB,Tryz.results161]
 simp only[seval,EMB]
 refine mU e (.ret λe h=>?_) h
 cases h
 simp only[seval,FMB,Tryz.results132]
 refine .skip (Mir.toB (Mir.toK (.seqK (.seqK (.bind λv19 h24=>.region λe h=>?_)))))
 simp only[seval,EMB]
 refine SpecS.inl Tryz.func162 rfl (by kernel_rfl) (by kernel_rfl) (λv19:Int×bI=>.d (.int .i64 v19.1)) (λv19=>⟨[[.d (.bool false),.nil,.d (.str [])],[.d (.str v19.2.s),.d (.int .i64 v19.2.at_),.d (.bool v19.2.b.Skip),.own 0 (zA ar v19.2.b.Words),.d (.str v19.2.b.Comment)]],[(101,v19.2.b.Words.length)]⟩) h24 rfl ?_ ?_
 simp only[zB,zD,nS,nA,Tryz.ntmps162,SV]
 refine .sR λe h=>?_
 simp only[seval,EMB]
 refine mU e (.seqK (.bind λc5 q6=>?_)) h
 replace q6:=gt_ok q6
 refine .regionD [] (by kernel_rfl) λe h=>?_
 simp only[seval,EMB,SB,bw,sz_9,ag_9,bo,sz_3,ag_3,und_9,q6]
 refine mU e (.seqK (.seqK (.joinV ([.ptr 1 0,U,U,.d (.int .u8 (c5.toNat:Int)),U,U,U,U,U,U,U,U,U,U,U,U,U,U,U,U,U,.d (.bool ((decide ((c5.toNat:Int)<65))||(decide ((c5.toNat:Int)>90))))]++us 93) ⟨[[.d (.bool false),.nil,.d (.str [])],[.d (.str v4.2.s),.d (.int .i64 v4.2.at_),.d (.bool v4.2.b.Skip),.own 0 (zA ar v4.2.b.Words),.d (.str v4.2.b.Comment)]],[(101,v4.2.b.Words.length)]⟩ rfl ?_ ?_))) h
 refine SWs.region ?_
 rcases zE (decide ((c5.toNat:Int)<65))with h25 | h25
 simp only[seval,EMB,SL,PB,h25]
 simp only[seval,EMB,SL,PB,h25]
 refine Mir.toK (.cond rfl (λh26=>?_) (λh26=>?_))
 refine .sR λe h=>?_
 simp only[seval,EMB]
 refine mU e (.ret λe h=>?_) h
 cases h
 simp only[seval,FMB,Tryz.results162]
 refine .skip (Mir.toK (.seqK (.sR λe h=>?_)))
 simp only[seval,EMB,jU,sz_58,bL,sz_56,ag_56,br]
 refine mU e (.cond rfl (λh27=>?_) (λh27=>?_)) h
 refine .sR λe h=>?_
 simp only[seval,EMB]
 refine mU e (.ret λe h=>?_) h
 cases h
 simp only[seval,FMB,Tryz.results162]
 refine .skip (Mir.toK (.sR λe h=>?_))
 simp only[seval,EMB,bo,sz_3,ag_3]
 refine mU e (.seqK (Mir.joinO (λv18:Int=>([.ptr 1 0,U,U,.d (.int .u8 (c5.toNat:Int)),.d (.int .i64 v18)]++us 110)) (λv18=>⟨[[.d (.bool false),.nil,.d (.str [])],[.d (.str v4.2.s),.d (.int .i64 v4.2.at_),.d (.bool v4.2.b.Skip),.own 0 (zA ar v4.2.b.Words),.d (.str v4.2.b.Comment)]],[(101,v4.2.b.Words.length)]⟩) (λ_=>rfl) ?_ ?_)) h
 refine .block (Mir.loop (λv16:Int=>([.ptr 1 0,U,U,.d (.int .u8 (c5.toNat:Int)),.d (.int .i64 v16)]++us 110)) (λv16=>⟨[[.d (.bool false),.nil,.d (.str [])],[.d (.str v4.2.s),.d (.int .i64 v4.2.at_),.d (.bool v4.2.b.Skip),.own 0 (zA ar v4.2.b.Words),.d (.str v4.2.b.Comment)]],[(101,v4.2.b.Words.length)]⟩) (λ_=>rfl) (by simp only[seval,FMB]) (by simp only[seval,FMB]) λv16=>.seqK (.seqK (Mir.joinO (λv17:Bool=>([.ptr 1 0,U,U,.d (.int .u8 (c5.toNat:Int)),.d (.int .i64 v16),U,U,U,U,U,U,U,U,U,U,U,U,U,U,U,U,U,U,U,U,U,U,U,U,U,U,U,U,U,U,U,U,U,U,U,U,U,U,U,U,U,U,U,U,U,U,U,U,U,U,U,U,U,U,U,U,U,U,U,U,U,U,U,U,U,U,U,U,U,U,U,.d (.bool v17)]++us 38)) (λv17=>⟨[[.d (.bool false),.nil,.d (.str [])],[.d (.str v4.2.s),.d (.int .i64 v4.2.at_),.d (.bool v4.2.b.Skip),.own 0 (zA ar v4.2.b.Words),.d (.str v4.2.b.Comment)]],[(101,v4.2.b.Words.length)]⟩) (λ_=>rfl) ?_ ?_)))
 refine .ite (λh28=>?_) (λh28=>?_)
 refine .bind λc6 q7=>?_
 replace q7:=gt_ok q7
 refine .ite (λh29=>?_) (λh29=>?_)
 refine .ite (λh30=>?_) (λh30=>?_)
 refine .region λe h=>?_
 simp only[seval,EMB,bw,sz_9,ag_9,und_9,q7,h28,h29,h30]
 cases h
 simp only[seval,FMB,h28,h29,h30]
 refine .ite (λh31=>?_) (λh31=>?_)
 refine .region λe h=>?_
 simp only[seval,EMB,bw,sz_9,ag_9,und_9,q7,h28,h29,h30,h31]
 cases h
 simp only[seval,FMB,h28,h29,h30,h31]
 refine .region λe h=>?_
 simp only[seval,EMB,bw,sz_9,ag_9,und_9,q7,h28,h29,h30,h31]
 cases h
 simp only[seval,FMB,h28,h29,h30,h31]
 refine .ite (λh32=>?_) (λh32=>?_)
 refine .region λe h=>?_
 simp only[seval,EMB,bw,sz_9,ag_9,und_9,q7,h28,h29,h32]
 cases h
 simp only[seval,FMB,h28,h29,h32]
 refine .region λe h=>?_
 simp only[seval,EMB,bw,sz_9,ag_9,und_9,q7,h28,h29,h32]
 cases h
 simp only[seval,FMB,h28,h29,h32]
 refine .region λe h=>?_
 simp only[seval,EMB,bw,sz_9,ag_9,und_9,h28]
 cases h
 simp only[seval,FMB,h28]
 intro v17
 refine Mir.toK (.cond rfl (λh33=>?_) (λh33=>?_))
 refine .skip (Mir.toK (.block (.region λe h=>?_)))
 simp only[seval,EMB]
 cases h
 simp only[seval,FMB,Tryz.results162]
 refine .exit λe h=>?_
 cases h
 simp only[seval,FMB,Tryz.results162]
 intro v18
 refine Mir.toK (.seqK (.bind λs2 q8=>?_))
 replace q8:=cutL_ok q8
 refine .bind λy2 h34=>.regionD [] (by kernel_rfl) λe h=>?_
 simp only[seval,EMB,SB,bw,sz_9,ag_9,bo,sz_3,ag_3,und_9,q8,zM,and_true,true_and,dm,tm]
 refine Spec.by (bk_Value_spec h34) (by simp only[seval,FMB]) ?_
 simp only[seval,EMB,SB]
 refine mU e (.seqK (.sR λe h=>?_)) h
 simp only[seval,EMB]
 refine mU e (.cond rfl (λh35=>?_) (λh35=>?_)) h
 refine .sR λe h=>?_
 simp only[seval,EMB]
 refine mU e (.ret λe h=>?_) h
 cases h
 simp only[seval,FMB,Tryz.results162]
 refine .skip (Mir.toK (.seqK (.guard λq9=>.region λe h=>?_)))
 simp only[seval,EMB,jU,sz_58,bL,sz_56,ag_56,bk,jO,br,bP,(oL 2),app_56,dQ,q9]
 refine mU e (.sR λe h=>?_) h
 simp only[seval,EMB,bo,sz_3]
 refine mU e (.sR λe h=>?_) h
 simp only[seval,EMB]
 refine mU e (.ret λe h=>?_) h
 cases h
 simp only[seval,FMB,Tryz.results162]
 simp only[seval,EMB]
 refine mU e (.sR λe h=>?_) h
 simp only[seval,EMB]
 refine mU e (.cond rfl (λh36=>?_) (λh36=>?_)) h
 refine .sR λe h=>?_
 simp only[seval,EMB]
 refine mU e (.ret λe h=>?_) h
 cases h
 simp only[seval,FMB,Tryz.results132]
 refine .skip (Mir.toK (.seqK (.seqK (.bind λv20 h37=>.region λe h=>?_))))
 simp only[seval,EMB]
 refine SpecS.inl Tryz.func160 rfl (by kernel_rfl) (by kernel_rfl) (λv20:Unit=>.d (.bool (v19.2.at_==(v19.2.s.length:Int)))) (λv20=>⟨[[.d (.bool false),.nil,.d (.str [])],[.d (.str v19.2.s),.d (.int .i64 v19.2.at_),.d (.bool v19.2.b.Skip),.own 0 (zA ar v19.2.b.Words),.d (.str v19.2.b.Comment)]],[(101,v19.2.b.Words.length)]⟩) h37 rfl ?_ ?_
 simp only[zB,zD,nS,nA,Tryz.ntmps160,SV]
 refine .sR λe h=>?_
 simp only[seval,EMB]
 refine mU e (.seqK (.regionD [] (by kernel_rfl) λe h=>?_)) h
 simp only[seval,EMB,SB,bo,sz_3,ag_3,bw,sz_9,ag_9,und_9]
 refine mU e (.ret λe h=>?_) h
 cases h
 simp only[seval,FMB,Tryz.results160]
 simp only[seval,EMB]
 refine mU e (.cond rfl (λh38=>?_) (λh38=>?_)) h
 refine .sR λe h=>?_
 simp only[seval,EMB]
 refine mU e (.ret λe h=>?_) h
 cases h
 simp only[seval,FMB,Tryz.results132]
 refine .skip (Mir.toK (.seqK (.bind λv23 h39=>.region λe h=>?_)))
 simp only[seval,EMB]
 refine SpecS.inl Tryz.func159 rfl (by kernel_rfl) (by kernel_rfl) (λv23:Bool×Int=>.d (.bool v23.1)) (λv23=>⟨[[.d (.bool false),.nil,.d (.str [])],[.d (.str v19.2.s),.d (.int .i64 v23.2),.d (.bool v19.2.b.Skip),.own 0 (zA ar v19.2.b.Words),.d (.str v19.2.b.Comment)]],[(101,v19.2.b.Words.length)]⟩) h39 rfl ?_ ?_
 simp only[zB,zD,nS,nA,Tryz.ntmps159,SV]
 refine .sR λe h=>?_
 simp only[seval,EMB]
 refine mU e (.seqK (.seqK (Mir.joinO (λv22:Bool=>([.ptr 1 0,U,U,U,U,U,U,U,U,U,U,U,U,U,U,U,U,U,U,.d (.bool v22)]++us 7)) (λv22=>⟨[[.d (.bool false),.nil,.d (.str [])],[.d (.str v19.2.s),.d (.int .i64 v19.2.at_),.d (.bool v19.2.b.Skip),.own 0 (zA ar v19.2.b.Words),.d (.str v19.2.b.Comment)]],[(101,v19.2.b.Words.length)]⟩) (λ_=>rfl) ?_ ?_))) h
 refine .bind λv21 h40=>.ite (λh41=>?_) (λh41=>?_)
 refine Mir.regionA 1 [] ([.ptr 1 0,.d (.int .u8 32),U,U,.d (.bool false),.ptr 1 0,.d (.bool (v19.2.at_==(v19.2.s.length:Int))),.d (.bool (v19.2.at_==(v19.2.s.length:Int))),.skip,.skip,.skip,.skip,.skip,.skip,.skip,.skip,.skip,.skip,.skip,.d (.bool true)]++us 7) ⟨[[.d (.bool false),.nil,.d (.str [])],[.d (.str v19.2.s),.d (.int .i64 v19.2.at_),.d (.bool v19.2.b.Skip),.own 0 (zA ar v19.2.b.Words),.d (.str v19.2.b.Comment)]],[(101,v19.2.b.Words.length)]⟩ (by kernel_rfl) (λe h=>?_) (λe h=>?_)
 simp only[seval,EMB,ah,w_eq,SB,h41]
 refine regA.one (j:=1) (by kernel_rfl) rfl (regW.of ?_)
 simp only[seval,EMB,ah,w_eq,h41]
 refine SpecS.inl Tryz.func160 rfl (by kernel_rfl) (by kernel_rfl) (λv21:Unit=>.d (.bool (v19.2.at_==(v19.2.s.length:Int)))) (λv21=>⟨[[.d (.bool false),.nil,.d (.str [])],[.d (.str v19.2.s),.d (.int .i64 v19.2.at_),.d (.bool v19.2.b.Skip),.own 0 (zA ar v19.2.b.Words),.d (.str v19.2.b.Comment)]],[(101,v19.2.b.Words.length)]⟩) h40 rfl ?_ ?_
 simp only[zB,zD,nS,nA,Tryz.ntmps160,SV]
 refine .sR λe h=>?_
 simp only[seval,EMB]
 refine mU e (.seqK (.regionD [] (by kernel_rfl) λe h=>?_)) h
 simp only[seval,EMB,SB,bo,sz_3,ag_3,bw,sz_9,ag_9,und_9]
 refine mU e (.ret λe h=>?_) h
 cases h
 simp only[seval,FMB,Tryz.results160]
 simp only[seval,EMB,ah,w_eq,h41]
 refine regA.draw 2 [] (by kernel_rfl) ?_
 simp only[seval,EMB,ah,w_eq,SB,h41]
 exact⟨rfl,rfl⟩
 cases h
 simp only[seval,FMB,h41]
 refine .bind λc7 q10=>?_
 replace q10:=gt_ok q10
 refine Mir.regionA 1 [] ([.ptr 1 0,.d (.int .u8 32),U,U,.d (.bool false),.ptr 1 0,.d (.bool (v19.2.at_==(v19.2.s.length:Int))),.d (.bool (v19.2.at_==(v19.2.s.length:Int))),.ptr 1 0,.ptr 1 0,.ptr 1 0,.d (.str v19.2.s),.ptr 1 0,.ptr 1 0,.ptr 1 1,.d (.int .i64 v19.2.at_),.d (.int .u8 (c7.toNat:Int)),.d (.int .u8 32),.d (.bool ((c7.toNat:Int) != 32)),.d (.bool ((c7.toNat:Int) != 32))]++us 7) ⟨[[.d (.bool false),.nil,.d (.str [])],[.d (.str v19.2.s),.d (.int .i64 v19.2.at_),.d (.bool v19.2.b.Skip),.own 0 (zA ar v19.2.b.Words),.d (.str v19.2.b.Comment)]],[(101,v19.2.b.Words.length)]⟩ (by kernel_rfl) (λe h=>?_) (λe h=>?_)
 simp only[seval,EMB,ah,w_eq,SB,h41]
 refine regA.one (j:=1) (by kernel_rfl) rfl (regW.of ?_)
 simp only[seval,EMB,ah,w_eq,h41]
 refine SpecS.inl Tryz.func160 rfl (by kernel_rfl) (by kernel_rfl) (λv21:Unit=>.d (.bool (v19.2.at_==(v19.2.s.length:Int)))) (λv21=>⟨[[.d (.bool false),.nil,.d (.str [])],[.d (.str v19.2.s),.d (.int .i64 v19.2.at_),.d (.bool v19.2.b.Skip),.own 0 (zA ar v19.2.b.Words),.d (.str v19.2.b.Comment)]],[(101,v19.2.b.Words.length)]⟩) h40 rfl ?_ ?_
 simp only[zB,zD,nS,nA,Tryz.ntmps160,SV]
 refine .sR λe h=>?_
 simp only[seval,EMB]
 refine mU e (.seqK (.regionD [] (by kernel_rfl) λe h=>?_)) h
 simp only[seval,EMB,SB,bo,sz_3,ag_3,bw,sz_9,ag_9,und_9]
 refine mU e (.ret λe h=>?_) h
 cases h
 simp only[seval,FMB,Tryz.results160]
 simp only[seval,EMB,ah,w_eq,h41]
 refine regA.draw 2 [] (by kernel_rfl) ?_
 simp only[seval,EMB,ah,w_eq,SB,bw,sz_9,ag_9,bo,sz_3,ag_3,und_9,q10,h41]
 exact⟨rfl,rfl⟩
 cases h
 simp only[seval,FMB,h41]
 intro v22
 refine Mir.toK (.cond rfl (λh42=>?_) (λh42=>?_))
 refine .sR λe h=>?_
 simp only[seval,EMB]
 refine mU e (.ret λe h=>?_) h
 cases h
 simp only[seval,FMB,Tryz.results159]
 refine .skip (Mir.toK (.sR λe h=>?_))
 simp only[seval,EMB,bo,sz_3,ag_3]
 refine mU e (.sR λe h=>?_) h
 simp only[seval,EMB]
 refine mU e (.ret λe h=>?_) h
 cases h
 simp only[seval,FMB,Tryz.results159]
 simp only[seval,EMB]
 refine mU e (.cond rfl (λh43=>?_) (λh43=>?_)) h
 refine .sR λe h=>?_
 simp only[seval,EMB]
 refine mU e (.ret λe h=>?_) h
 cases h
 simp only[seval,FMB,Tryz.results132]
 refine .skip (Mir.toB (Mir.toK (.region λe h=>?_)))
 simp only[seval,EMB]
 cases h
 simp only[seval,FMB,Tryz.results132]
 simp only[seval,EMB]
 refine mU e (.sR λe h=>?_) h
 simp only[seval,EMB]
 refine mU e (.cond rfl (λh44=>?_) (λh44=>?_)) h
 refine .seqK (.regionD [(17,2)] (by kernel_rfl) λe h=>?_)
 simp only[seval,EMB,SB,aC,pl_58,bo,sz_3,ag_3,sz_58]
 refine mU e (.ret λe h=>?_) h
 cases h
 simp only[seval,FMB,Tryz.results80,ag_58,sz_58]
 refine .skip (Mir.toK (.sR λe h=>?_))
 simp only[seval,EMB,jU,sz_58,ag_58]
 refine mU e (.ret λe h=>?_) h
 cases h
 simp only[seval,FMB,Tryz.results80,ag_58,sz_58]
def bk_Program(a0:(List UInt8)):Option ((List ac)×Int×Int):=bindO (if (decide ((a0.length:Int)>65536))=true then some true else bindO (fR a0 [10]) λ(y1:Int)=>if (decide (y1>20000))=true then some true else bindO (fR a0 [10]) λ(y2:Int)=>if (y2==20000)=true then bindO (eU a0 [10]) λ(y3:Bool)=>some (!y3)else some false) λ(v1:Bool)=>if v1=true then some ([],0,3)else bindX (loopX (λ(v2:(List UInt8)×(List ac)×Int)=>if (!(v2.1==[]))=true then bindO (iM v2.1 [10]) λ(y4:(List UInt8)×(List UInt8)×Bool)=>bindO (bk_Parse y4.1) λ(y5:ac×Int×Int)=>bindO (if (!y4.2.2)=true then some 2 else some y5.2.2) λ(v3:Int)=>if (v3 != 0)=true then some (.ret (.ret ([],v2.2.2,v3)))else aF (okLen (v2.2.1.length+1)) ( some (.go (y4.2.1,v2.2.1++[y5.1],zX.wrap (v2.2.2+1))))else some (.ret (.go v2.2.1))) fuel (a0,[],1)) λ(v4:(List ac))=>some (v4,0,0)
theorem bk_Program_spec{a0:(List UInt8)}{y:(List ac)×Int×Int}(h:bk_Program a0=some y):Spec gP 38 [.d (.str a0)] (.tuple [.d (.list (zA aa y.1)),.d (.int .i64 y.2.1),.d (.int .i64 y.2.2)]):=by
 refine aB Tryz.func38 rfl (by kernel_rfl) (by kernel_rfl) (λy:(List ac)×Int×Int=>.tuple [.d (.list (zA aa y.1)),.d (.int .i64 y.2.1),.d (.int .i64 y.2.2)]) ?_ h
 unfold bk_Program
 simp only[zB,zD,nS,nA,Tryz.ntmps38,SV]
 refine .sR λe h=>?_
 simp only[seval,EMB]
 refine mU e (.seqK (.seqK (Mir.joinO (λv1:Bool=>([.d (.str a0),U,U,U,U,U,U,U,U,U,U,U,U,U,U,U,U,U,U,U,U,U,U,U,U,U,U,U,U,U,.d (.bool v1)]++us 28)) (λv1=>⟨[],[]⟩) (λ_=>rfl) ?_ ?_))) h
 refine .ite (λhb1=>?_) (λhb1=>?_)
 refine .region λe h=>?_
 simp only[seval,EMB,und_9,hb1]
 cases h
 simp only[seval,FMB,hb1]
 refine .bind λy1 hy2=>.ite (λhb3=>?_) (λhb3=>?_)
 refine .region λe h=>?_
 simp only[seval,EMB,und_9,hb1,hb3]
 refine SpecS.by (cF hy2) (by simp only[seval,FMB,hb1,hb3]) ?_
 simp only[seval,EMB,hb1,hb3]
 cases h
 simp only[seval,FMB,hb1,hb3]
 refine .bind λy2 hy4=>.ite (λhb5=>?_) (λhb5=>?_)
 refine .bind λy3 hy6=>.region λe h=>?_
 simp only[seval,EMB,und_9,hb1,hb3,hb5]
 refine SpecS.by (cF hy2) (by simp only[seval,FMB,hb1,hb3,hb5]) ?_
 simp only[seval,EMB,hb1,hb3,hb5]
 refine SpecS.by (cF hy4) (by simp only[seval,FMB,hb1,hb3,hb5]) ?_
 simp only[seval,EMB,hb1,hb3,hb5]
 refine SpecS.by (jy hy6) (by simp only[seval,FMB,hb1,hb3,hb5]) ?_
 simp only[seval,EMB,hb1,hb3,hb5]
 cases h
 simp only[seval,FMB,hb1,hb3,hb5]
 refine .region λe h=>?_
 simp only[seval,EMB,und_9,hb1,hb3,hb5]
 refine SpecS.by (cF hy2) (by simp only[seval,FMB,hb1,hb3,hb5]) ?_
 simp only[seval,EMB,hb1,hb3,hb5]
 refine SpecS.by (cF hy4) (by simp only[seval,FMB,hb1,hb3,hb5]) ?_
 simp only[seval,EMB,hb1,hb3,hb5]
 cases h
 simp only[seval,FMB,hb1,hb3,hb5]
 intro v1
 refine Mir.toK (.cond rfl (λhb8=>?_) (λhb8=>?_))
 refine .sR λe h=>?_
 simp only[seval,EMB]
 refine mU e (.ret λe h=>?_) h
 cases h
 simp only[seval,FMB,Tryz.results38]
 refine .skip (Mir.toK (.sR λe h=>?_))
 simp only[seval,EMB]
 refine mU e (.seqK (.sR λe h=>?_)) h
 simp only[seval,EMB]
 refine mU e (.gh [.slot 5 58] rfl (Mir.join (λv4:(List ac)=>([U,U,U,U,U,.own 0 (zA aa v4)]++us 53)) (λv4=>⟨[],[(58,v4.length)]⟩) (λ_=>rfl) ?_ ?_)) h
 refine .block (Mir.loop (λv2:(List UInt8)×(List ac)×Int=>([.d (.str v2.1),U,U,U,U,.own 0 (zA aa v2.2.1),.d (.int .i64 v2.2.2)]++us 52)) (λv2=>⟨[],[(58,v2.2.1.length)]⟩) (λ_=>rfl) (by simp only[seval,FMB]) (by simp only[seval,FMB]) λv2=>.seqK (.sR λe h=>?_))
 simp only[seval,EMB]
 refine mU e (.cond rfl (λh1=>?_) (λh1=>?_)) h
 refine .skip (Mir.toK (.seqK (.block (.seqK (.bind λy4 h2=>.region λe h=>?_)))))
 simp only[seval,EMB]
 refine SpecS.by (jm h2) (by simp only[seval,FMB]) ?_
 simp only[seval,EMB]
 refine mU e (.seqK (.bind λy5 h3=>.region λe h=>?_)) h
 simp only[seval,EMB]
 refine SpecS.by (bk_Parse_spec h3) (by simp only[seval,FMB]) ?_
 simp only[seval,EMB,aC,sz_58]
 refine mU e (.seqK (.sR λe h=>?_)) h
 simp only[seval,EMB]
 refine mU e (Mir.joinO (λv3:Int=>([U,U,U,U,U,.own 0 (zA aa v2.2.1),.d (.int .i64 v2.2.2),U,.d (.str y4.2.1),U,.ptr 0 0,U,.d (.int .i64 v3)]++us 46)) (λv3=>⟨[(cJ y5.1)],[(58,v2.2.1.length)]⟩) (λ_=>rfl) ?_ ?_) h
 refine .cond rfl (λh4=>?_) (λh4=>?_)
 refine .region λe h=>?_
 simp only[seval,EMB]
 cases h
 simp only[seval,FMB,Tryz.results38]
 refine .skip λe h=>?_
 cases h
 simp only[seval,FMB,Tryz.results38]
 intro v3
 refine Mir.toK (.seqK (.sR λe h=>?_))
 simp only[seval,EMB]
 refine mU e (.cond rfl (λh5=>?_) (λh5=>?_)) h
 refine .sR λe h=>?_
 simp only[seval,EMB]
 refine mU e (.ret λe h=>?_) h
 cases h
 simp only[seval,FMB,Tryz.results38]
 refine .skip (Mir.toK (.guard λq1=>.region λe h=>?_))
 simp only[seval,EMB,ag_58,sz_58,aE,aC,(oL 3),bh,ba,q1]
 refine mU e (.region λe h=>?_) h
 simp only[seval,EMB]
 cases h
 simp only[seval,FMB,Tryz.results38]
 refine .exit λe h=>?_
 cases h
 simp only[seval,FMB,Tryz.results38]
 intro v4
 refine Mir.toK (.sR λe h=>?_)
 simp only[seval,EMB]
 refine mU e (.ret λe h=>?_) h
 cases h
 simp only[seval,FMB,Tryz.results38]
def lh(a0:ac):Option Bool:=bindO (kN a0 77 30000) λ(y1:Bool)=>some y1
theorem sp_Split_c1_spec{a0:ac}{y:Bool}(h:lh a0=some y):Spec gP 82 [.agg (cJ a0)] (.d (.bool y)):=by
 refine aB Tryz.func82 rfl (by kernel_rfl) (by kernel_rfl) (λy:Bool=>.d (.bool y)) ?_ h
 unfold lh
 simp only[zB,zD,nS,nA,Tryz.ntmps82,SV]
 refine .sR λe h=>?_
 simp only[seval,EMB]
 refine mU e (.seqK (.bind λy1 hy1=>.region λe h=>?_)) h
 simp only[seval,EMB,ag_58,sz_58]
 refine SpecS.by (cd hy1) (by simp only[seval,FMB]) ?_
 simp only[seval,EMB]
 refine mU e (.ret λe h=>?_) h
 cases h
 simp only[seval,FMB,Tryz.results82]
def sp_plain(a0:ac):Option Bool:=some (((a0.Words.length:Int)==1)&&(!a0.Skip&&(a0.Comment==[])))
theorem fS{a0:ac}{y:Bool}(h:sp_plain a0=some y):Spec gP 85 [.agg (cJ a0)] (.d (.bool y)):=by
 refine aB Tryz.func85 rfl (by kernel_rfl) (by kernel_rfl) (λy:Bool=>.d (.bool y)) ?_ h
 unfold sp_plain
 simp only[zB,zD,nS,nA,Tryz.ntmps85,SV]
 refine .sR λe h=>?_
 simp only[seval,EMB]
 refine mU e (.seqK (.joinV ([U,U,.d (.bool (((a0.Words.length:Int)==1)&&(!a0.Skip&&(a0.Comment==[]))))]++us 14) ⟨[(cJ a0)],[]⟩ rfl ?_ ?_)) h
 refine SWs.region ?_
 rcases zE ((a0.Words.length:Int)==1)with hb1 | hb1
 rcases zE (a0.Skip)with hb2 | hb2
 simp only[seval,EMB,SL,PB,bL,sz_56,ag_56,br,jd,sz_4,ag_4,hb1,hb2]
 simp only[seval,EMB,SL,PB,bL,sz_56,ag_56,br,jd,sz_4,ag_4,gZ,sz_9,ag_9,hb1,hb2]
 simp only[seval,EMB,SL,PB,bL,sz_56,ag_56,br,hb1]
 refine Mir.toK (.ret λe h=>?_)
 cases h
 simp only[seval,FMB,Tryz.results85]
def sp_whole(a0:Int):Option (Int×Bool):=some (zX.wrap (zT a0 1000),((zW a0 1000)==0)&&((decide ((zX.wrap (zT a0 1000))≥1))&&(decide ((zX.wrap (zT a0 1000))≤9999))))
theorem sp_whole_spec{a0:Int}{y:Int×Bool}(h:sp_whole a0=some y):Spec gP 47 [.d (.int .i64 a0)] (.tuple [.d (.int .i64 y.1),.d (.bool y.2)]):=by
 refine aB Tryz.func47 rfl (by kernel_rfl) (by kernel_rfl) (λy:Int×Bool=>.tuple [.d (.int .i64 y.1),.d (.bool y.2)]) ?_ h
 unfold sp_whole
 simp only[zB,zD,nS,nA,Tryz.ntmps47,SV]
 refine .sR λe h=>?_
 simp only[seval,EMB]
 refine mU e (.sR λe h=>?_) h
 simp only[seval,EMB]
 refine mU e (.seqK (.joinV ([U,U,.d (.int .i64 (zX.wrap (zT a0 1000))),.d (.bool (((zW a0 1000)==0)&&((decide ((zX.wrap (zT a0 1000))≥1))&&(decide ((zX.wrap (zT a0 1000))≤9999)))))]++us 15) ⟨[],[]⟩ rfl ?_ ?_)) h
 refine SWs.region ?_
 rcases zE ((zW a0 1000)==0)with hb1 | hb1
 rcases zE (decide ((zX.wrap (zT a0 1000))≥1))with hb2 | hb2
 simp only[seval,EMB,SL,PB,hb1,hb2]
 simp only[seval,EMB,SL,PB,hb1,hb2]
 simp only[seval,EMB,SL,PB,hb1]
 refine Mir.toK (.ret λe h=>?_)
 cases h
 simp only[seval,FMB,Tryz.results47]
def jJ(a0:ac):Option (Int×Bool):=bindO (bindO (sp_plain a0) λ(y1:Bool)=>if y1=true then bindO (gt a0.Words 0) λ(e1:ay)=>some (e1.Letter != 79)else some true) λ(v1:Bool)=>if v1=true then some (0,false)else bindO (gt a0.Words 0) λ(e2:ay)=>bindO (sp_whole e2.Value) λ(y2:Int×Bool)=>some (y2.1,y2.2)
theorem sp_beginning_spec{a0:ac}{y:Int×Bool}(h:jJ a0=some y):Spec gP 83 [.agg (cJ a0)] (.tuple [.d (.int .i64 y.1),.d (.bool y.2)]):=by
 refine aB Tryz.func83 rfl (by kernel_rfl) (by kernel_rfl) (λy:Int×Bool=>.tuple [.d (.int .i64 y.1),.d (.bool y.2)]) ?_ h
 unfold jJ
 simp only[zB,zD,nS,nA,Tryz.ntmps83,SV]
 refine .sR λe h=>?_
 simp only[seval,EMB]
 refine mU e (.seqK (.seqK (Mir.joinO (λv1:Bool=>([U,.ptr 0 0,U,U,U,U,U,U,U,U,U,U,U,U,.d (.bool v1)]++us 8)) (λv1=>⟨[(cJ a0)],[]⟩) (λ_=>rfl) ?_ ?_))) h
 refine .bind λy1 hy1=>.ite (λhb2=>?_) (λhb2=>?_)
 refine .bind λe1 q3=>?_
 replace q3:=gt_ok q3
 simp only[zO,zU,zV,dp0]at q3
 refine .region λe h=>?_
 simp only[seval,EMB,ag_58,sz_58,hb2]
 refine SpecS.by (fS hy1) (by simp only[seval,FMB,hb2]) ?_
 simp only[seval,EMB,bL,sz_56,ag_56,br,bP,q3,cr,sz_5,ag_5,hb2]
 cases h
 simp only[seval,FMB,hb2]
 refine .region λe h=>?_
 simp only[seval,EMB,ag_58,sz_58,hb2]
 refine SpecS.by (fS hy1) (by simp only[seval,FMB,hb2]) ?_
 simp only[seval,EMB,hb2]
 cases h
 simp only[seval,FMB,hb2]
 intro v1
 refine Mir.toK (.cond rfl (λhb5=>?_) (λhb5=>?_))
 refine .sR λe h=>?_
 simp only[seval,EMB]
 refine mU e (.ret λe h=>?_) h
 cases h
 simp only[seval,FMB,Tryz.results83]
 refine .skip (Mir.toK (.seqK (.bind λe2 q6=>?_)))
 replace q6:=gt_ok q6
 simp only[zO,zU,zV,dp0]at q6
 refine .bind λy2 hy7=>.region λe h=>?_
 simp only[seval,EMB,bL,sz_56,ag_56,br,bP,q6,bu,sz_2,ag_2]
 refine SpecS.by (sp_whole_spec hy7) (by simp only[seval,FMB]) ?_
 simp only[seval,EMB]
 refine mU e (.ret λe h=>?_) h
 cases h
 simp only[seval,FMB,Tryz.results83]
def lg(a0:ac):Option Bool:=bindO (bindO (sp_plain a0) λ(y1:Bool)=>if y1=true then bindO (kN a0 77 99000) λ(y2:Bool)=>some y2 else some false) λ(v1:Bool)=>some v1
theorem sp_Split_c2_spec{a0:ac}{y:Bool}(h:lg a0=some y):Spec gP 84 [.agg (cJ a0)] (.d (.bool y)):=by
 refine aB Tryz.func84 rfl (by kernel_rfl) (by kernel_rfl) (λy:Bool=>.d (.bool y)) ?_ h
 unfold lg
 simp only[zB,zD,nS,nA,Tryz.ntmps84,SV]
 refine .sR λe h=>?_
 simp only[seval,EMB]
 refine mU e (.seqK (Mir.joinO (λv1:Bool=>([U,U,.d (.bool v1)]++us 6)) (λv1=>⟨[(cJ a0)],[]⟩) (λ_=>rfl) ?_ ?_)) h
 refine .bind λy1 hy1=>.ite (λhb2=>?_) (λhb2=>?_)
 refine .bind λy2 hy3=>.region λe h=>?_
 simp only[seval,EMB,ag_58,sz_58,hb2]
 refine SpecS.by (fS hy1) (by simp only[seval,FMB,hb2]) ?_
 simp only[seval,EMB,ag_58,sz_58,hb2]
 refine SpecS.by (cd hy3) (by simp only[seval,FMB,hb2]) ?_
 simp only[seval,EMB,hb2]
 cases h
 simp only[seval,FMB,hb2]
 refine .region λe h=>?_
 simp only[seval,EMB,ag_58,sz_58,hb2]
 refine SpecS.by (fS hy1) (by simp only[seval,FMB,hb2]) ?_
 simp only[seval,EMB,hb2]
 cases h
 simp only[seval,FMB,hb2]
 intro v1
 refine Mir.toK (.ret λe h=>?_)
 cases h
 simp only[seval,FMB,Tryz.results84]
def iP(a0:bd):Option Bool:=bindO (bindO (bindX (aF (okIdx a0.Blocks) ( aU (λ(i1:Nat) (e1:ac) (v1:Unit)=>bindO (jI e1) λ(y1:Bool)=>if y1=true then some (.ret (.ret (i1:Int)))else some (.go ())) (λ(v1:Unit)=>some (.go ())) a0.Blocks 0 ())) λ(v2:Unit)=>some (-1)) λ(v3:Int)=>some (decide (v3≥0))) λ(v4:Bool)=>some v4
theorem sp_ordered_c1_spec{a0:bd}{y:Bool}(h:iP a0=some y):Spec gP 136 [.agg (cM a0)] (.d (.bool y)):=by
 refine aB Tryz.func136 rfl (by kernel_rfl) (by kernel_rfl) (λy:Bool=>.d (.bool y)) ?_ h
 unfold iP
 simp only[zB,zD,nS,nA,Tryz.ntmps136,SV]
 refine .sR λe h=>?_
 simp only[seval,EMB]
 refine mU e (.seqK (.bind λv4 hv72=>.region λe h=>?_)) h
 simp only[seval,EMB,fld_131_1,sz_50,ag_50]
 refine SpecS.inl Tryz.func133 rfl (by kernel_rfl) (by kernel_rfl) (λv4:Bool=>.d (.bool v4)) (λv4=>⟨[(cM a0)],[]⟩) hv72 rfl ?_ ?_
 simp only[zB,zD,nS,nA,Tryz.ntmps133,SV]
 refine .sR λe h=>?_
 simp only[seval,EMB]
 refine mU e (.seqK (.bind λv3 h1=>.region λe h=>?_)) h
 simp only[seval,EMB]
 refine SpecS.inl Tryz.func81 rfl (by kernel_rfl) (by kernel_rfl) (λv3:Int=>.d (.int .i64 v3)) (λv3=>⟨[(cM a0)],[]⟩) h1 rfl ?_ ?_
 simp only[zB,zD,nS,nA,Tryz.ntmps81,SV]
 refine .sR λe h=>?_
 simp only[seval,EMB]
 refine mU e (.seqK (.sR λe h=>?_)) h
 simp only[seval,EMB,aE]
 refine mU e (Mir.join (λv2:Unit=>(us 19)) (λv2=>⟨[(cM a0)],[]⟩) (λ_=>rfl) ?_ ?_) h
 refine .block (.guard λq1=>Mir.range (λ(i1:Nat) (v1:Unit)=>([.d (.list (zA aa a0.Blocks)),.fn 134 [],U,U,U,U,U,.d (.int .i64 (a0.Blocks.length:Int)),.d (.int .i64 (i1:Int))]++us 10)) (λi1 v1=>⟨[(cM a0)],[]⟩) q1 (λ_ _=>rfl) (by simp only[seval,FMB,zNI]) (by simp only[seval,FMB,zNI]) ?_ ?_)
 intro i1 e1 v1 q2
 refine .sR λe h=>?_
 simp only[seval,EMB,q2]
 refine mU e (.seqK (.condT rfl (.skip (Mir.toK (.seqK (.block (.sR λe h=>?_))))))) h
 simp only[seval,EMB]
 refine mU e (.seqK (.bind λy1 h2=>.region λe h=>?_)) h
 simp only[seval,EMB,aE,sz_58,q2,zG,ag_58]
 refine SpecS.by (dW h2) (by simp only[seval,FMB]) ?_
 simp only[seval,EMB]
 refine mU e (.cond rfl (λh3=>?_) (λh3=>?_)) h
 refine .sR λe h=>?_
 simp only[seval,EMB]
 refine mU e (.ret λe h=>?_) h
 cases h
 simp only[seval,FMB,Tryz.results81]
 refine .skip (Mir.toB (Mir.toK (.region λe h=>?_)))
 simp only[seval,EMB]
 cases h
 simp only[seval,FMB,Tryz.results81,q2]
 intro v1 q3
 refine .sR λe h=>?_
 simp only[seval,EMB,q3]
 refine mU e (.seqK (.condF rfl (.exit λe h=>?_))) h
 cases h
 simp only[seval,FMB,Tryz.results81]
 intro v2
 refine Mir.toK (.sR λe h=>?_)
 simp only[seval,EMB]
 refine mU e (.ret λe h=>?_) h
 cases h
 simp only[seval,FMB,Tryz.results81]
 simp only[seval,EMB]
 refine mU e (.ret λe h=>?_) h
 cases h
 simp only[seval,FMB,Tryz.results133]
 simp only[seval,EMB]
 refine mU e (.ret λe h=>?_) h
 cases h
 simp only[seval,FMB,Tryz.results136]
end Go.Proofs.YtplhejpjnfjopaaGreatDoor
