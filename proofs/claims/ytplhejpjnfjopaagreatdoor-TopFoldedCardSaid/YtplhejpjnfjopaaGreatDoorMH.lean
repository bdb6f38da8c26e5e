import Derived.Test.YtplhejpjnfjopaaGreatDoorGx
import Derived.Test.YtplhejpjnfjopaaGreatDoorTy
import Derived.Test.YtplhejpjnfjopaaGreatDoorMB
open Bool renaming eq_false_or_eq_true → zA
open Int renaming toNat_natCast → zB
open List renaming map → zD,replicate → zE,length → zG
open And renaming intro → zF
open Go.IntKind renaming i64 → zH
namespace Go.Proofs.YtplhejpjnfjopaaGreatDoor
open Go.RowKit
open Nat renaming reduceAdd → nA,reduceSub → nS,reduceMul → nM,reduceEqDiff → nE,reduceLeDiff → nL,reduceLT → nT,reduceBEq → nB
open Int renaming reduceLT → iT,reduceToNat → iN,reduceEq → iE
set_option linter.unusedVariables false
set_option linter.unusedSimpArgs false
set_option maxRecDepth 100000
set_option maxHeartbeats 8000000
structure cP where
 Number:Int
 Length:Int
 deriving DecidableEq
def bg(x:cP):List D:=[.int .i64 x.Number,.int .i64 x.Length]
abbrev cM(x:cP):List V:=[.d (.int .i64 x.Number),.d (.int .i64 x.Length)]
structure fc where
 Work:fU
 Lengths:(List cP)
 deriving DecidableEq
def kK(x:fc):List D:=[.int .i64 x.Work.e0.X,.int .i64 x.Work.e0.Y,.int .i64 x.Work.e0.Z,.int .i64 x.Work.e1.X,.int .i64 x.Work.e1.Y,.int .i64 x.Work.e1.Z,.int .i64 x.Work.e2.X,.int .i64 x.Work.e2.Y,.int .i64 x.Work.e2.Z,.int .i64 x.Work.e3.X,.int .i64 x.Work.e3.Y,.int .i64 x.Work.e3.Z,.int .i64 x.Work.e4.X,.int .i64 x.Work.e4.Y,.int .i64 x.Work.e4.Z,.int .i64 x.Work.e5.X,.int .i64 x.Work.e5.Y,.int .i64 x.Work.e5.Z,.list (zD bg x.Lengths)]
theorem ENMH:type_of% (zF @bg.eq_1<|@kK.eq_1):=zF @bg.eq_1<|@kK.eq_1
theorem EMH:type_of% (zF @SE<|zF @ENMH<|@ENMB):=zF @SE<|zF @ENMH<|@ENMB
theorem FMH:type_of% (zF @SF<|zF @ENMH<|@ENMB):=zF @SF<|zF @ENMH<|@ENMB
def r41_Few(a0:(List aa))(a1:Int):Option Bool:=if (decide ((a0.length:Int)>a1))=true then some false else bindX (aE (okIdx a0) ( aU (λ(i1:Nat) (e1:aa) (v1:Unit)=>if ((decide ((e1.Words.length:Int)>20))||(decide ((e1.Comment.length:Int)>120)))=true then some (.ret (.ret false))else some (.go ())) (λ(v1:Unit)=>some (.go ())) a0 0 ())) λ(v2:Unit)=>some true
theorem r41_Few_spec{a0:(List aa)}{a1:Int}{y:Bool}(h:r41_Few a0 a1=some y):Spec gP 42 [.d (.list (zD ac a0)),.d (.int .i64 a1)] (.d (.bool y)):=by
 refine au Tryz.func42 rfl (by kernel_rfl) (by kernel_rfl) (λy:Bool=>.d (.bool y)) ?_ h
 unfold r41_Few
 simp only[zE,zG,nS,nA,Tryz.ntmps42,SV]
 refine .sR λe h=>?_
 simp only[seval,EMH]
 refine mU e (.seqK (.sR λe h=>?_)) h
 simp only[seval,EMH,aR]
 refine mU e (.cond rfl (λhb2=>?_) (λhb2=>?_)) h
 refine .sR λe h=>?_
 simp only[seval,EMH]
 refine mU e (.ret λe h=>?_) h
 cases h
 simp only[seval,FMH,Tryz.results42]
 refine .skip (Mir.toK (.seqK (.sR λe h=>?_)))
 simp only[seval,EMH]
 refine mU e (Mir.join (λv2:Unit=>(us 32)) (λv2=>⟨[],[]⟩) (λ_=>rfl) ?_ ?_) h
 refine .block (.guard λqg67=>Mir.range (λ(i1:Nat) (v1:Unit)=>([.d (.list (zD ac a0)),U,U,U,U,.d (.int .i64 (i1:Int))]++us 26)) (λi1 v1=>⟨[],[]⟩) qg67 (λ_ _=>rfl) (by simp only[seval,FMH,zNI]) (by simp only[seval,FMH,zNI]) ?_ ?_)
 intro i1 e1 v1 qr65
 refine .seqK (.sR λe h=>?_)
 simp only[seval,EMH,aR,qr65]
 refine mU e (.condT rfl (.skip (Mir.toK (.seqK (.block (.seqK (.joinV [.d (.list (zD ac a0)),U,U,U,U,.d (.int .i64 (i1:Int)),U,U,U,U,U,U,U,U,U,U,U,U,U,U,U,U,U,U,U,U,U,U,U,U,U,.d (.bool ((decide ((e1.Words.length:Int)>20))||(decide ((e1.Comment.length:Int)>120))))] ⟨[],[]⟩ rfl ?_ ?_))))))) h
 refine SWs.region ?_
 rcases zA (decide ((e1.Words.length:Int)>20))with hb70 | hb70
 simp only[seval,EMH,SL,PB,aR,sz_58,qr65,zB,bz,sz_56,ag_56,bt,hb70]
 simp only[seval,EMH,SL,PB,aR,sz_58,qr65,zB,bz,sz_56,ag_56,bt,fK,sz_9,ag_9,und_9,hb70]
 refine Mir.toK (.cond rfl (λhb72=>?_) (λhb72=>?_))
 refine .sR λe h=>?_
 simp only[seval,EMH]
 refine mU e (.ret λe h=>?_) h
 cases h
 simp only[seval,FMH,Tryz.results42]
 refine .skip (Mir.toB (Mir.toK (.region λe h=>?_)))
 simp only[seval,EMH]
 cases h
 simp only[seval,FMH,Tryz.results42,qr65]
 intro v1 qd66
 refine .seqK (.sR λe h=>?_)
 simp only[seval,EMH,aR,qd66]
 refine mU e (.condF rfl (.exit λe h=>?_)) h
 cases h
 simp only[seval,FMH,Tryz.results42]
 intro v2
 refine Mir.toK (.sR λe h=>?_)
 simp only[seval,EMH]
 refine mU e (.ret λe h=>?_) h
 cases h
 simp only[seval,FMH,Tryz.results42]
def r47_Few(a0:(List aa))(a1:Int):Option Bool:=bindO (r41_Few a0 a1) λ(y1:Bool)=>if (!y1)=true then some false else bindX (aE (okIdx a0) ( aU (λ(i1:Nat) (e1:aa) (v1:Unit)=>bindX (loopX (λ(v2:Int)=>if (decide (v2<(e1.Words.length:Int)))=true then bindO (gt e1.Words v2) λ(e2:aw)=>if (if (e2.Letter==73)=true then (decide (e2.Value>50000))||(decide (e2.Value<(-50000)))else (e2.Letter==74)&&((decide (e2.Value>50000))||(decide (e2.Value<(-50000)))))=true then some (.ret (.ret (.ret (.ret false))))else some (.go (zH.wrap (v2+1)))else some (.ret (.go ()))) fuel 0) λ(v3:Unit)=>some (.go ())) (λ(v1:Unit)=>some (.go ())) a0 0 ())) λ(v4:Unit)=>some true
theorem jr{a0:(List aa)}{a1:Int}{y:Bool}(h:r47_Few a0 a1=some y):Spec gP 15 [.d (.list (zD ac a0)),.d (.int .i64 a1)] (.d (.bool y)):=by
 refine au Tryz.func15 rfl (by kernel_rfl) (by kernel_rfl) (λy:Bool=>.d (.bool y)) ?_ h
 unfold r47_Few
 simp only[zE,zG,nS,nA,Tryz.ntmps15,SV]
 refine .sR λe h=>?_
 simp only[seval,EMH]
 refine mU e (.seqK (.seqK (.bind λy1 hy1=>.region λe h=>?_))) h
 simp only[seval,EMH]
 refine SpecS.by (r41_Few_spec hy1) (by simp only[seval,FMH]) ?_
 simp only[seval,EMH]
 refine mU e (.cond rfl (λhb3=>?_) (λhb3=>?_)) h
 refine .sR λe h=>?_
 simp only[seval,EMH]
 refine mU e (.ret λe h=>?_) h
 cases h
 simp only[seval,FMH,Tryz.results15]
 refine .skip (Mir.toK (.seqK (.sR λe h=>?_)))
 simp only[seval,EMH]
 refine mU e (Mir.join (λv4:Unit=>(us 54)) (λv4=>⟨[],[]⟩) (λ_=>rfl) ?_ ?_) h
 refine .block (.guard λq1=>Mir.range (λ(i1:Nat) (v1:Unit)=>([.d (.list (zD ac a0)),U,U,U,U,.d (.int .i64 (i1:Int))]++us 48)) (λi1 v1=>⟨[],[]⟩) q1 (λ_ _=>rfl) (by simp only[seval,FMH,zNI]) (by simp only[seval,FMH,zNI]) ?_ ?_)
 intro i1 e1 v1 q2
 refine .seqK (.sR λe h=>?_)
 simp only[seval,EMH,aR,q2]
 refine mU e (.condT rfl (.skip (Mir.toK (.seqK (Mir.join (λv3:Unit=>([.d (.list (zD ac a0)),U,U,U,U,.d (.int .i64 (i1:Int))]++us 48)) (λv3=>⟨[],[]⟩) (λ_=>rfl) ?_ ?_))))) h
 refine .block (.sR λe h=>?_)
 simp only[seval,EMH]
 refine mU e (.block (Mir.loop (λv2:Int=>([.d (.list (zD ac a0)),U,U,U,U,.d (.int .i64 (i1:Int)),.d (.int .i64 v2)]++us 47)) (λv2=>⟨[],[]⟩) (λ_=>rfl) (by simp only[seval,FMH]) (by simp only[seval,FMH]) λv2=>.seqK (.sR λe h=>?_))) h
 simp only[seval,EMH,aR,sz_58,q2,zB,bz,sz_56,ag_56,bt]
 refine mU e (.cond rfl (λh1=>?_) (λh1=>?_)) h
 refine .skip (Mir.toK (.seqK (.block (.seqK (.bind λe2 q3=>?_)))))
 replace q3:=gt_ok q3
 refine .region λe h=>?_
 simp only[seval,EMH,aR,sz_58,q2,zB,bz,sz_56,ag_56,bt,cb,q3,ij,bv]
 refine mU e (.seqK (.joinV [.d (.list (zD ac a0)),U,U,U,U,.d (.int .i64 (i1:Int)),.d (.int .i64 v2),U,U,U,U,U,U,U,U,U,U,U,U,U,U,U,U,U,U,U,U,U,U,U,U,U,U,U,U,U,U,U,U,U,U,U,U,U,U,U,U,U,U,U,U,U,U,.d (.bool (if (e2.Letter==73)=true then (decide (e2.Value>50000))||(decide (e2.Value<(-50000)))else (e2.Letter==74)&&((decide (e2.Value>50000))||(decide (e2.Value<(-50000))))))] ⟨[(cH e2)],[]⟩ rfl ?_ ?_)) h
 refine SWs.region ?_
 rcases zA (e2.Letter==73)with h2 | h2
 rcases zA (decide (e2.Value>50000))with h3 | h3
 simp only[seval,EMH,SL,PB,bO,sz_5,ag_5,bi,sz_2,ag_2,h2,h3]
 simp only[seval,EMH,SL,PB,bO,sz_5,ag_5,bi,sz_2,ag_2,h2,h3]
 rcases zA (e2.Letter==74)with h4 | h4
 rcases zA (decide (e2.Value>50000))with h5 | h5
 simp only[seval,EMH,SL,PB,bO,sz_5,ag_5,bi,sz_2,ag_2,h2,h4,h5]
 simp only[seval,EMH,SL,PB,bO,sz_5,ag_5,bi,sz_2,ag_2,h2,h4,h5]
 simp only[seval,EMH,SL,PB,bO,sz_5,ag_5,h2,h4]
 refine Mir.toK (.cond rfl (λh6=>?_) (λh6=>?_))
 refine .sR λe h=>?_
 simp only[seval,EMH]
 refine mU e (.ret λe h=>?_) h
 cases h
 simp only[seval,FMH,Tryz.results15]
 refine .skip (Mir.toB (Mir.toK (.region λe h=>?_)))
 simp only[seval,EMH]
 cases h
 simp only[seval,FMH,Tryz.results15]
 refine .exit λe h=>?_
 cases h
 simp only[seval,FMH,Tryz.results15]
 intro v3
 refine Mir.toK (.region λe h=>?_)
 simp only[seval,EMH]
 cases h
 simp only[seval,FMH,Tryz.results15,q2]
 intro v1 q4
 refine .seqK (.sR λe h=>?_)
 simp only[seval,EMH,aR,q4]
 refine mU e (.condF rfl (.exit λe h=>?_)) h
 cases h
 simp only[seval,FMH,Tryz.results15]
 intro v4
 refine Mir.toK (.sR λe h=>?_)
 simp only[seval,EMH]
 refine mU e (.ret λe h=>?_) h
 cases h
 simp only[seval,FMH,Tryz.results15]
def r45_far(a0:Int):Option Bool:=some ((decide (a0>10000000))||(decide (a0<(-10000000))))
theorem ef{a0:Int}{y:Bool}(h:r45_far a0=some y):Spec gP 91 [.d (.int .i64 a0)] (.d (.bool y)):=by
 refine au Tryz.func91 rfl (by kernel_rfl) (by kernel_rfl) (λy:Bool=>.d (.bool y)) ?_ h
 unfold r45_far
 simp only[zE,zG,nS,nA,Tryz.ntmps91,SV]
 refine .sR λe h=>?_
 simp only[seval,EMH]
 refine mU e (.seqK (.joinV ([U,U,.d (.bool ((decide (a0>10000000))||(decide (a0<(-10000000)))))]++us 6) ⟨[],[]⟩ rfl ?_ ?_)) h
 refine SWs.region ?_
 rcases zA (decide (a0>10000000))with hb1 | hb1
 simp only[seval,EMH,SL,PB,hb1]
 simp only[seval,EMH,SL,PB,hb1]
 refine Mir.toK (.ret λe h=>?_)
 cases h
 simp only[seval,FMH,Tryz.results91]
def gI(a0:ah):Option Bool:=bindO (bindO (r45_far a0.X) λ(y1:Bool)=>if y1=true then some true else bindO (r45_far a0.Y) λ(y2:Bool)=>if y2=true then some true else bindO (r45_far a0.Z) λ(y3:Bool)=>some y3) λ(v1:Bool)=>some v1
theorem ee{a0:ah}{y:Bool}(h:gI a0=some y):Spec gP 43 [.agg (cE a0)] (.d (.bool y)):=by
 refine au Tryz.func43 rfl (by kernel_rfl) (by kernel_rfl) (λy:Bool=>.d (.bool y)) ?_ h
 unfold gI
 simp only[zE,zG,nS,nA,Tryz.ntmps43,SV]
 refine .sR λe h=>?_
 simp only[seval,EMH]
 refine mU e (.seqK (Mir.joinO (λv1:Bool=>([U,U,.d (.bool v1)]++us 13)) (λv1=>⟨[(cE a0)],[]⟩) (λ_=>rfl) ?_ ?_)) h
 refine .bind λy1 hy1=>.ite (λhb2=>?_) (λhb2=>?_)
 refine .region λe h=>?_
 simp only[seval,EMH,bA,sz_2,ag_2,hb2]
 refine SpecS.by (ef hy1) (by simp only[seval,FMH,hb2]) ?_
 simp only[seval,EMH,hb2]
 cases h
 simp only[seval,FMH,hb2]
 refine .bind λy2 hy3=>.ite (λhb4=>?_) (λhb4=>?_)
 refine .region λe h=>?_
 simp only[seval,EMH,bA,sz_2,ag_2,hb2,hb4]
 refine SpecS.by (ef hy1) (by simp only[seval,FMH,hb2,hb4]) ?_
 simp only[seval,EMH,bG,sz_2,ag_2,hb2,hb4]
 refine SpecS.by (ef hy3) (by simp only[seval,FMH,hb2,hb4]) ?_
 simp only[seval,EMH,hb2,hb4]
 cases h
 simp only[seval,FMH,hb2,hb4]
 refine .bind λy3 hy5=>.region λe h=>?_
 simp only[seval,EMH,bA,sz_2,ag_2,hb2,hb4]
 refine SpecS.by (ef hy1) (by simp only[seval,FMH,hb2,hb4]) ?_
 simp only[seval,EMH,bG,sz_2,ag_2,hb2,hb4]
 refine SpecS.by (ef hy3) (by simp only[seval,FMH,hb2,hb4]) ?_
 simp only[seval,EMH,cj,sz_2,ag_2,hb2,hb4]
 refine SpecS.by (ef hy5) (by simp only[seval,FMH,hb2,hb4]) ?_
 simp only[seval,EMH,hb2,hb4]
 cases h
 simp only[seval,FMH,hb2,hb4]
 intro v1
 refine Mir.toK (.ret λe h=>?_)
 cases h
 simp only[seval,FMH,Tryz.results43]
def jt(a0:cP):Option Bool:=some ((decide (a0.Number≥1))&&((decide (a0.Number≤999))&&((decide (a0.Length≥0))&&(decide (a0.Length≤10000000)))))
theorem gJ{a0:cP}{y:Bool}(h:jt a0=some y):Spec gP 44 [.agg [.d (.int .i64 a0.Number),.d (.int .i64 a0.Length)]] (.d (.bool y)):=by
 refine au Tryz.func44 rfl (by kernel_rfl) (by kernel_rfl) (λy:Bool=>.d (.bool y)) ?_ h
 unfold jt
 simp only[zE,zG,nS,nA,Tryz.ntmps44,SV]
 refine .sR λe h=>?_
 simp only[seval,EMH]
 refine mU e (.seqK (.joinV ([U,U,.d (.bool ((decide (a0.Number≥1))&&((decide (a0.Number≤999))&&((decide (a0.Length≥0))&&(decide (a0.Length≤10000000))))))]++us 18) ⟨[[.d (.int .i64 a0.Number),.d (.int .i64 a0.Length)]],[]⟩ rfl ?_ ?_)) h
 refine SWs.region ?_
 rcases zA (decide (a0.Number≥1))with hb1 | hb1
 rcases zA (decide (a0.Number≤999))with hb2 | hb2
 rcases zA (decide (a0.Length≥0))with hb3 | hb3
 simp only[seval,EMH,SL,PB,j5,sz_2,ag_2,fld_67_1,hb1,hb2,hb3]
 simp only[seval,EMH,SL,PB,j5,sz_2,ag_2,fld_67_1,hb1,hb2,hb3]
 simp only[seval,EMH,SL,PB,j5,sz_2,ag_2,hb1,hb2]
 simp only[seval,EMH,SL,PB,j5,sz_2,ag_2,hb1]
 refine Mir.toK (.ret λe h=>?_)
 cases h
 simp only[seval,FMH,Tryz.results44]
def f9(a0:fc):Option Int:=bindX (bindO (gI a0.Work.e0) λ(y1:Bool)=>if y1=true then some (.ret 1)else bindO (gI a0.Work.e1) λ(y2:Bool)=>if y2=true then some (.ret 1)else bindO (gI a0.Work.e2) λ(y3:Bool)=>if y3=true then some (.ret 1)else bindO (gI a0.Work.e3) λ(y4:Bool)=>if y4=true then some (.ret 1)else bindO (gI a0.Work.e4) λ(y5:Bool)=>if y5=true then some (.ret 1)else bindO (gI a0.Work.e5) λ(y6:Bool)=>if y6=true then some (.ret 1)else some (.go ())) λ(v1:Unit)=>bindX (aE (okIdx a0.Lengths) ( aU (λ(i1:Nat) (e1:cP) (v2:Unit)=>bindO (bindO (jt e1) λ(y7:Bool)=>if y7=true then if (decide ((i1:Int)>0))=true then bindO (gt a0.Lengths (zH.wrap ((i1:Int)-1))) λ(e2:cP)=>some (decide (e1.Number≤e2.Number))else some false else some true) λ(v3:Bool)=>if v3=true then some (.ret (.ret 1))else some (.go ())) (λ(v2:Unit)=>some (.go ())) a0.Lengths 0 ())) λ(v4:Unit)=>some 0
theorem r45_Valid_spec{a0:fc}{y:Int}(h:f9 a0=some y):Spec gP 16 [.agg (w6 a0.Work [.d (.list (zD bg a0.Lengths))])] (.d (.int .i64 y)):=by
 refine au Tryz.func16 rfl (by kernel_rfl) (by kernel_rfl) (λy:Int=>.d (.int .i64 y)) ?_ h
 unfold f9
 simp only[zE,zG,nS,nA,Tryz.ntmps16,SV]
 refine .sR λe h=>?_
 simp only[seval,EMH]
 refine mU e (.seqK (.sR λe h=>?_)) h
 simp only[seval,EMH]
 refine mU e (Mir.join (λv1:Unit=>([U,.ptr 0 0]++us 46)) (λv1=>⟨[(w6 a0.Work [.d (.list (zD bg a0.Lengths))])],[]⟩) (λ_=>rfl) ?_ ?_) h
 refine .block (.loopR 15 (.seqK (.sR λe h=>?_)))
 simp only[seval,EMH]
 refine mU e (.condT rfl (.skip (Mir.toK (.seqK (.block (.seqK (.bind λy1 hy33=>.region λe h=>?_))))))) h
 simp only[seval,EMH,iK,sz_35,gy,sz_24,ag_24]
 refine SpecS.by (ee hy33) (by simp only[seval,FMH]) ?_
 simp only[seval,EMH]
 refine mU e (.cond rfl (λhb35=>?_) (λhb35=>?_)) h
 refine .sR λe h=>?_
 simp only[seval,EMH]
 refine mU e (.ret λe h=>?_) h
 cases h
 simp only[seval,FMH,Tryz.results16]
 refine .skip (Mir.toB (Mir.toK (.region λe h=>?_)))
 simp only[seval,EMH,(nr rfl:zH.wrap 1=1)]
 refine Mir.useN (e:=e) ?_ h
 refine .seqK (.sR λe h=>?_)
 simp only[seval,EMH]
 refine mU e (.condT rfl (.skip (Mir.toK (.seqK (.block (.seqK (.bind λy2 hy38=>.region λe h=>?_))))))) h
 simp only[seval,EMH,iK,sz_35,gy,sz_24,ag_24]
 refine SpecS.by (ee hy38) (by simp only[seval,FMH]) ?_
 simp only[seval,EMH]
 refine mU e (.cond rfl (λhb40=>?_) (λhb40=>?_)) h
 refine .sR λe h=>?_
 simp only[seval,EMH]
 refine mU e (.ret λe h=>?_) h
 cases h
 simp only[seval,FMH,Tryz.results16]
 refine .skip (Mir.toB (Mir.toK (.region λe h=>?_)))
 simp only[seval,EMH,(nr rfl:zH.wrap 2=2)]
 refine Mir.useN (e:=e) ?_ h
 refine .seqK (.sR λe h=>?_)
 simp only[seval,EMH]
 refine mU e (.condT rfl (.skip (Mir.toK (.seqK (.block (.seqK (.bind λy3 hy43=>.region λe h=>?_))))))) h
 simp only[seval,EMH,iK,sz_35,gy,sz_24,ag_24]
 refine SpecS.by (ee hy43) (by simp only[seval,FMH]) ?_
 simp only[seval,EMH]
 refine mU e (.cond rfl (λhb45=>?_) (λhb45=>?_)) h
 refine .sR λe h=>?_
 simp only[seval,EMH]
 refine mU e (.ret λe h=>?_) h
 cases h
 simp only[seval,FMH,Tryz.results16]
 refine .skip (Mir.toB (Mir.toK (.region λe h=>?_)))
 simp only[seval,EMH,(nr rfl:zH.wrap 3=3)]
 refine Mir.useN (e:=e) ?_ h
 refine .seqK (.sR λe h=>?_)
 simp only[seval,EMH]
 refine mU e (.condT rfl (.skip (Mir.toK (.seqK (.block (.seqK (.bind λy4 hy48=>.region λe h=>?_))))))) h
 simp only[seval,EMH,iK,sz_35,gy,sz_24,ag_24]
 refine SpecS.by (ee hy48) (by simp only[seval,FMH]) ?_
 simp only[seval,EMH]
 refine mU e (.cond rfl (λhb50=>?_) (λhb50=>?_)) h
 refine .sR λe h=>?_
 simp only[seval,EMH]
 refine mU e (.ret λe h=>?_) h
 cases h
 simp only[seval,FMH,Tryz.results16]
 refine .skip (Mir.toB (Mir.toK (.region λe h=>?_)))
 simp only[seval,EMH,(nr rfl:zH.wrap 4=4)]
 refine Mir.useN (e:=e) ?_ h
 refine .seqK (.sR λe h=>?_)
 simp only[seval,EMH]
 refine mU e (.condT rfl (.skip (Mir.toK (.seqK (.block (.seqK (.bind λy5 hy53=>.region λe h=>?_))))))) h
 simp only[seval,EMH,iK,sz_35,gy,sz_24,ag_24]
 refine SpecS.by (ee hy53) (by simp only[seval,FMH]) ?_
 simp only[seval,EMH]
 refine mU e (.cond rfl (λhb55=>?_) (λhb55=>?_)) h
 refine .sR λe h=>?_
 simp only[seval,EMH]
 refine mU e (.ret λe h=>?_) h
 cases h
 simp only[seval,FMH,Tryz.results16]
 refine .skip (Mir.toB (Mir.toK (.region λe h=>?_)))
 simp only[seval,EMH,(nr rfl:zH.wrap 5=5)]
 refine Mir.useN (e:=e) ?_ h
 refine .seqK (.sR λe h=>?_)
 simp only[seval,EMH]
 refine mU e (.condT rfl (.skip (Mir.toK (.seqK (.block (.seqK (.bind λy6 hy58=>.region λe h=>?_))))))) h
 simp only[seval,EMH,iK,sz_35,gy,sz_24,ag_24]
 refine SpecS.by (ee hy58) (by simp only[seval,FMH]) ?_
 simp only[seval,EMH]
 refine mU e (.cond rfl (λhb60=>?_) (λhb60=>?_)) h
 refine .sR λe h=>?_
 simp only[seval,EMH]
 refine mU e (.ret λe h=>?_) h
 cases h
 simp only[seval,FMH,Tryz.results16]
 refine .skip (Mir.toB (Mir.toK (.region λe h=>?_)))
 simp only[seval,EMH,(nr rfl:zH.wrap 6=6)]
 refine Mir.useN (e:=e) ?_ h
 refine .seqK (.sR λe h=>?_)
 simp only[seval,EMH]
 refine mU e (.condF rfl (.exit λe h=>?_)) h
 cases h
 simp only[seval,FMH,Tryz.results16]
 intro v1
 refine Mir.toK (.seqK (.sR λe h=>?_))
 simp only[seval,EMH]
 refine mU e (Mir.join (λv4:Unit=>(us 48)) (λv4=>⟨[(w6 a0.Work [.d (.list (zD bg a0.Lengths))])],[]⟩) (λ_=>rfl) ?_ ?_) h
 refine .block (.guard λq1=>Mir.range (λ(i1:Nat) (v2:Unit)=>([U,.ptr 0 0,U,U,.d (.int .i64 (i1:Int))]++us 43)) (λi1 v2=>⟨[(w6 a0.Work [.d (.list (zD bg a0.Lengths))])],[]⟩) q1 (λ_ _=>rfl) (by simp only[seval,FMH,zNI]) (by simp only[seval,FMH,zNI]) ?_ ?_)
 intro i1 e1 v2 q2
 refine .seqK (.sR λe h=>?_)
 simp only[seval,EMH,fL,sz_51,ag_51,kh,q2]
 refine mU e (.condT rfl (.skip (Mir.toK (.seqK (.block (.seqK (Mir.joinO (λv3:Bool=>[U,.ptr 0 0,U,U,.d (.int .i64 (i1:Int)),U,U,U,U,U,U,U,U,U,U,U,U,U,U,U,U,U,U,U,U,U,U,U,U,U,U,U,U,U,U,U,U,U,U,U,U,U,U,U,U,U,U,.d (.bool v3)]) (λv3=>⟨[(w6 a0.Work [.d (.list (zD bg a0.Lengths))])],[]⟩) (λ_=>rfl) ?_ ?_))))))) h
 refine .bind λy7 h1=>.ite (λh2=>?_) (λh2=>?_)
 refine .ite (λh3=>?_) (λh3=>?_)
 refine .bind λe2 q3=>?_
 replace q3:=gt_ok q3
 refine .regionD [] (by kernel_rfl) λe h=>?_
 simp only[seval,EMH,SB,fL,sz_51,ag_51,kh,sz_67,q2,zB,ag_67,h2,h3]
 refine Spec.by (gJ h1) (by simp only[seval,FMH,h2,h3]) ?_
 simp only[seval,EMH,SB,fL,sz_51,ag_51,kh,sz_67,q2,zB,j5,sz_2,ag_2,q3,h2,h3]
 cases h
 simp only[seval,FMH,h2,h3]
 refine .regionD [] (by kernel_rfl) λe h=>?_
 simp only[seval,EMH,SB,fL,sz_51,ag_51,kh,sz_67,q2,zB,ag_67,h2,h3]
 refine Spec.by (gJ h1) (by simp only[seval,FMH,h2,h3]) ?_
 simp only[seval,EMH,SB,h2,h3]
 cases h
 simp only[seval,FMH,h2,h3]
 refine .regionD [] (by kernel_rfl) λe h=>?_
 simp only[seval,EMH,SB,fL,sz_51,ag_51,kh,sz_67,q2,zB,ag_67,h2]
 refine Spec.by (gJ h1) (by simp only[seval,FMH,h2]) ?_
 simp only[seval,EMH,SB,h2]
 cases h
 simp only[seval,FMH,h2]
 intro v3
 refine Mir.toK (.cond rfl (λh4=>?_) (λh4=>?_))
 refine .sR λe h=>?_
 simp only[seval,EMH]
 refine mU e (.ret λe h=>?_) h
 cases h
 simp only[seval,FMH,Tryz.results16]
 refine .skip (Mir.toB (Mir.toK (.region λe h=>?_)))
 simp only[seval,EMH]
 cases h
 simp only[seval,FMH,Tryz.results16,q2]
 intro v2 q4
 refine .seqK (.sR λe h=>?_)
 simp only[seval,EMH,fL,sz_51,ag_51,kh,q4]
 refine mU e (.condF rfl (.exit λe h=>?_)) h
 cases h
 simp only[seval,FMH,Tryz.results16]
 intro v4
 refine Mir.toK (.sR λe h=>?_)
 simp only[seval,EMH]
 refine mU e (.ret λe h=>?_) h
 cases h
 simp only[seval,FMH,Tryz.results16]
def bh(a0:(List ax))(a1:(List ax)):Option Bool:=if ((a0.length:Int) != (a1.length:Int))=true then some false else bindX (aE (okIdx a0) ( aU (λ(i1:Nat) (e1:ax) (v1:Unit)=>bindO (gt a1 (i1:Int)) λ(e2:ax)=>if (!((e1.From.X==e2.From.X)&&((e1.From.Y==e2.From.Y)&&((e1.From.Z==e2.From.Z)&&((e1.To.X==e2.To.X)&&((e1.To.Y==e2.To.Y)&&((e1.To.Z==e2.To.Z)&&((e1.Rate==e2.Rate)&&((e1.Tool==e2.Tool)&&(e1.Block==e2.Block))))))))))=true then some (.ret (.ret false))else some (.go ())) (λ(v1:Unit)=>some (.go ())) a0 0 ())) λ(v2:Unit)=>some true
theorem dy{a0:(List ax)}{a1:(List ax)}{y:Bool}(h:bh a0 a1=some y):Spec gP 13 [.d (.list (zD aM a0)),.d (.list (zD aM a1))] (.d (.bool y)):=by
 refine au Tryz.func13 rfl (by kernel_rfl) (by kernel_rfl) (λy:Bool=>.d (.bool y)) ?_ h
 unfold bh
 simp only[zE,zG,nS,nA,Tryz.ntmps13,SV]
 refine .sR λe h=>?_
 simp only[seval,EMH]
 refine mU e (.seqK (.sR λe h=>?_)) h
 simp only[seval,EMH,eS]
 refine mU e (.cond rfl (λhb2=>?_) (λhb2=>?_)) h
 refine .sR λe h=>?_
 simp only[seval,EMH]
 refine mU e (.ret λe h=>?_) h
 cases h
 simp only[seval,FMH,Tryz.results13]
 refine .skip (Mir.toK (.seqK (.sR λe h=>?_)))
 simp only[seval,EMH,eS]
 refine mU e (Mir.join (λv2:Unit=>(us 26)) (λv2=>⟨[],[]⟩) (λ_=>rfl) ?_ ?_) h
 refine .block (.guard λqg67=>Mir.range (λ(i1:Nat) (v1:Unit)=>([.d (.list (zD aM a0)),.d (.list (zD aM a1)),U,U,U,U,U,U,U,U,U,U,.d (.int .i64 (a0.length:Int)),.d (.int .i64 (i1:Int))]++us 12)) (λi1 v1=>⟨[],[]⟩) qg67 (λ_ _=>rfl) (by simp only[seval,FMH,zNI]) (by simp only[seval,FMH,zNI]) ?_ ?_)
 intro i1 e1 v1 qr65
 refine .sR λe h=>?_
 simp only[seval,EMH,qr65]
 refine mU e (.seqK (.condT rfl (.skip (Mir.toK (.seqK (.block (.sR λe h=>?_))))))) h
 simp only[seval,EMH]
 refine mU e (.seqK (.bind λe2 q70=>?_)) h
 replace q70:=gt_ok q70
 simp only[zB]at q70
 refine .regionD [] (by kernel_rfl) λe h=>?_
 simp only[seval,EMH,SB,eS,sz_47,qr65,zB,ag_47,q70,gE_47]
 refine mU e (.cond rfl (λhb72=>?_) (λhb72=>?_)) h
 refine .sR λe h=>?_
 simp only[seval,EMH]
 refine mU e (.ret λe h=>?_) h
 cases h
 simp only[seval,FMH,Tryz.results13]
 refine .skip (Mir.toB (Mir.toK (.region λe h=>?_)))
 simp only[seval,EMH]
 cases h
 simp only[seval,FMH,Tryz.results13,qr65]
 intro v1 qd66
 refine .sR λe h=>?_
 simp only[seval,EMH,qd66]
 refine mU e (.seqK (.condF rfl (.exit λe h=>?_))) h
 cases h
 simp only[seval,FMH,Tryz.results13]
 intro v2
 refine Mir.toK (.sR λe h=>?_)
 simp only[seval,EMH]
 refine mU e (.ret λe h=>?_) h
 cases h
 simp only[seval,FMH,Tryz.results13]
end Go.Proofs.YtplhejpjnfjopaaGreatDoor
