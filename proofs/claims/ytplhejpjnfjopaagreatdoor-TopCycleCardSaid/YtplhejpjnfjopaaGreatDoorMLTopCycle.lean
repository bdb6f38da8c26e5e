import Derived.Test.YtplhejpjnfjopaaGreatDoorGx
import Derived.Test.YtplhejpjnfjopaaGreatDoorTy
import Derived.Test.YtplhejpjnfjopaaGreatDoorGz
import Derived.Test.YtplhejpjnfjopaaGreatDoorSzz
import Derived.Test.YtplhejpjnfjopaaGreatDoorSzj2
import Derived.Test.YtplhejpjnfjopaaGreatDoorGog
import Derived.Test.YtplhejpjnfjopaaGreatDoorMB
import Derived.Test.YtplhejpjnfjopaaGreatDoorMH
import Derived.Test.YtplhejpjnfjopaaGreatDoorMwe
open List renaming map → zA
open Bool renaming eq_false_or_eq_true → zB
open Int renaming tmod → zD,toNat_natCast → zF,reduceToNat → zH
open And renaming intro → zE
open Go.IntKind renaming i64 → zI
namespace Go.Proofs.YtplhejpjnfjopaaGreatDoor
open Go.RowKit
open Nat renaming reduceAdd → nA,reduceSub → nS,reduceMul → nM,reduceEqDiff → nE,reduceLeDiff → nL,reduceLT → nT,reduceBEq → nB
open Int renaming reduceLT → iT,reduceToNat → iN,reduceEq → iE
set_option linter.unusedVariables false
set_option linter.unusedSimpArgs false
set_option maxRecDepth 100000
set_option maxHeartbeats 8000000
structure cZ where
 Code:Int
 Rate:Int
 R:Int
 Z:Int
 Q:Int
 Above:Int
 High:Bool
 deriving DecidableEq
def eF(x:cZ):List D:=[.int .u8 x.Code,.int .u8 x.Rate,.int .i16 x.R,.int .i16 x.Z,.int .u16 x.Q,.int .u8 x.Above,.bool x.High]
abbrev cE(x:cZ):List V:=[.d (.int .u8 x.Code),.d (.int .u8 x.Rate),.d (.int .i16 x.R),.d (.int .i16 x.Z),.d (.int .u16 x.Q),.d (.int .u8 x.Above),.d (.bool x.High)]
theorem g9:type_of% (@eF.eq_1):=@eF.eq_1
theorem ae:type_of% (zE @SE<|zE @g9<|@ENMB):=zE @SE<|zE @g9<|@ENMB
theorem ax:type_of% (zE @SF<|zE @g9<|@ENMB):=zE @SF<|zE @g9<|@ENMB
def fj(a0:cZ)(a1:(List aG)):Option Bool:=bindO (bindO (gu ) λ(y1:Bool)=>if y1=true then if (decide ((a1.length:Int)>5))=true then some true else if ((a1.length:Int)==0)=true then some true else bindO (fe (ak.mk (zI.wrap (81000+(zI.wrap (1000*(zI.wrap (zD a0.Code 3)))))) (zI.wrap a0.R) (zI.wrap a0.Z) (zI.wrap a0.Q) (zI.wrap (1+(zI.wrap a0.Rate))) (zI.wrap ((zI.wrap a0.R)+(zI.wrap a0.Above))) a0.High)) λ(y2:Int)=>some (y2 != 0)else some true) λ(v1:Bool)=>if v1=true then bindO (gu ) λ(y3:Bool)=>some y3 else bindO (fw (ak.mk (zI.wrap (81000+(zI.wrap (1000*(zI.wrap (zD a0.Code 3)))))) (zI.wrap a0.R) (zI.wrap a0.Z) (zI.wrap a0.Q) (zI.wrap (1+(zI.wrap a0.Rate))) (zI.wrap ((zI.wrap a0.R)+(zI.wrap a0.Above))) a0.High)) λ(y4:(List Int)×Int)=>if ((y4.2 != 0)||(decide ((y4.1.length:Int)>100)))=true then some (y4.2==0)else bindX (aF (okIdx a1) ( aU (λ(i1:Nat) (e1:aG) (v2:Unit)=>if ((decide (e1.X>100000))||((decide (e1.X<(-100000)))||((decide (e1.Y>100000))||(decide (e1.Y<(-100000))))))=true then some (.ret (.ret true))else some (.go ())) (λ(v2:Unit)=>some (.go ())) a1 0 ())) λ(v3:Unit)=>bindO (jN (ag.mk 0 0 0) (au.mk 1 (ag.mk 7 (-9) (zI.wrap ((zI.wrap a0.R)+(zI.wrap a0.Above)))) (aG.mk 0 0) 0)) λ(y5:ac×Int)=>bindO (gt a1 0) λ(e2:aG)=>bindO (cy_Block (ak.mk (zI.wrap (81000+(zI.wrap (1000*(zI.wrap (zD a0.Code 3)))))) (zI.wrap a0.R) (zI.wrap a0.Z) (zI.wrap a0.Q) (zI.wrap (1+(zI.wrap a0.Rate))) (zI.wrap ((zI.wrap a0.R)+(zI.wrap a0.Above))) a0.High) e2) λ(y6:ac×Int)=>bindO (dX (ak.mk (zI.wrap (81000+(zI.wrap (1000*(zI.wrap (zD a0.Code 3)))))) (zI.wrap a0.R) (zI.wrap a0.Z) (zI.wrap a0.Q) (zI.wrap (1+(zI.wrap a0.Rate))) (zI.wrap ((zI.wrap a0.R)+(zI.wrap a0.Above))) a0.High) (ag.mk 7 (-9) (zI.wrap ((zI.wrap a0.R)+(zI.wrap a0.Above)))) a1) λ(y7:(List au)×Int)=>if ((y5.2 != 0)||((y6.2 != 0)||(y7.2 != 0)))=true then some false else bindO (cutF a1 1) λ(s1:(List aG))=>bindO (aF (okIdx s1) ( aU (λ(i2:Nat) (e3:aG) (v4:(List ac))=>aF (okLen (v4.length+1)) ( some (.go (v4++[ac.mk false [ay.mk 88 e3.X,ay.mk 89 e3.Y] []])))) (λ(v4:(List ac))=>some v4) s1 0 [y5.1,y6.1])) λ(v5:(List ac))=>bindX (aF (okIdx y7.1) ( aU (λ(i3:Nat) (e4:au) (v6:(List ac)×ag)=>bindO (jN v6.2 e4) λ(y8:ac×Int)=>if (y8.2 != 0)=true then some (.ret (.ret false))else aF (okLen (v6.1.length+1)) ( some (.go (v6.1++[y8.1],e4.To)))) (λ(v6:(List ac)×ag)=>some (.go (v6.1,v6.2))) y7.1 0 ([y5.1],ag.mk 7 (-9) (zI.wrap ((zI.wrap a0.R)+(zI.wrap a0.Above)))))) λ(v7:(List ac)×ag)=>aF (okLen (v5.length+1)) ( bindO (cD (v5++[ac.mk false [ay.mk 77 30000] []]) (aw.mk (dR.mk (ag.mk 0 0 0) (ag.mk 0 0 0) (ag.mk 0 0 0) (ag.mk 0 0 0) (ag.mk 0 0 0) (ag.mk 0 0 0)) []) (ag.mk 0 0 0)) λ(y9:(List ao)×aM)=>aF (okLen (v7.1.length+1)) ( bindO (cD (v7.1++[ac.mk false [ay.mk 77 30000] []]) (aw.mk (dR.mk (ag.mk 0 0 0) (ag.mk 0 0 0) (ag.mk 0 0 0) (ag.mk 0 0 0) (ag.mk 0 0 0) (ag.mk 0 0 0)) []) (ag.mk 0 0 0)) λ(y10:(List ao)×aM)=>bindO (if ((y9.2.Block==(-1))&&(y9.2.Code==0))=true then if ((y9.2.Block==y10.2.Block)&&(y9.2.Code==y10.2.Code))=true then bindO (eR y9.1) λ(y11:(List ao))=>bindO (eR y10.1) λ(y12:(List ao))=>bindO (bj y11 y12) λ(y13:Bool)=>some y13 else some false else some false) λ(v8:Bool)=>some v8))
theorem top_TopCycle_spec{a0:cZ}{a1:(List aG)}{y:Bool}(h:fj a0 a1=some y):Spec gP 5 [.agg (cE a0),.d (.list (zA aW a1))] (.d (.bool y)):=by
 refine aB Tryz.func5 rfl (by kernel_rfl) (by kernel_rfl) (λy:Bool=>.d (.bool y)) ?_ h
 unfold fj
 simp only[List.replicate,List.length,nS,nA,Tryz.ntmps5,SV]
 refine .sR λe h=>?_
 simp only[seval,ae]
 refine mU e (.sR λe h=>?_) h
 simp only[seval,ae,fld_83_0,sz_5,ag_5,und_5,und_2,fld_83_2,sz_80,ag_80,und_80,fld_83_3,fld_83_4,sz_81,ag_81,und_81,fld_83_1,fld_83_5,fld_83_6,sz_4,ag_4,bH,pl_86,sz_86]
 refine mU e (.seqK (.seqK (Mir.joinO (λv1:Bool=>([U,.d (.list (zA aW a1)),U,U,U,.ptr 1 0,U,U,U,U,U,U,U,U,U,U,U,U,U,U,U,U,U,U,U,U,U,U,U,U,U,U,U,U,U,U,U,U,U,U,U,U,U,U,U,U,U,U,U,U,U,U,U,U,U,U,U,U,U,U,U,U,U,U,U,U,U,U,U,U,U,U,U,U,U,U,.d (.bool v1)]++us 159)) (λv1=>⟨[(cE a0),[.d (.int .i64 (zI.wrap (81000+(zI.wrap (1000*(zI.wrap (zD a0.Code 3))))))),.d (.int .i64 (zI.wrap a0.R)),.d (.int .i64 (zI.wrap a0.Z)),.d (.int .i64 (zI.wrap a0.Q)),.d (.int .i64 (zI.wrap (1+(zI.wrap a0.Rate)))),.d (.int .i64 (zI.wrap ((zI.wrap a0.R)+(zI.wrap a0.Above)))),.d (.bool a0.High)]],[]⟩) (λ_=>rfl) ?_ ?_))) h
 refine .bind λy1 hy1=>.ite (λhb2=>?_) (λhb2=>?_)
 refine .ite (λhb3=>?_) (λhb3=>?_)
 refine .region λe h=>?_
 simp only[seval,ae,hb2,hb3]
 refine SpecS.by (dg hy1) (rfl) ?_
 simp only[seval,ae,ie,hb2,hb3]
 cases h
 simp only[seval,ax,hb2,hb3]
 refine .ite (λhb4=>?_) (λhb4=>?_)
 refine .region λe h=>?_
 simp only[seval,ae,hb2,hb3,hb4]
 refine SpecS.by (dg hy1) (rfl) ?_
 simp only[seval,ae,ie,hb2,hb3,hb4]
 cases h
 simp only[seval,ax,hb2,hb3,hb4]
 refine .bind λy2 hy5=>.region λe h=>?_
 simp only[seval,ae,hb2,hb3,hb4]
 refine SpecS.by (dg hy1) (rfl) ?_
 simp only[seval,ae,ie,ag_86,sz_86,hb2,hb3,hb4]
 refine SpecS.by (fZ hy5) (by simp only[seval,ax,hb2,hb3,hb4]) ?_
 simp only[seval,ae,hb2,hb3,hb4]
 cases h
 simp only[seval,ax,hb2,hb3,hb4]
 refine .region λe h=>?_
 simp only[seval,ae,hb2]
 refine SpecS.by (dg hy1) (rfl) ?_
 simp only[seval,ae,hb2]
 cases h
 simp only[seval,ax,hb2]
 intro v1
 refine Mir.toK (.cond rfl (λhb8=>?_) (λhb8=>?_))
 refine .seqK (.bind λy3 hy9=>.region λe h=>?_)
 simp only[seval,ae]
 refine SpecS.by (dg hy9) (rfl) ?_
 simp only[seval,ae]
 refine mU e (.ret λe h=>?_) h
 cases h
 simp only[seval,ax,Tryz.results5]
 refine .skip (Mir.toK (.seqK (.seqK (.bind λy4 hy10=>.region λe h=>?_))))
 simp only[seval,ae,ag_86,sz_86]
 refine SpecS.by (k9 hy10) (by simp only[seval,ax]) ?_
 simp only[seval,ae]
 refine mU e (.seqK (.joinV ([U,.d (.list (zA aW a1)),U,U,U,.ptr 1 0,U,.d (.int .i64 y4.2),U,U,U,U,U,U,U,U,U,U,U,U,U,U,U,U,U,U,U,U,U,U,U,U,U,U,U,U,U,U,U,U,U,U,U,U,U,U,U,U,U,U,U,U,U,U,U,U,U,U,U,U,U,U,U,U,U,U,U,U,U,U,U,U,U,U,U,U,U,U,U,U,U,U,U,U,U,U,U,U,U,.d (.bool ((y4.2 != 0)||(decide ((y4.1.length:Int)>100))))]++us 146) ⟨[(cE a0),[.d (.int .i64 (zI.wrap (81000+(zI.wrap (1000*(zI.wrap (zD a0.Code 3))))))),.d (.int .i64 (zI.wrap a0.R)),.d (.int .i64 (zI.wrap a0.Z)),.d (.int .i64 (zI.wrap a0.Q)),.d (.int .i64 (zI.wrap (1+(zI.wrap a0.Rate)))),.d (.int .i64 (zI.wrap ((zI.wrap a0.R)+(zI.wrap a0.Above)))),.d (.bool a0.High)]],[]⟩ rfl ?_ ?_)) h
 refine SWs.region ?_
 rcases zB (y4.2 != 0)with hb11 | hb11
 simp only[seval,ae,SL,PB,hb11]
 simp only[seval,ae,SL,PB,cn,hb11]
 refine Mir.toK (.cond rfl (λhb13=>?_) (λhb13=>?_))
 refine .sR λe h=>?_
 simp only[seval,ae]
 refine mU e (.ret λe h=>?_) h
 cases h
 simp only[seval,ax,Tryz.results5]
 refine .skip (Mir.toK (.seqK (.sR λe h=>?_)))
 simp only[seval,ae,ie]
 refine mU e (Mir.join (λv3:Unit=>([U,.d (.list (zA aW a1)),U,U,U,.ptr 1 0]++us 230)) (λv3=>⟨[(cE a0),[.d (.int .i64 (zI.wrap (81000+(zI.wrap (1000*(zI.wrap (zD a0.Code 3))))))),.d (.int .i64 (zI.wrap a0.R)),.d (.int .i64 (zI.wrap a0.Z)),.d (.int .i64 (zI.wrap a0.Q)),.d (.int .i64 (zI.wrap (1+(zI.wrap a0.Rate)))),.d (.int .i64 (zI.wrap ((zI.wrap a0.R)+(zI.wrap a0.Above)))),.d (.bool a0.High)]],[]⟩) (λ_=>rfl) ?_ ?_) h
 refine .block (.guard λq1=>Mir.range (λ(i1:Nat) (v2:Unit)=>([U,.d (.list (zA aW a1)),U,U,U,.ptr 1 0,U,U,U,U,U,U,U,U,U,U,U,U,U,U,U,U,U,U,U,U,U,U,U,U,U,U,U,U,U,U,U,U,U,U,U,U,U,U,U,U,U,U,U,U,U,U,U,U,U,U,U,U,U,U,U,U,U,U,U,U,U,U,U,U,U,U,U,U,U,U,U,U,U,U,U,U,U,U,U,U,U,U,U,U,U,U,.d (.list (zA aW a1)),.d (.int .i64 (a1.length:Int)),.d (.int .i64 (i1:Int))]++us 141)) (λi1 v2=>⟨[(cE a0),[.d (.int .i64 (zI.wrap (81000+(zI.wrap (1000*(zI.wrap (zD a0.Code 3))))))),.d (.int .i64 (zI.wrap a0.R)),.d (.int .i64 (zI.wrap a0.Z)),.d (.int .i64 (zI.wrap a0.Q)),.d (.int .i64 (zI.wrap (1+(zI.wrap a0.Rate)))),.d (.int .i64 (zI.wrap ((zI.wrap a0.R)+(zI.wrap a0.Above)))),.d (.bool a0.High)]],[]⟩) q1 (λ_ _=>rfl) (by simp only[seval,ax,zNI]) (by simp only[seval,ax,zNI]) ?_ ?_)
 intro i1 e1 v2 q2
 refine .sR λe h=>?_
 simp only[seval,ae,q2]
 refine mU e (.seqK (.condT rfl (.skip (Mir.toK (.seqK (.block (.sR λe h=>?_))))))) h
 simp only[seval,ae,ie,sz_91,q2,zF,ag_91,zero_91]
 refine mU e (.seqK (.joinV ([U,.d (.list (zA aW a1)),U,U,U,.ptr 1 0,U,U,U,U,U,U,U,U,U,U,U,U,U,U,U,U,U,U,U,U,U,U,U,U,U,U,U,U,U,U,U,U,U,U,U,U,U,U,U,U,U,U,U,U,U,U,U,U,U,U,U,U,U,U,U,U,U,U,U,U,U,U,U,U,U,U,U,U,U,U,U,U,U,U,U,U,U,U,U,U,U,U,U,U,U,U,.d (.list (zA aW a1)),.d (.int .i64 (a1.length:Int)),.d (.int .i64 (i1:Int)),U,U,U,U,U,U,U,U,U,U,U,U,U,U,U,U,U,U,U,U,.d (.bool ((decide (e1.X>100000))||((decide (e1.X<(-100000)))||((decide (e1.Y>100000))||(decide (e1.Y<(-100000)))))))]++us 120) ⟨[(cE a0),[.d (.int .i64 (zI.wrap (81000+(zI.wrap (1000*(zI.wrap (zD a0.Code 3))))))),.d (.int .i64 (zI.wrap a0.R)),.d (.int .i64 (zI.wrap a0.Z)),.d (.int .i64 (zI.wrap a0.Q)),.d (.int .i64 (zI.wrap (1+(zI.wrap a0.Rate)))),.d (.int .i64 (zI.wrap ((zI.wrap a0.R)+(zI.wrap a0.Above)))),.d (.bool a0.High)],(cK e1)],[]⟩ rfl ?_ ?_)) h
 refine SWs.region ?_
 rcases zB (decide (e1.X>100000))with h1 | h1
 simp only[seval,ae,SL,PB,bE,sz_2,ag_2,h1]
 rcases zB (decide (e1.X<(-100000)))with h2 | h2
 simp only[seval,ae,SL,PB,bE,sz_2,ag_2,h1,h2]
 rcases zB (decide (e1.Y>100000))with h3 | h3
 simp only[seval,ae,SL,PB,bE,sz_2,ag_2,ca,h1,h2,h3]
 simp only[seval,ae,SL,PB,bE,sz_2,ag_2,ca,h1,h2,h3]
 refine Mir.toK (.cond rfl (λh4=>?_) (λh4=>?_))
 refine .sR λe h=>?_
 simp only[seval,ae]
 refine mU e (.ret λe h=>?_) h
 cases h
 simp only[seval,ax,Tryz.results5]
 refine .skip (Mir.toB (Mir.toK (.region λe h=>?_)))
 simp only[seval,ae]
 cases h
 simp only[seval,ax,Tryz.results5,q2]
 intro v2 q3
 refine .sR λe h=>?_
 simp only[seval,ae,q3]
 refine mU e (.seqK (.condF rfl (.exit λe h=>?_))) h
 cases h
 simp only[seval,ax,Tryz.results5]
 intro v3
 refine Mir.toK (.sR λe h=>?_)
 simp only[seval,ae,cu,sz_2,ag_2,bl,pl_24,sz_24]
 refine mU e (.seqK (.bind λy5 h5=>.region λe h=>?_)) h
 simp only[seval,ae,bl,pl_24,ag_24,sz_24,fD,pl_95]
 refine SpecS.by (jM h5) (by simp only[seval,ax]) ?_
 simp only[seval,ae,aC,sz_58]
 refine mU e (.seqK (.bind λe2 q4=>?_)) h
 replace q4:=gt_ok q4
 simp only[zH,Int.reduceLT,Nat.sub_zero,dp0]at q4
 refine .bind λy6 h6=>.regionD [] (by kernel_rfl) λe h=>?_
 simp only[seval,ae,SB,ag_86,sz_86,ie,sz_91,q4,ag_91]
 refine Spec.by (cy_Block_spec h6) (by simp only[seval,ax]) ?_
 simp only[seval,ae,SB,aC,sz_58]
 refine mU e (.seqK (.bind λy7 h7=>.region λe h=>?_)) h
 simp only[seval,ae,ag_86,sz_86,ag_24,sz_24]
 refine SpecS.by (k8 h7) (by simp only[seval,ax]) ?_
 simp only[seval,ae]
 refine mU e (.seqK (.seqK (.joinV ([U,.d (.list (zA aW a1)),U,U,U,U,U,U,U,U,.ptr 2 0,.ptr 3 0,U,.ptr 4 0,U,.d (.list (zA bf y7.1)),U,U,U,U,U,U,U,U,U,U,U,U,U,U,U,U,U,U,U,U,U,U,U,U,U,U,U,U,U,U,U,U,U,U,U,U,U,U,U,U,U,U,U,U,U,U,U,U,U,U,U,U,U,U,U,U,U,U,U,U,U,U,U,U,U,U,U,U,U,U,U,U,U,U,U,U,U,U,U,U,U,U,U,U,U,U,U,U,U,U,U,U,U,U,U,U,U,U,U,U,U,U,U,U,U,U,U,U,U,U,U,U,U,U,U,U,U,U,U,U,U,U,U,U,U,U,U,U,U,U,U,U,U,U,U,.d (.bool ((y5.2 != 0)||((y6.2 != 0)||(y7.2 != 0))))]++us 84) ⟨[(cE a0),[.d (.int .i64 (zI.wrap (81000+(zI.wrap (1000*(zI.wrap (zD a0.Code 3))))))),.d (.int .i64 (zI.wrap a0.R)),.d (.int .i64 (zI.wrap a0.Z)),.d (.int .i64 (zI.wrap a0.Q)),.d (.int .i64 (zI.wrap (1+(zI.wrap a0.Rate)))),.d (.int .i64 (zI.wrap ((zI.wrap a0.R)+(zI.wrap a0.Above)))),.d (.bool a0.High)],[.d (.int .i64 7),.d (.int .i64 (-9)),.d (.int .i64 (zI.wrap ((zI.wrap a0.R)+(zI.wrap a0.Above))))],(cJ y5.1),(cJ y6.1)],[]⟩ rfl ?_ ?_))) h
 refine SWs.region ?_
 rcases zB (y5.2 != 0)with h8 | h8
 simp only[seval,ae,SL,PB,h8]
 rcases zB (y6.2 != 0)with h9 | h9
 simp only[seval,ae,SL,PB,h8,h9]
 simp only[seval,ae,SL,PB,h8,h9]
 refine Mir.toK (.cond rfl (λh10=>?_) (λh10=>?_))
 refine .sR λe h=>?_
 simp only[seval,ae]
 refine mU e (.ret λe h=>?_) h
 cases h
 simp only[seval,ax,Tryz.results5]
 refine .skip (Mir.toK (.sR λe h=>?_))
 simp only[seval,ae,bk,jO,br,bP,(oL 2),aC,pl_58,sz_58]
 refine mU e (.seqK (Mir.ghList 58 (Mir.ghList 58 (Mir.regionA 0 [] ([U,.d (.list (zA aW a1)),U,U,U,U,U,U,U,U,.ptr 2 0,.ptr 3 0,U,.ptr 4 0,U,.d (.list (zA bf y7.1)),U,.ptr 5 0,.own 0 (zA aa [y5.1,y6.1]),.own 1 (zA aa [y5.1]),U,U,U,U,U,U,U,U,U,U,U,U,U,U,U,U,U,U,U,U,U,U,U,U,U,U,U,U,U,U,U,U,U,U,U,U,U,U,U,U,U,U,U,U,U,U,U,U,U,U,U,U,U,U,U,U,U,U,U,U,U,U,U,U,U,U,U,U,U,U,U,U,U,U,U,U,U,U,U,U,U,U,U,U,U,U,U,U,U,U,U,U,U,U,U,U,U,U,U,U,U,U,U,U,U,U,U,U,U,U,U,U,U,U,U,U,U,U,U,U,U,U,U,U,U,U,U,U,U,U,U,.d (.bool ((y5.2 != 0)||((y6.2 != 0)||(y7.2 != 0)))),.agg [.d (.int .u8 77),.d (.int .i64 30000)],.full (zA ar [ay.mk 77 30000]),.agg [.d (.bool false),.full (zA ar [ay.mk 77 30000]),.d (.str [])],.agg (cJ y5.1),.agg (cJ y6.1),.own 0 (zA aa [y5.1,y6.1]),.agg (cJ y5.1),.own 1 (zA aa [y5.1])]++us 76) ⟨[(cE a0),[.d (.int .i64 (zI.wrap (81000+(zI.wrap (1000*(zI.wrap (zD a0.Code 3))))))),.d (.int .i64 (zI.wrap a0.R)),.d (.int .i64 (zI.wrap a0.Z)),.d (.int .i64 (zI.wrap a0.Q)),.d (.int .i64 (zI.wrap (1+(zI.wrap a0.Rate)))),.d (.int .i64 (zI.wrap ((zI.wrap a0.R)+(zI.wrap a0.Above)))),.d (.bool a0.High)],[.d (.int .i64 7),.d (.int .i64 (-9)),.d (.int .i64 (zI.wrap ((zI.wrap a0.R)+(zI.wrap a0.Above))))],(cJ y5.1),(cJ y6.1),[.d (.bool false),.full (zA ar [ay.mk 77 30000]),.d (.str [])]],[(58,([y5.1,y6.1]:List _).length),(58,([y5.1]:List _).length)]⟩ (by kernel_rfl) (λe h=>?_) (λe h=>?_))))) h
 simp only[seval,ae,ah,w_eq,SB]
 refine regA.three (j:=0) (k:=1) (l:=3) (by kernel_rfl) rfl rfl rfl ?_ ?_ ?_
 refine regW.of ?_
 simp only[seval,ae,ah,w_eq,ag_58,sz_58]
 refine regA.two (j:=1) (k:=3) (by kernel_rfl) rfl rfl ?_ ?_
 refine regW.of ?_
 simp only[seval,ae,ah,w_eq,ag_58,sz_58]
 refine regA.two (j:=2) (k:=3) (by kernel_rfl) rfl rfl ?_ ?_
 refine regW.alt 0 rfl ?_
 simp only[seval,ae,ah,w_eq]
 refine aZ (k:=0) (es:=zA aa [y5.1,y6.1]) bh (by simp only[seval,ae,aE,sz_58,aC,(oL 6)]) (by decide) rfl (regW.of ?_)
 simp only[seval,ae,ah,w_eq,aE,sz_58,aC,(oL 6)]
 refine regA.assignB (j:=5) (by kernel_rfl) rfl rfl ?_
 simp only[seval,ae,ah,w_eq]
 refine regA.one (j:=3) (by kernel_rfl) rfl (regW.of ?_)
 simp only[seval,ae,ah,w_eq,ag_58,sz_58]
 refine regA.one (j:=4) (by kernel_rfl) rfl (regW.alt 0 rfl ?_)
 simp only[seval,ae,ah,w_eq]
 refine aZ (k:=1) (es:=zA aa [y5.1]) bh (by simp only[seval,ae,aE,sz_58,aC,(oL 3)]) (by decide) rfl (regW.of ?_)
 simp only[seval,ae,ah,w_eq,aE,sz_58,aC,(oL 3)]
 refine regA.assignB (j:=6) (by kernel_rfl) rfl rfl ?_
 simp only[seval,ae,ah,w_eq]
 exact regA.nil (by kernel_rfl) ⟨by first | rfl | simp only[seval,ax,xMA,xLA],by first | rfl | simp only[seval,ax,xMA,xLA]⟩
 refine regW.of ?_
 simp only[seval,ae,ah,w_eq,ag_58,sz_58]
 refine regA.two (j:=2) (k:=4) (by kernel_rfl) rfl rfl ?_ ?_
 refine regW.alt 0 rfl ?_
 simp only[seval,ae,ah,w_eq]
 refine aZ (k:=0) (es:=zA aa [y5.1,y6.1]) bh (by simp only[seval,ae,aE,sz_58,aC,(oL 6)]) (by decide) rfl (regW.of ?_)
 simp only[seval,ae,ah,w_eq,aE,sz_58,aC,(oL 6)]
 refine regA.assignB (j:=5) (by kernel_rfl) rfl rfl ?_
 simp only[seval,ae,ah,w_eq]
 refine regA.one (j:=4) (by kernel_rfl) rfl (regW.alt 0 rfl ?_)
 simp only[seval,ae,ah,w_eq]
 refine aZ (k:=1) (es:=zA aa [y5.1]) bh (by simp only[seval,ae,aE,sz_58,aC,(oL 3)]) (by decide) rfl (regW.of ?_)
 simp only[seval,ae,ah,w_eq,aE,sz_58,aC,(oL 3)]
 refine regA.assignB (j:=6) (by kernel_rfl) rfl rfl ?_
 simp only[seval,ae,ah,w_eq]
 exact regA.nil (by kernel_rfl) ⟨by first | rfl | simp only[seval,ax,xMA,xLA],by first | rfl | simp only[seval,ax,xMA,xLA]⟩
 refine regW.alt 0 rfl ?_
 simp only[seval,ae,ah,w_eq]
 refine aZ (k:=1) (es:=zA aa [y5.1]) bh (by simp only[seval,ae,aE,sz_58,aC,(oL 3)]) (by decide) rfl (regW.of ?_)
 simp only[seval,ae,ah,w_eq,aE,sz_58,aC,(oL 3)]
 refine regA.one (j:=2) (by kernel_rfl) rfl (regW.alt 0 rfl ?_)
 simp only[seval,ae,ah,w_eq]
 refine aZ (k:=0) (es:=zA aa [y5.1,y6.1]) bh (by simp only[seval,ae,aE,sz_58,aC,(oL 6)]) (by decide) rfl (regW.of ?_)
 simp only[seval,ae,ah,w_eq,aE,sz_58,aC,(oL 6)]
 refine regA.assignB (j:=5) (by kernel_rfl) rfl rfl ?_
 simp only[seval,ae,ah,w_eq]
 refine regA.assignB (j:=6) (by kernel_rfl) rfl rfl ?_
 simp only[seval,ae,ah,w_eq]
 exact regA.nil (by kernel_rfl) ⟨by first | rfl | simp only[seval,ax,xMA,xLA],by first | rfl | simp only[seval,ax,xMA,xLA]⟩
 refine regW.of ?_
 simp only[seval,ae,ah,w_eq,ag_58,sz_58]
 refine regA.two (j:=1) (k:=4) (by kernel_rfl) rfl rfl ?_ ?_
 refine regW.of ?_
 simp only[seval,ae,ah,w_eq,ag_58,sz_58]
 refine regA.two (j:=2) (k:=4) (by kernel_rfl) rfl rfl ?_ ?_
 refine regW.alt 0 rfl ?_
 simp only[seval,ae,ah,w_eq]
 refine aZ (k:=0) (es:=zA aa [y5.1,y6.1]) bh (by simp only[seval,ae,aE,sz_58,aC,(oL 6)]) (by decide) rfl (regW.of ?_)
 simp only[seval,ae,ah,w_eq,aE,sz_58,aC,(oL 6)]
 refine regA.assignB (j:=5) (by kernel_rfl) rfl rfl ?_
 simp only[seval,ae,ah,w_eq]
 refine regA.one (j:=4) (by kernel_rfl) rfl (regW.alt 0 rfl ?_)
 simp only[seval,ae,ah,w_eq]
 refine aZ (k:=1) (es:=zA aa [y5.1]) bh (by simp only[seval,ae,aE,sz_58,aC,(oL 3)]) (by decide) rfl (regW.of ?_)
 simp only[seval,ae,ah,w_eq,aE,sz_58,aC,(oL 3)]
 refine regA.assignB (j:=6) (by kernel_rfl) rfl rfl ?_
 simp only[seval,ae,ah,w_eq]
 exact regA.nil (by kernel_rfl) ⟨by first | rfl | simp only[seval,ax,xMA,xLA],by first | rfl | simp only[seval,ax,xMA,xLA]⟩
 refine regW.alt 0 rfl ?_
 simp only[seval,ae,ah,w_eq]
 refine aZ (k:=1) (es:=zA aa [y5.1]) bh (by simp only[seval,ae,aE,sz_58,aC,(oL 3)]) (by decide) rfl (regW.of ?_)
 simp only[seval,ae,ah,w_eq,aE,sz_58,aC,(oL 3)]
 refine regA.one (j:=2) (by kernel_rfl) rfl (regW.alt 0 rfl ?_)
 simp only[seval,ae,ah,w_eq]
 refine aZ (k:=0) (es:=zA aa [y5.1,y6.1]) bh (by simp only[seval,ae,aE,sz_58,aC,(oL 6)]) (by decide) rfl (regW.of ?_)
 simp only[seval,ae,ah,w_eq,aE,sz_58,aC,(oL 6)]
 refine regA.assignB (j:=5) (by kernel_rfl) rfl rfl ?_
 simp only[seval,ae,ah,w_eq]
 refine regA.assignB (j:=6) (by kernel_rfl) rfl rfl ?_
 simp only[seval,ae,ah,w_eq]
 exact regA.nil (by kernel_rfl) ⟨by first | rfl | simp only[seval,ax,xMA,xLA],by first | rfl | simp only[seval,ax,xMA,xLA]⟩
 refine regW.alt 0 rfl ?_
 simp only[seval,ae,ah,w_eq]
 refine aZ (k:=1) (es:=zA aa [y5.1]) bh (by simp only[seval,ae,aE,sz_58,aC,(oL 3)]) (by decide) rfl (regW.of ?_)
 simp only[seval,ae,ah,w_eq,aE,sz_58,aC,(oL 3)]
 refine regA.one (j:=1) (by kernel_rfl) rfl (regW.of ?_)
 simp only[seval,ae,ah,w_eq,ag_58,sz_58]
 refine regA.one (j:=2) (by kernel_rfl) rfl (regW.alt 0 rfl ?_)
 simp only[seval,ae,ah,w_eq]
 refine aZ (k:=0) (es:=zA aa [y5.1,y6.1]) bh (by simp only[seval,ae,aE,sz_58,aC,(oL 6)]) (by decide) rfl (regW.of ?_)
 simp only[seval,ae,ah,w_eq,aE,sz_58,aC,(oL 6)]
 refine regA.assignB (j:=5) (by kernel_rfl) rfl rfl ?_
 simp only[seval,ae,ah,w_eq]
 refine regA.assignB (j:=6) (by kernel_rfl) rfl rfl ?_
 simp only[seval,ae,ah,w_eq]
 exact regA.nil (by kernel_rfl) ⟨by first | rfl | simp only[seval,ax,xMA,xLA],by first | rfl | simp only[seval,ax,xMA,xLA]⟩
 refine regW.of ?_
 simp only[seval,ae,ah,w_eq,ag_58,sz_58]
 refine regA.two (j:=0) (k:=3) (by kernel_rfl) rfl rfl ?_ ?_
 refine regW.of ?_
 simp only[seval,ae,ah,w_eq,ag_58,sz_58]
 refine regA.two (j:=2) (k:=3) (by kernel_rfl) rfl rfl ?_ ?_
 refine regW.alt 0 rfl ?_
 simp only[seval,ae,ah,w_eq]
 refine aZ (k:=0) (es:=zA aa [y5.1,y6.1]) bh (by simp only[seval,ae,aE,sz_58,aC,(oL 6)]) (by decide) rfl (regW.of ?_)
 simp only[seval,ae,ah,w_eq,aE,sz_58,aC,(oL 6)]
 refine regA.assignB (j:=5) (by kernel_rfl) rfl rfl ?_
 simp only[seval,ae,ah,w_eq]
 refine regA.one (j:=3) (by kernel_rfl) rfl (regW.of ?_)
 simp only[seval,ae,ah,w_eq,ag_58,sz_58]
 refine regA.one (j:=4) (by kernel_rfl) rfl (regW.alt 0 rfl ?_)
 simp only[seval,ae,ah,w_eq]
 refine aZ (k:=1) (es:=zA aa [y5.1]) bh (by simp only[seval,ae,aE,sz_58,aC,(oL 3)]) (by decide) rfl (regW.of ?_)
 simp only[seval,ae,ah,w_eq,aE,sz_58,aC,(oL 3)]
 refine regA.assignB (j:=6) (by kernel_rfl) rfl rfl ?_
 simp only[seval,ae,ah,w_eq]
 exact regA.nil (by kernel_rfl) ⟨by first | rfl | simp only[seval,ax,xMA,xLA],by first | rfl | simp only[seval,ax,xMA,xLA]⟩
 refine regW.of ?_
 simp only[seval,ae,ah,w_eq,ag_58,sz_58]
 refine regA.two (j:=2) (k:=4) (by kernel_rfl) rfl rfl ?_ ?_
 refine regW.alt 0 rfl ?_
 simp only[seval,ae,ah,w_eq]
 refine aZ (k:=0) (es:=zA aa [y5.1,y6.1]) bh (by simp only[seval,ae,aE,sz_58,aC,(oL 6)]) (by decide) rfl (regW.of ?_)
 simp only[seval,ae,ah,w_eq,aE,sz_58,aC,(oL 6)]
 refine regA.assignB (j:=5) (by kernel_rfl) rfl rfl ?_
 simp only[seval,ae,ah,w_eq]
 refine regA.one (j:=4) (by kernel_rfl) rfl (regW.alt 0 rfl ?_)
 simp only[seval,ae,ah,w_eq]
 refine aZ (k:=1) (es:=zA aa [y5.1]) bh (by simp only[seval,ae,aE,sz_58,aC,(oL 3)]) (by decide) rfl (regW.of ?_)
 simp only[seval,ae,ah,w_eq,aE,sz_58,aC,(oL 3)]
 refine regA.assignB (j:=6) (by kernel_rfl) rfl rfl ?_
 simp only[seval,ae,ah,w_eq]
 exact regA.nil (by kernel_rfl) ⟨by first | rfl | simp only[seval,ax,xMA,xLA],by first | rfl | simp only[seval,ax,xMA,xLA]⟩
 refine regW.alt 0 rfl ?_
 simp only[seval,ae,ah,w_eq]
 refine aZ (k:=1) (es:=zA aa [y5.1]) bh (by simp only[seval,ae,aE,sz_58,aC,(oL 3)]) (by decide) rfl (regW.of ?_)
 simp only[seval,ae,ah,w_eq,aE,sz_58,aC,(oL 3)]
 refine regA.one (j:=2) (by kernel_rfl) rfl (regW.alt 0 rfl ?_)
 simp only[seval,ae,ah,w_eq]
 refine aZ (k:=0) (es:=zA aa [y5.1,y6.1]) bh (by simp only[seval,ae,aE,sz_58,aC,(oL 6)]) (by decide) rfl (regW.of ?_)
 simp only[seval,ae,ah,w_eq,aE,sz_58,aC,(oL 6)]
 refine regA.assignB (j:=5) (by kernel_rfl) rfl rfl ?_
 simp only[seval,ae,ah,w_eq]
 refine regA.assignB (j:=6) (by kernel_rfl) rfl rfl ?_
 simp only[seval,ae,ah,w_eq]
 exact regA.nil (by kernel_rfl) ⟨by first | rfl | simp only[seval,ax,xMA,xLA],by first | rfl | simp only[seval,ax,xMA,xLA]⟩
 refine regW.of ?_
 simp only[seval,ae,ah,w_eq,ag_58,sz_58]
 refine regA.two (j:=0) (k:=4) (by kernel_rfl) rfl rfl ?_ ?_
 refine regW.of ?_
 simp only[seval,ae,ah,w_eq,ag_58,sz_58]
 refine regA.two (j:=2) (k:=4) (by kernel_rfl) rfl rfl ?_ ?_
 refine regW.alt 0 rfl ?_
 simp only[seval,ae,ah,w_eq]
 refine aZ (k:=0) (es:=zA aa [y5.1,y6.1]) bh (by simp only[seval,ae,aE,sz_58,aC,(oL 6)]) (by decide) rfl (regW.of ?_)
 simp only[seval,ae,ah,w_eq,aE,sz_58,aC,(oL 6)]
 refine regA.assignB (j:=5) (by kernel_rfl) rfl rfl ?_
 simp only[seval,ae,ah,w_eq]
 refine regA.one (j:=4) (by kernel_rfl) rfl (regW.alt 0 rfl ?_)
 simp only[seval,ae,ah,w_eq]
 refine aZ (k:=1) (es:=zA aa [y5.1]) bh (by simp only[seval,ae,aE,sz_58,aC,(oL 3)]) (by decide) rfl (regW.of ?_)
 simp only[seval,ae,ah,w_eq,aE,sz_58,aC,(oL 3)]
 refine regA.assignB (j:=6) (by kernel_rfl) rfl rfl ?_
 simp only[seval,ae,ah,w_eq]
 exact regA.nil (by kernel_rfl) ⟨by first | rfl | simp only[seval,ax,xMA,xLA],by first | rfl | simp only[seval,ax,xMA,xLA]⟩
 refine regW.alt 0 rfl ?_
 simp only[seval,ae,ah,w_eq]
 refine aZ (k:=1) (es:=zA aa [y5.1]) bh (by simp only[seval,ae,aE,sz_58,aC,(oL 3)]) (by decide) rfl (regW.of ?_)
 simp only[seval,ae,ah,w_eq,aE,sz_58,aC,(oL 3)]
 refine regA.one (j:=2) (by kernel_rfl) rfl (regW.alt 0 rfl ?_)
 simp only[seval,ae,ah,w_eq]
 refine aZ (k:=0) (es:=zA aa [y5.1,y6.1]) bh (by simp only[seval,ae,aE,sz_58,aC,(oL 6)]) (by decide) rfl (regW.of ?_)
 simp only[seval,ae,ah,w_eq,aE,sz_58,aC,(oL 6)]
 refine regA.assignB (j:=5) (by kernel_rfl) rfl rfl ?_
 simp only[seval,ae,ah,w_eq]
 refine regA.assignB (j:=6) (by kernel_rfl) rfl rfl ?_
 simp only[seval,ae,ah,w_eq]
 exact regA.nil (by kernel_rfl) ⟨by first | rfl | simp only[seval,ax,xMA,xLA],by first | rfl | simp only[seval,ax,xMA,xLA]⟩
 refine regW.alt 0 rfl ?_
 simp only[seval,ae,ah,w_eq]
 refine aZ (k:=1) (es:=zA aa [y5.1]) bh (by simp only[seval,ae,aE,sz_58,aC,(oL 3)]) (by decide) rfl (regW.of ?_)
 simp only[seval,ae,ah,w_eq,aE,sz_58,aC,(oL 3)]
 refine regA.one (j:=0) (by kernel_rfl) rfl (regW.of ?_)
 simp only[seval,ae,ah,w_eq,ag_58,sz_58]
 refine regA.one (j:=2) (by kernel_rfl) rfl (regW.alt 0 rfl ?_)
 simp only[seval,ae,ah,w_eq]
 refine aZ (k:=0) (es:=zA aa [y5.1,y6.1]) bh (by simp only[seval,ae,aE,sz_58,aC,(oL 6)]) (by decide) rfl (regW.of ?_)
 simp only[seval,ae,ah,w_eq,aE,sz_58,aC,(oL 6)]
 refine regA.assignB (j:=5) (by kernel_rfl) rfl rfl ?_
 simp only[seval,ae,ah,w_eq]
 refine regA.assignB (j:=6) (by kernel_rfl) rfl rfl ?_
 simp only[seval,ae,ah,w_eq]
 exact regA.nil (by kernel_rfl) ⟨by first | rfl | simp only[seval,ax,xMA,xLA],by first | rfl | simp only[seval,ax,xMA,xLA]⟩
 refine regW.of ?_
 simp only[seval,ae,ah,w_eq,ag_58,sz_58]
 refine regA.three (j:=0) (k:=1) (l:=4) (by kernel_rfl) rfl rfl rfl ?_ ?_ ?_
 refine regW.of ?_
 simp only[seval,ae,ah,w_eq,ag_58,sz_58]
 refine regA.two (j:=1) (k:=4) (by kernel_rfl) rfl rfl ?_ ?_
 refine regW.of ?_
 simp only[seval,ae,ah,w_eq,ag_58,sz_58]
 refine regA.two (j:=2) (k:=4) (by kernel_rfl) rfl rfl ?_ ?_
 refine regW.alt 0 rfl ?_
 simp only[seval,ae,ah,w_eq]
 refine aZ (k:=0) (es:=zA aa [y5.1,y6.1]) bh (by simp only[seval,ae,aE,sz_58,aC,(oL 6)]) (by decide) rfl (regW.of ?_)
 simp only[seval,ae,ah,w_eq,aE,sz_58,aC,(oL 6)]
 refine regA.assignB (j:=5) (by kernel_rfl) rfl rfl ?_
 simp only[seval,ae,ah,w_eq]
 refine regA.one (j:=4) (by kernel_rfl) rfl (regW.alt 0 rfl ?_)
 simp only[seval,ae,ah,w_eq]
 refine aZ (k:=1) (es:=zA aa [y5.1]) bh (by simp only[seval,ae,aE,sz_58,aC,(oL 3)]) (by decide) rfl (regW.of ?_)
 simp only[seval,ae,ah,w_eq,aE,sz_58,aC,(oL 3)]
 refine regA.assignB (j:=6) (by kernel_rfl) rfl rfl ?_
 simp only[seval,ae,ah,w_eq]
 exact regA.nil (by kernel_rfl) ⟨by first | rfl | simp only[seval,ax,xMA,xLA],by first | rfl | simp only[seval,ax,xMA,xLA]⟩
 refine regW.alt 0 rfl ?_
 simp only[seval,ae,ah,w_eq]
 refine aZ (k:=1) (es:=zA aa [y5.1]) bh (by simp only[seval,ae,aE,sz_58,aC,(oL 3)]) (by decide) rfl (regW.of ?_)
 simp only[seval,ae,ah,w_eq,aE,sz_58,aC,(oL 3)]
 refine regA.one (j:=2) (by kernel_rfl) rfl (regW.alt 0 rfl ?_)
 simp only[seval,ae,ah,w_eq]
 refine aZ (k:=0) (es:=zA aa [y5.1,y6.1]) bh (by simp only[seval,ae,aE,sz_58,aC,(oL 6)]) (by decide) rfl (regW.of ?_)
 simp only[seval,ae,ah,w_eq,aE,sz_58,aC,(oL 6)]
 refine regA.assignB (j:=5) (by kernel_rfl) rfl rfl ?_
 simp only[seval,ae,ah,w_eq]
 refine regA.assignB (j:=6) (by kernel_rfl) rfl rfl ?_
 simp only[seval,ae,ah,w_eq]
 exact regA.nil (by kernel_rfl) ⟨by first | rfl | simp only[seval,ax,xMA,xLA],by first | rfl | simp only[seval,ax,xMA,xLA]⟩
 refine regW.alt 0 rfl ?_
 simp only[seval,ae,ah,w_eq]
 refine aZ (k:=1) (es:=zA aa [y5.1]) bh (by simp only[seval,ae,aE,sz_58,aC,(oL 3)]) (by decide) rfl (regW.of ?_)
 simp only[seval,ae,ah,w_eq,aE,sz_58,aC,(oL 3)]
 refine regA.one (j:=1) (by kernel_rfl) rfl (regW.of ?_)
 simp only[seval,ae,ah,w_eq,ag_58,sz_58]
 refine regA.one (j:=2) (by kernel_rfl) rfl (regW.alt 0 rfl ?_)
 simp only[seval,ae,ah,w_eq]
 refine aZ (k:=0) (es:=zA aa [y5.1,y6.1]) bh (by simp only[seval,ae,aE,sz_58,aC,(oL 6)]) (by decide) rfl (regW.of ?_)
 simp only[seval,ae,ah,w_eq,aE,sz_58,aC,(oL 6)]
 refine regA.assignB (j:=5) (by kernel_rfl) rfl rfl ?_
 simp only[seval,ae,ah,w_eq]
 refine regA.assignB (j:=6) (by kernel_rfl) rfl rfl ?_
 simp only[seval,ae,ah,w_eq]
 exact regA.nil (by kernel_rfl) ⟨by first | rfl | simp only[seval,ax,xMA,xLA],by first | rfl | simp only[seval,ax,xMA,xLA]⟩
 refine regW.of ?_
 simp only[seval,ae,ah,w_eq,ag_58,sz_58]
 refine regA.two (j:=0) (k:=4) (by kernel_rfl) rfl rfl ?_ ?_
 refine regW.of ?_
 simp only[seval,ae,ah,w_eq,ag_58,sz_58]
 refine regA.two (j:=2) (k:=4) (by kernel_rfl) rfl rfl ?_ ?_
 refine regW.alt 0 rfl ?_
 simp only[seval,ae,ah,w_eq]
 refine aZ (k:=0) (es:=zA aa [y5.1,y6.1]) bh (by simp only[seval,ae,aE,sz_58,aC,(oL 6)]) (by decide) rfl (regW.of ?_)
 simp only[seval,ae,ah,w_eq,aE,sz_58,aC,(oL 6)]
 refine regA.assignB (j:=5) (by kernel_rfl) rfl rfl ?_
 simp only[seval,ae,ah,w_eq]
 refine regA.one (j:=4) (by kernel_rfl) rfl (regW.alt 0 rfl ?_)
 simp only[seval,ae,ah,w_eq]
 refine aZ (k:=1) (es:=zA aa [y5.1]) bh (by simp only[seval,ae,aE,sz_58,aC,(oL 3)]) (by decide) rfl (regW.of ?_)
 simp only[seval,ae,ah,w_eq,aE,sz_58,aC,(oL 3)]
 refine regA.assignB (j:=6) (by kernel_rfl) rfl rfl ?_
 simp only[seval,ae,ah,w_eq]
 exact regA.nil (by kernel_rfl) ⟨by first | rfl | simp only[seval,ax,xMA,xLA],by first | rfl | simp only[seval,ax,xMA,xLA]⟩
 refine regW.alt 0 rfl ?_
 simp only[seval,ae,ah,w_eq]
 refine aZ (k:=1) (es:=zA aa [y5.1]) bh (by simp only[seval,ae,aE,sz_58,aC,(oL 3)]) (by decide) rfl (regW.of ?_)
 simp only[seval,ae,ah,w_eq,aE,sz_58,aC,(oL 3)]
 refine regA.one (j:=2) (by kernel_rfl) rfl (regW.alt 0 rfl ?_)
 simp only[seval,ae,ah,w_eq]
 refine aZ (k:=0) (es:=zA aa [y5.1,y6.1]) bh (by simp only[seval,ae,aE,sz_58,aC,(oL 6)]) (by decide) rfl (regW.of ?_)
 simp only[seval,ae,ah,w_eq,aE,sz_58,aC,(oL 6)]
 refine regA.assignB (j:=5) (by kernel_rfl) rfl rfl ?_
 simp only[seval,ae,ah,w_eq]
 refine regA.assignB (j:=6) (by kernel_rfl) rfl rfl ?_
 simp only[seval,ae,ah,w_eq]
 exact regA.nil (by kernel_rfl) ⟨by first | rfl | simp only[seval,ax,xMA,xLA],by first | rfl | simp only[seval,ax,xMA,xLA]⟩
 refine regW.alt 0 rfl ?_
 simp only[seval,ae,ah,w_eq]
 refine aZ (k:=1) (es:=zA aa [y5.1]) bh (by simp only[seval,ae,aE,sz_58,aC,(oL 3)]) (by decide) rfl (regW.of ?_)
 simp only[seval,ae,ah,w_eq,aE,sz_58,aC,(oL 3)]
 refine regA.one (j:=0) (by kernel_rfl) rfl (regW.of ?_)
 simp only[seval,ae,ah,w_eq,ag_58,sz_58]
 refine regA.one (j:=2) (by kernel_rfl) rfl (regW.alt 0 rfl ?_)
 simp only[seval,ae,ah,w_eq]
 refine aZ (k:=0) (es:=zA aa [y5.1,y6.1]) bh (by simp only[seval,ae,aE,sz_58,aC,(oL 6)]) (by decide) rfl (regW.of ?_)
 simp only[seval,ae,ah,w_eq,aE,sz_58,aC,(oL 6)]
 refine regA.assignB (j:=5) (by kernel_rfl) rfl rfl ?_
 simp only[seval,ae,ah,w_eq]
 refine regA.assignB (j:=6) (by kernel_rfl) rfl rfl ?_
 simp only[seval,ae,ah,w_eq]
 exact regA.nil (by kernel_rfl) ⟨by first | rfl | simp only[seval,ax,xMA,xLA],by first | rfl | simp only[seval,ax,xMA,xLA]⟩
 refine regW.alt 0 rfl ?_
 simp only[seval,ae,ah,w_eq]
 refine aZ (k:=1) (es:=zA aa [y5.1]) bh (by simp only[seval,ae,aE,sz_58,aC,(oL 3)]) (by decide) rfl (regW.of ?_)
 simp only[seval,ae,ah,w_eq,aE,sz_58,aC,(oL 3)]
 refine regA.two (j:=0) (k:=1) (by kernel_rfl) rfl rfl ?_ ?_
 refine regW.of ?_
 simp only[seval,ae,ah,w_eq,ag_58,sz_58]
 refine regA.one (j:=1) (by kernel_rfl) rfl (regW.of ?_)
 simp only[seval,ae,ah,w_eq,ag_58,sz_58]
 refine regA.one (j:=2) (by kernel_rfl) rfl (regW.alt 0 rfl ?_)
 simp only[seval,ae,ah,w_eq]
 refine aZ (k:=0) (es:=zA aa [y5.1,y6.1]) bh (by simp only[seval,ae,aE,sz_58,aC,(oL 6)]) (by decide) rfl (regW.of ?_)
 simp only[seval,ae,ah,w_eq,aE,sz_58,aC,(oL 6)]
 refine regA.assignB (j:=5) (by kernel_rfl) rfl rfl ?_
 simp only[seval,ae,ah,w_eq]
 refine regA.assignB (j:=6) (by kernel_rfl) rfl rfl ?_
 simp only[seval,ae,ah,w_eq]
 exact regA.nil (by kernel_rfl) ⟨by first | rfl | simp only[seval,ax,xMA,xLA],by first | rfl | simp only[seval,ax,xMA,xLA]⟩
 refine regW.of ?_
 simp only[seval,ae,ah,w_eq,ag_58,sz_58]
 refine regA.one (j:=0) (by kernel_rfl) rfl (regW.of ?_)
 simp only[seval,ae,ah,w_eq,ag_58,sz_58]
 refine regA.one (j:=2) (by kernel_rfl) rfl (regW.alt 0 rfl ?_)
 simp only[seval,ae,ah,w_eq]
 refine aZ (k:=0) (es:=zA aa [y5.1,y6.1]) bh (by simp only[seval,ae,aE,sz_58,aC,(oL 6)]) (by decide) rfl (regW.of ?_)
 simp only[seval,ae,ah,w_eq,aE,sz_58,aC,(oL 6)]
 refine regA.assignB (j:=5) (by kernel_rfl) rfl rfl ?_
 simp only[seval,ae,ah,w_eq]
 refine regA.assignB (j:=6) (by kernel_rfl) rfl rfl ?_
 simp only[seval,ae,ah,w_eq]
 exact regA.nil (by kernel_rfl) ⟨by first | rfl | simp only[seval,ax,xMA,xLA],by first | rfl | simp only[seval,ax,xMA,xLA]⟩
 refine mU e (.seqK (.seqK (.bind λs1 q5=>?_))) h
 replace q5:=jY q5
 simp only[zH,Int.reduceLT,Nat.sub_zero,dp0]at q5
 refine .region λe h=>?_
 simp only[seval,ae,ie,sz_91,q5,Nat.le_refl,and_true,true_and,dm,tm,al_ApiGrid2]
 refine mU e (Mir.joinO (λv5:(List ac)=>([U,U,U,U,U,U,U,U,U,U,.ptr 2 0,U,U,U,U,.d (.list (zA bf y7.1)),U,.ptr 5 0,.own 0 (zA aa v5),.own 1 (zA aa [y5.1])]++us 216)) (λv5=>⟨[(cE a0),[.d (.int .i64 (zI.wrap (81000+(zI.wrap (1000*(zI.wrap (zD a0.Code 3))))))),.d (.int .i64 (zI.wrap a0.R)),.d (.int .i64 (zI.wrap a0.Z)),.d (.int .i64 (zI.wrap a0.Q)),.d (.int .i64 (zI.wrap (1+(zI.wrap a0.Rate)))),.d (.int .i64 (zI.wrap ((zI.wrap a0.R)+(zI.wrap a0.Above)))),.d (.bool a0.High)],[.d (.int .i64 7),.d (.int .i64 (-9)),.d (.int .i64 (zI.wrap ((zI.wrap a0.R)+(zI.wrap a0.Above))))],(cJ y5.1),(cJ y6.1),[.d (.bool false),.full (zA ar [ay.mk 77 30000]),.d (.str [])]],[(58,v5.length),(58,([y5.1]:List _).length)]⟩) (λ_=>rfl) ?_ ?_) h
 refine .block (.guard λq6=>Mir.range (λ(i2:Nat) (v4:(List ac))=>([U,U,U,U,U,U,U,U,U,U,.ptr 2 0,U,U,U,U,.d (.list (zA bf y7.1)),U,.ptr 5 0,.own 0 (zA aa v4),.own 1 (zA aa [y5.1]),U,U,U,U,U,U,U,U,U,U,U,U,U,U,U,U,U,U,U,U,U,U,U,U,U,U,U,U,U,U,U,U,U,U,U,U,U,U,U,U,U,U,U,U,U,U,U,U,U,U,U,U,U,U,U,U,U,U,U,U,U,U,U,U,U,U,U,U,U,U,U,U,U,U,U,U,U,U,U,U,U,U,U,U,U,U,U,U,U,U,U,U,U,U,U,U,U,U,U,U,U,U,U,U,U,U,U,U,U,U,U,U,U,U,U,U,U,U,U,U,U,U,U,U,U,U,U,U,U,U,U,U,U,U,U,U,U,U,U,U,U,.d (.list (zA aW s1)),.d (.int .i64 (s1.length:Int)),.d (.int .i64 (i2:Int))]++us 72)) (λi2 v4=>⟨[(cE a0),[.d (.int .i64 (zI.wrap (81000+(zI.wrap (1000*(zI.wrap (zD a0.Code 3))))))),.d (.int .i64 (zI.wrap a0.R)),.d (.int .i64 (zI.wrap a0.Z)),.d (.int .i64 (zI.wrap a0.Q)),.d (.int .i64 (zI.wrap (1+(zI.wrap a0.Rate)))),.d (.int .i64 (zI.wrap ((zI.wrap a0.R)+(zI.wrap a0.Above)))),.d (.bool a0.High)],[.d (.int .i64 7),.d (.int .i64 (-9)),.d (.int .i64 (zI.wrap ((zI.wrap a0.R)+(zI.wrap a0.Above))))],(cJ y5.1),(cJ y6.1),[.d (.bool false),.full (zA ar [ay.mk 77 30000]),.d (.str [])]],[(58,v4.length),(58,([y5.1]:List _).length)]⟩) q6 (λ_ _=>rfl) (by simp only[seval,ax,zNI]) (by simp only[seval,ax,zNI]) ?_ ?_)
 intro i2 e3 v4 q7
 refine .sR λe h=>?_
 simp only[seval,ae,q7]
 refine mU e (.seqK (.condT rfl (.skip (Mir.toK (.seqK (.block (.sR λe h=>?_))))))) h
 simp only[seval,ae,ie,sz_91,q7,zF,ag_91,zero_91]
 refine mU e (.guard λq8=>.region λe h=>?_) h
 simp only[seval,ae,bE,sz_2,ag_2,bk,jO,ca,br,bP,(oL 4),aC,pl_58,aE,sz_58,(oL 3),bh,ba,q8]
 refine mU e (.region λe h=>?_) h
 simp only[seval,ae]
 cases h
 simp only[seval,ax,Tryz.results5,q7]
 intro v4 q9
 refine .sR λe h=>?_
 simp only[seval,ae,q9]
 refine mU e (.seqK (.condF rfl (.exit λe h=>?_))) h
 cases h
 simp only[seval,ax,Tryz.results5]
 intro v5
 refine Mir.toK (.sR λe h=>?_)
 simp only[seval,ae,ag_24,sz_24,bl]
 refine mU e (.seqK (.sR λe h=>?_)) h
 simp only[seval,ae,gS]
 refine mU e (Mir.join (λv7:(List ac)×ag=>([U,U,U,U,U,U,U,U,U,U,U,U,U,U,U,U,U,.ptr 5 0,.own 0 (zA aa v5),.own 1 (zA aa v7.1)]++us 216)) (λv7=>⟨[(cE a0),[.d (.int .i64 (zI.wrap (81000+(zI.wrap (1000*(zI.wrap (zD a0.Code 3))))))),.d (.int .i64 (zI.wrap a0.R)),.d (.int .i64 (zI.wrap a0.Z)),.d (.int .i64 (zI.wrap a0.Q)),.d (.int .i64 (zI.wrap (1+(zI.wrap a0.Rate)))),.d (.int .i64 (zI.wrap ((zI.wrap a0.R)+(zI.wrap a0.Above)))),.d (.bool a0.High)],[.d (.int .i64 7),.d (.int .i64 (-9)),.d (.int .i64 (zI.wrap ((zI.wrap a0.R)+(zI.wrap a0.Above))))],(cJ y5.1),(cJ y6.1),[.d (.bool false),.full (zA ar [ay.mk 77 30000]),.d (.str [])],(cH v7.2)],[(58,v5.length),(58,v7.1.length)]⟩) (λ_=>rfl) ?_ ?_) h
 refine .block (.guard λq10=>Mir.range (λ(i3:Nat) (v6:(List ac)×ag)=>([U,U,U,U,U,U,U,U,U,U,U,U,U,U,U,U,U,.ptr 5 0,.own 0 (zA aa v5),.own 1 (zA aa v6.1),U,U,.ptr 6 0,U,U,U,U,U,U,U,U,U,U,U,U,U,U,U,U,U,U,U,U,U,U,U,U,U,U,U,U,U,U,U,U,U,U,U,U,U,U,U,U,U,U,U,U,U,U,U,U,U,U,U,U,U,U,U,U,U,U,U,U,U,U,U,U,U,U,U,U,U,U,U,U,U,U,U,U,U,U,U,U,U,U,U,U,U,U,U,U,U,U,U,U,U,U,U,U,U,U,U,U,U,U,U,U,U,U,U,U,U,U,U,U,U,U,U,U,U,U,U,U,U,U,U,U,U,U,U,U,U,U,U,U,U,U,U,U,U,U,U,U,U,U,U,U,U,U,U,U,U,U,U,U,U,U,U,U,U,.d (.list (zA bf y7.1)),.d (.int .i64 (y7.1.length:Int)),.d (.int .i64 (i3:Int))]++us 53)) (λi3 v6=>⟨[(cE a0),[.d (.int .i64 (zI.wrap (81000+(zI.wrap (1000*(zI.wrap (zD a0.Code 3))))))),.d (.int .i64 (zI.wrap a0.R)),.d (.int .i64 (zI.wrap a0.Z)),.d (.int .i64 (zI.wrap a0.Q)),.d (.int .i64 (zI.wrap (1+(zI.wrap a0.Rate)))),.d (.int .i64 (zI.wrap ((zI.wrap a0.R)+(zI.wrap a0.Above)))),.d (.bool a0.High)],[.d (.int .i64 7),.d (.int .i64 (-9)),.d (.int .i64 (zI.wrap ((zI.wrap a0.R)+(zI.wrap a0.Above))))],(cJ y5.1),(cJ y6.1),[.d (.bool false),.full (zA ar [ay.mk 77 30000]),.d (.str [])],(cH v6.2)],[(58,v5.length),(58,v6.1.length)]⟩) q10 (λ_ _=>rfl) (by simp only[seval,ax,zNI]) (by simp only[seval,ax,zNI]) ?_ ?_)
 intro i3 e4 v6 q11
 refine .sR λe h=>?_
 simp only[seval,ae,q11]
 refine mU e (.seqK (.condT rfl (.skip (Mir.toK (.seqK (.block (.sR λe h=>?_))))))) h
 simp only[seval,ae,gS,sz_95,q11,zF,ag_95,fD]
 refine mU e (.seqK (.bind λy8 h11=>.region λe h=>?_)) h
 simp only[seval,ae,ag_24,sz_24,ag_95,sz_95]
 refine SpecS.by (jM h11) (by simp only[seval,ax]) ?_
 simp only[seval,ae,aC,sz_58]
 refine mU e (.seqK (.sR λe h=>?_)) h
 simp only[seval,ae]
 refine mU e (.cond rfl (λh12=>?_) (λh12=>?_)) h
 refine .sR λe h=>?_
 simp only[seval,ae]
 refine mU e (.ret λe h=>?_) h
 cases h
 simp only[seval,ax,Tryz.results5]
 refine .skip (Mir.toK (.seqK (.guard λq12=>.region λe h=>?_)))
 simp only[seval,ae,ag_58,sz_58,aE,aC,(oL 3),bh,ba,q12]
 refine mU e (.region λe h=>?_) h
 simp only[seval,ae,b9,sz_24,ag_24]
 refine mU e (.region λe h=>?_) h
 simp only[seval,ae]
 cases h
 simp only[seval,ax,Tryz.results5,q11]
 intro v6 q13
 refine .sR λe h=>?_
 simp only[seval,ae,q13]
 refine mU e (.seqK (.condF rfl (.exit λe h=>?_))) h
 cases h
 simp only[seval,ax,Tryz.results5]
 intro v7
 refine Mir.toK (.seqK (.guard λq14=>.bind λy9 h13=>.region λe h=>?_))
 simp only[seval,ae,ag_58,sz_58,aE,aC,(oL 3),bh,ba,q14,zero_38,pl_38,bl,pl_24]
 refine SpecS.by (gB h13) (by simp only[seval,ax]) ?_
 simp only[seval,ae,cq,sz_42]
 refine mU e (.seqK (.guard λq15=>.bind λy10 h14=>.region λe h=>?_)) h
 simp only[seval,ae,ag_58,sz_58,aE,aC,(oL 3),bh,ba,q15,zero_38,pl_38,bl,pl_24]
 refine SpecS.by (gB h14) (by simp only[seval,ax]) ?_
 simp only[seval,ae,cq,sz_42]
 refine mU e (.seqK (Mir.joinO (λv8:Bool=>([U,U,U,U,.d (.bool v8)]++us 231)) (λv8=>⟨[(cE a0),[.d (.int .i64 (zI.wrap (81000+(zI.wrap (1000*(zI.wrap (zD a0.Code 3))))))),.d (.int .i64 (zI.wrap a0.R)),.d (.int .i64 (zI.wrap a0.Z)),.d (.int .i64 (zI.wrap a0.Q)),.d (.int .i64 (zI.wrap (1+(zI.wrap a0.Rate)))),.d (.int .i64 (zI.wrap ((zI.wrap a0.R)+(zI.wrap a0.Above)))),.d (.bool a0.High)],[.d (.int .i64 7),.d (.int .i64 (-9)),.d (.int .i64 (zI.wrap ((zI.wrap a0.R)+(zI.wrap a0.Above))))],(cJ y5.1),(cJ y6.1),[.d (.bool false),.full (zA ar [ay.mk 77 30000]),.d (.str [])],(cH v7.2),(cO y9.2),(cO y10.2)],[(58,v5.length+1),(58,v7.1.length+1)]⟩) (λ_=>rfl) ?_ ?_)) h
 refine .ite (λh15=>?_) (λh15=>?_)
 refine .ite (λh16=>?_) (λh16=>?_)
 refine .bind λy11 h17=>.bind λy12 h18=>.bind λy13 h19=>.region λe h=>?_
 simp only[seval,ae,ag_42,sz_42,cq,pl_42,gE_42,h15,h16]
 refine SpecS.by (jj h17) (by simp only[seval,ax,h15,h16]) ?_
 simp only[seval,ae,h15,h16]
 refine SpecS.by (jj h18) (by simp only[seval,ax,h15,h16]) ?_
 simp only[seval,ae,h15,h16]
 refine SpecS.by (dx h19) (by simp only[seval,ax,h15,h16]) ?_
 simp only[seval,ae,h15,h16]
 cases h
 simp only[seval,ax,h15,h16]
 refine .region λe h=>?_
 simp only[seval,ae,ag_42,sz_42,cq,pl_42,gE_42,h15,h16]
 cases h
 simp only[seval,ax,h15,h16]
 refine .region λe h=>?_
 simp only[seval,ae,ag_42,sz_42,cq,pl_42,gE_42,h15]
 cases h
 simp only[seval,ax,h15]
 intro v8
 refine Mir.toK (.ret λe h=>?_)
 cases h
 simp only[seval,ax,Tryz.results5]
theorem co_5:Tryz.prog.cellsOf 5=1:=by kernel_rfl
theorem opn_5:Opn Tryz.prog 5 (eInt .u8) (inInt .u8):=Opn.int Tryz.underlying5
theorem co_80:Tryz.prog.cellsOf 80=1:=by kernel_rfl
theorem opn_80:Opn Tryz.prog 80 (eInt .i16) (inInt .i16):=Opn.int Tryz.underlying80
theorem co_81:Tryz.prog.cellsOf 81=1:=by kernel_rfl
theorem opn_81:Opn Tryz.prog 81 (eInt .u16) (inInt .u16):=Opn.int Tryz.underlying81
theorem co_4:Tryz.prog.cellsOf 4=1:=by kernel_rfl
theorem opn_4:Opn Tryz.prog 4 eBool inBool:=Opn.bool Tryz.underlying4
def ip(x:cZ):Prop:=(inInt .u8) x.Code∧(inInt .u8) x.Rate∧(inInt .i16) x.R∧(inInt .i16) x.Z∧(inInt .u16) x.Q∧(inInt .u8) x.Above∧inBool x.High
theorem co_83:Tryz.prog.cellsOf 83=7:=by kernel_rfl
theorem opn_83:Opn Tryz.prog 83 eF ip:=by
 intro w H enc fuel cs x h
 obtain⟨xs,n,_,_,hl,hxl,hf⟩:=DataW.trod_struct Tryz.underlying83 h
 have hxl':xs.length=7:=hxl
 obtain⟨s0,r0,o0⟩:=Opn.field hf 0 5 0 1 rfl co_5 (by omega) opn_5
 obtain⟨s1,r1,o1⟩:=Opn.field hf 1 5 1 1 rfl co_5 (by omega) opn_5
 obtain⟨s2,r2,o2⟩:=Opn.field hf 2 80 2 1 rfl co_80 (by omega) opn_80
 obtain⟨s3,r3,o3⟩:=Opn.field hf 3 80 3 1 rfl co_80 (by omega) opn_80
 obtain⟨s4,r4,o4⟩:=Opn.field hf 4 81 4 1 rfl co_81 (by omega) opn_81
 obtain⟨s5,r5,o5⟩:=Opn.field hf 5 5 5 1 rfl co_5 (by omega) opn_5
 obtain⟨s6,r6,o6⟩:=Opn.field hf 6 4 6 1 rfl co_4 (by omega) opn_4
 refine⟨⟨s0,s1,s2,s3,s4,s5,s6⟩,?_,o0,o1,o2,o3,o4,o5,o6⟩
 exact (RelC.cut 0 1 r0 rfl (RelC.cut 1 1 r1 rfl (RelC.cut 2 1 r2 rfl (RelC.cut 3 1 r3 rfl (RelC.cut 4 1 r4 rfl (RelC.cut 5 1 r5 rfl (RelC.cut 6 1 r6 rfl (RelC.nil (n:=7) (by rw[hl,co_83];exact Nat.le_refl _)))))))))
theorem co_2:Tryz.prog.cellsOf 2=1:=by kernel_rfl
theorem opn_2:Opn Tryz.prog 2 (eInt .i64) (inInt .i64):=Opn.int Tryz.underlying2
def inApiGrid2(x:aG):Prop:=(inInt .i64) x.X∧(inInt .i64) x.Y
theorem co_91:Tryz.prog.cellsOf 91=2:=by kernel_rfl
theorem opn_91:Opn Tryz.prog 91 aW inApiGrid2:=by
 intro w H enc fuel cs x h
 obtain⟨xs,n,_,_,hl,hxl,hf⟩:=DataW.trod_struct Tryz.underlying91 h
 have hxl':xs.length=2:=hxl
 obtain⟨s0,r0,o0⟩:=Opn.field hf 0 2 0 1 rfl co_2 (by omega) opn_2
 obtain⟨s1,r1,o1⟩:=Opn.field hf 1 2 1 1 rfl co_2 (by omega) opn_2
 refine⟨⟨s0,s1⟩,?_,o0,o1⟩
 exact (RelC.cut 0 1 r0 rfl (RelC.cut 1 1 r1 rfl (RelC.nil (n:=2) (by rw[hl,co_91];exact Nat.le_refl _))))
theorem opn_84:Opn Tryz.prog 84 (eList aW) (inList inApiGrid2):=Opn.slice Tryz.underlying84 opn_91 (λ_=>(rfl:_=2).trans co_91.symm) (by rw[co_91];decide)
end Go.Proofs.YtplhejpjnfjopaaGreatDoor
