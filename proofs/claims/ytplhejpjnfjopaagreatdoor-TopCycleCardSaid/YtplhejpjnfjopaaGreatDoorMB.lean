import Derived.Test.YtplhejpjnfjopaaGreatDoorMBb
open List renaming map → zA,replicate → zB,length → zD
open Int renaming toNat_natCast → zE,tdiv → zF
open Go.IntKind renaming i64 → zH
namespace Go.Proofs.YtplhejpjnfjopaaGreatDoor
open Go.RowKit
open Nat renaming reduceAdd → nA,reduceSub → nS,reduceMul → nM,reduceEqDiff → nE,reduceLeDiff → nL,reduceLT → nT,reduceBEq → nB
open Int renaming reduceLT → iT,reduceToNat → iN,reduceEq → iE
set_option linter.unusedVariables false
set_option linter.unusedSimpArgs false
set_option maxRecDepth 100000
set_option maxHeartbeats 8000000
def kY(a0:ag)(a1:au):Option ((List ag)×Int):=bindO (cl a0 a1) λ(y1:Int×Int)=>if (y1.2 != 0)=true then some ([],y1.2)else bindO (cV a0 a1.Center) λ(y2:Int×Int)=>bindO (gz (zH.wrap y2.2)) λ(y3:Int)=>if (decide ((zH.wrap (y3*y1.1))>20000))=true then some ([],3)else bindO (loopX (λ(v1:(List ag)×Int)=>if (decide (v1.2<y1.1))=true then bindO (loopX (λ(v2:(List ag)×Int)=>if (decide (v2.2≤y3))=true then aF (!((zH.wrap ((zH.wrap (y3*y3))+(zH.wrap (v2.2*v2.2))))==0)) ( aF (!((zH.wrap ((zH.wrap (y3*y3))+(zH.wrap (v2.2*v2.2))))==0)) ( bindO (if (a1.Kind==3)=true then bindO (fq (zH.wrap (zF (zH.wrap ((zH.wrap y2.2)*(zH.wrap ((zH.wrap (y3*y3))-(zH.wrap (v2.2*v2.2)))))) (zH.wrap ((zH.wrap (y3*y3))+(zH.wrap (v2.2*v2.2)))))) (zH.wrap (0-(zH.wrap (zF (zH.wrap ((zH.wrap ((zH.wrap (2*(zH.wrap y2.2)))*v2.2))*y3)) (zH.wrap ((zH.wrap (y3*y3))+(zH.wrap (v2.2*v2.2)))))))) (zH.wrap ((zH.wrap (y2.1-v1.2))+4))) λ(y4:Int×Int)=>some (y4.1,y4.2)else bindO (fq (zH.wrap (zF (zH.wrap ((zH.wrap y2.2)*(zH.wrap ((zH.wrap (y3*y3))-(zH.wrap (v2.2*v2.2)))))) (zH.wrap ((zH.wrap (y3*y3))+(zH.wrap (v2.2*v2.2)))))) (zH.wrap (zF (zH.wrap ((zH.wrap ((zH.wrap (2*(zH.wrap y2.2)))*v2.2))*y3)) (zH.wrap ((zH.wrap (y3*y3))+(zH.wrap (v2.2*v2.2)))))) (zH.wrap (y2.1+v1.2))) λ(y5:Int×Int)=>some (y5.1,y5.2)) λ(v3:Int×Int)=>bindO (ja (zH.wrap ((zH.wrap (a1.To.Z-a0.Z))*(zH.wrap ((v2.1.length:Int)+1)))) (zH.wrap (y3*y1.1))) λ(y6:Int)=>aF (okLen (v2.1.length+1)) ( some (.go (v2.1++[ag.mk (zH.wrap (a1.Center.X+v3.1)) (zH.wrap (a1.Center.Y+v3.2)) (zH.wrap (a0.Z+y6))],zH.wrap (v2.2+1))))))else some (.ret v2.1)) fuel (v1.1,1)) λ(v4:(List ag))=>some (.go (v4,zH.wrap (v1.2+1)))else some (.ret v1.1)) fuel ([],0)) λ(v5:(List ag))=>some (v5,0)
theorem ip_Arc_spec{a0:ag}{a1:au}{y:(List ag)×Int}(h:kY a0 a1=some y):Spec gP 112 [.agg (cH a0),.agg (cB a1)] (.tuple [.d (.list (zA di y.1)),.d (.int .i64 y.2)]):=by
 refine aB Tryz.func112 rfl (by kernel_rfl) (by kernel_rfl) (λy:(List ag)×Int=>.tuple [.d (.list (zA di y.1)),.d (.int .i64 y.2)]) ?_ h
 unfold kY
 simp only[zB,zD,nS,nA,Tryz.ntmps112,SV]
 refine .sR λe h=>?_
 simp only[seval,EMB]
 refine mU e (.seqK (.bind λy1 hy1=>.region λe h=>?_)) h
 simp only[seval,EMB,ag_24,sz_24,ag_95,sz_95]
 refine SpecS.by (ip_Quarters_spec hy1) (by simp only[seval,FMB]) ?_
 simp only[seval,EMB]
 refine mU e (.seqK (.sR λe h=>?_)) h
 simp only[seval,EMB]
 refine mU e (.cond rfl (λhb3=>?_) (λhb3=>?_)) h
 refine .sR λe h=>?_
 simp only[seval,EMB]
 refine mU e (.ret λe h=>?_) h
 cases h
 simp only[seval,FMB,Tryz.results112]
 refine .skip (Mir.toK (.seqK (.bind λy2 hy4=>.region λe h=>?_)))
 simp only[seval,EMB,ag_24,sz_24,dM,sz_91,ag_91]
 refine SpecS.by (dJ hy4) (by simp only[seval,FMB]) ?_
 simp only[seval,EMB]
 refine mU e (.sR λe h=>?_) h
 simp only[seval,EMB,und_196,und_2]
 refine mU e (.seqK (.bind λy3 hy5=>.region λe h=>?_)) h
 simp only[seval,EMB]
 refine SpecS.by (ip_Chords_spec hy5) (by simp only[seval,FMB]) ?_
 simp only[seval,EMB]
 refine mU e (.sR λe h=>?_) h
 simp only[seval,EMB]
 refine mU e (.seqK (.sR λe h=>?_)) h
 simp only[seval,EMB]
 refine mU e (.cond rfl (λhb7=>?_) (λhb7=>?_)) h
 refine .sR λe h=>?_
 simp only[seval,EMB]
 refine mU e (.ret λe h=>?_) h
 cases h
 simp only[seval,FMB,Tryz.results112]
 refine .skip (Mir.toK (.sR λe h=>?_))
 simp only[seval,EMB]
 refine mU e (.seqK (.sR λe h=>?_)) h
 simp only[seval,EMB]
 refine mU e (.gh [.slot 13 24] rfl (Mir.joinO (λv5:(List ag)=>([U,U,U,U,U,U,U,U,U,U,U,U,U,.own 0 (zA di v5)]++us 125)) (λv5=>⟨[(cH a0),(cB a1)],[(24,v5.length)]⟩) (λ_=>rfl) ?_ ?_)) h
 refine .block (Mir.loop (λv1:(List ag)×Int=>([U,U,.ptr 0 0,.ptr 1 0,U,U,U,U,.d (.int .i64 y2.1),U,.d (.int .i64 (zH.wrap y2.2)),.d (.int .i64 y3),.d (.int .i64 (zH.wrap (y3*y1.1))),.own 0 (zA di v1.1),U,U,U,U,U,U,U,U,U,U,U,U,U,U,U,U,U,U,U,U,U,U,U,U,U,U,U,U,U,U,.d (.int .i64 y1.1),.d (.int .i64 v1.2)]++us 93)) (λv1=>⟨[(cH a0),(cB a1)],[(24,v1.1.length)]⟩) (λ_=>rfl) (by simp only[seval,FMB]) (by simp only[seval,FMB]) λv1=>.sR λe h=>?_)
 simp only[seval,EMB]
 refine mU e (.seqK (.cond rfl (λh1=>?_) (λh1=>?_))) h
 refine .skip (Mir.toK (.seqK (Mir.joinO (λv4:(List ag)=>([U,U,.ptr 0 0,.ptr 1 0,U,U,U,U,.d (.int .i64 y2.1),U,.d (.int .i64 (zH.wrap y2.2)),.d (.int .i64 y3),.d (.int .i64 (zH.wrap (y3*y1.1))),.own 0 (zA di v4),U,U,U,U,U,U,U,U,U,U,U,U,U,U,U,U,U,U,U,U,U,U,U,U,U,U,U,U,U,U,.d (.int .i64 y1.1),.d (.int .i64 v1.2)]++us 93)) (λv4=>⟨[(cH a0),(cB a1)],[(24,v4.length)]⟩) (λ_=>rfl) ?_ ?_)))
 refine .block (.sR λe h=>?_)
 simp only[seval,EMB]
 refine mU e (.sR λe h=>?_) h
 simp only[seval,EMB]
 refine mU e (.block (Mir.loop (λv2:(List ag)×Int=>([U,U,.ptr 0 0,.ptr 1 0,U,U,U,U,.d (.int .i64 y2.1),U,.d (.int .i64 (zH.wrap y2.2)),.d (.int .i64 y3),.d (.int .i64 (zH.wrap (y3*y1.1))),.own 0 (zA di v2.1),.d (.int .i64 v1.2),.d (.int .i64 v2.2),U,U,U,U,U,U,U,U,U,U,U,U,U,U,U,U,U,U,U,U,U,U,U,U,U,U,U,U,.d (.int .i64 y1.1),.d (.int .i64 v1.2)]++us 93)) (λv2=>⟨[(cH a0),(cB a1)],[(24,v2.1.length)]⟩) (λ_=>rfl) (by simp only[seval,FMB]) (by simp only[seval,FMB]) λv2=>.seqK (.sR λe h=>?_))) h
 simp only[seval,EMB]
 refine mU e (.cond rfl (λh2=>?_) (λh2=>?_)) h
 refine .skip (Mir.toK (.seqK (.block (.seqK (.guard λq1=>?_)))))
 replace q1:=ne_of q1
 refine .guard λq2=>?_
 replace q2:=ne_of q2
 refine .regionD [] (by kernel_rfl) λe h=>?_
 simp only[seval,EMB,SB,q1,q2]
 refine mU e (.seqK (.sR λe h=>?_)) h
 simp only[seval,EMB,db,sz_3,ag_3]
 refine mU e (Mir.joinO (λv3:Int×Int=>([U,U,.ptr 0 0,.ptr 1 0,U,U,U,U,.d (.int .i64 y2.1),U,.d (.int .i64 (zH.wrap y2.2)),.d (.int .i64 y3),.d (.int .i64 (zH.wrap (y3*y1.1))),.own 0 (zA di v2.1),.d (.int .i64 v1.2),.d (.int .i64 v2.2),.d (.int .i64 v3.1),.d (.int .i64 v3.2),U,U,U,U,U,U,U,U,U,U,U,U,U,U,U,U,U,U,U,U,U,U,U,U,U,U,.d (.int .i64 y1.1),.d (.int .i64 v1.2)]++us 93)) (λv3=>⟨[(cH a0),(cB a1)],[(24,v2.1.length)]⟩) (λ_=>rfl) ?_ ?_) h
 refine .cond rfl (λh3=>?_) (λh3=>?_)
 refine .bind λy4 h4=>.region λe h=>?_
 simp only[seval,EMB]
 refine SpecS.by (kX h4) (by simp only[seval,FMB]) ?_
 simp only[seval,EMB]
 cases h
 simp only[seval,FMB,Tryz.results112]
 refine .bind λy5 h5=>.region λe h=>?_
 simp only[seval,EMB]
 refine SpecS.by (kX h5) (by simp only[seval,FMB]) ?_
 simp only[seval,EMB]
 cases h
 simp only[seval,FMB,Tryz.results112]
 intro v3
 refine Mir.toK (.sR λe h=>?_)
 simp only[seval,EMB,gq]
 refine mU e (.bind λy6 h6=>.guard λq3=>.regionD [] (by kernel_rfl) λe h=>?_) h
 simp only[seval,EMB,SB,dM,sz_91,bE,sz_2,ag_2,ca,cv,b9,sz_24]
 refine Spec.by (ip_floor_spec h6) (by simp only[seval,FMB]) ?_
 simp only[seval,EMB,SB,bl,pl_24,gq,sz_24,(oL 3),app_110,al_ApiPos,q3]
 refine mU e (.region λe h=>?_) h
 simp only[seval,EMB]
 cases h
 simp only[seval,FMB,Tryz.results112]
 refine .exit λe h=>?_
 cases h
 simp only[seval,FMB,Tryz.results112]
 intro v4
 refine Mir.toK (.region λe h=>?_)
 simp only[seval,EMB]
 cases h
 simp only[seval,FMB,Tryz.results112]
 refine .exit λe h=>?_
 cases h
 simp only[seval,FMB,Tryz.results112]
 intro v5
 refine Mir.toK (.sR λe h=>?_)
 simp only[seval,EMB]
 refine mU e (.ret λe h=>?_) h
 cases h
 simp only[seval,FMB,Tryz.results112]
def jT(a0:am)(a1:ac)(a2:ag)(a3:ag):Option ((List aq)×Int):=bindO (il a1 73) λ(y1:Int)=>bindO (il a1 74) λ(y2:Int)=>bindO (if (a0.Motion==3000)=true then some 4 else some 3) λ(v1:Int)=>bindO (kY a2 (au.mk v1 a3 (aG.mk (zH.wrap (a2.X+y1)) (zH.wrap (a2.Y+y2))) a0.Feed)) λ(y3:(List ag)×Int)=>bindO (aF (okIdx y3.1) ( aU (λ(i1:Nat) (e1:ag) (v2:(List aq))=>aF (okLen (v2.length+1)) ( some (.go (v2++[aq.mk e1 a0.Feed])))) (λ(v2:(List aq))=>some v2) y3.1 0 [])) λ(v3:(List aq))=>some (v3,y3.2)
theorem inp_arc_spec{a0:am}{a1:ac}{a2:ag}{a3:ag}{y:(List aq)×Int}(h:jT a0 a1 a2 a3=some y):Spec gP 148 [.agg (cA a0),.agg (cJ a1),.agg (cH a2),.agg (cH a3)] (.tuple [.d (.list (zA aO y.1)),.d (.int .i64 y.2)]):=by
 refine aB Tryz.func148 rfl (by kernel_rfl) (by kernel_rfl) (λy:(List aq)×Int=>.tuple [.d (.list (zA aO y.1)),.d (.int .i64 y.2)]) ?_ h
 unfold jT
 simp only[zB,zD,nS,nA,Tryz.ntmps148,SV]
 refine .sR λe h=>?_
 simp only[seval,EMB]
 refine mU e (.seqK (.bind λy1 hy1=>.bind λy2 hy2=>.regionD [] (by kernel_rfl) λe h=>?_)) h
 simp only[seval,EMB,SB,ag_24,sz_24,bG,sz_2,ag_2,ag_58,sz_58]
 refine Spec.by (kZ hy1) (by simp only[seval,FMB]) ?_
 simp only[seval,EMB,SB,bM,sz_2,ag_2,ag_58,sz_58]
 refine Spec.by (kZ hy2) (by simp only[seval,FMB]) ?_
 simp only[seval,EMB,SB,zero_91,pl_91,iw,sz_2,ag_2,fD,pl_95,sz_95]
 refine mU e (.seqK (.sR λe h=>?_)) h
 simp only[seval,EMB,cc,sz_2,ag_2]
 refine mU e (Mir.joinO (λv1:Int=>([U,U,U,U,.ptr 0 0,U,.ptr 2 0,U,U,U,.ptr 4 0]++us 46)) (λv1=>⟨[(cA a0),(cJ a1),(cH a2),(cH a3),[.d (.int .i64 v1),.d (.int .i64 a3.X),.d (.int .i64 a3.Y),.d (.int .i64 a3.Z),.d (.int .i64 (zH.wrap (a2.X+y1))),.d (.int .i64 (zH.wrap (a2.Y+y2))),.d (.int .i64 a0.Feed)]],[]⟩) (λ_=>rfl) ?_ ?_) h
 refine .cond rfl (λhb4=>?_) (λhb4=>?_)
 refine .region λe h=>?_
 simp only[seval,EMB,db,sz_3]
 cases h
 simp only[seval,FMB,Tryz.results148]
 refine .skip λe h=>?_
 cases h
 simp only[seval,FMB,Tryz.results148]
 intro v1
 refine Mir.toK (.seqK (.bind λy3 hy5=>.region λe h=>?_))
 simp only[seval,EMB,ag_24,sz_24,ag_95,sz_95]
 refine SpecS.by (ip_Arc_spec hy5) (by simp only[seval,FMB]) ?_
 simp only[seval,EMB]
 refine mU e (.sR λe h=>?_) h
 simp only[seval,EMB]
 refine mU e (.seqK (.sR λe h=>?_)) h
 simp only[seval,EMB,gq]
 refine mU e (.gh [.slot 13 193] rfl (Mir.joinO (λv3:(List aq)=>([U,U,U,U,U,U,U,U,U,U,U,U,.d (.int .i64 y3.2),.own 0 (zA aO v3)]++us 43)) (λv3=>⟨[(cA a0),(cJ a1),(cH a2),(cH a3),[.d (.int .i64 v1),.d (.int .i64 a3.X),.d (.int .i64 a3.Y),.d (.int .i64 a3.Z),.d (.int .i64 (zH.wrap (a2.X+y1))),.d (.int .i64 (zH.wrap (a2.Y+y2))),.d (.int .i64 a0.Feed)]],[(193,v3.length)]⟩) (λ_=>rfl) ?_ ?_)) h
 refine .block (.guard λqg70=>Mir.range (λ(i1:Nat) (v2:(List aq))=>([U,U,U,U,.ptr 0 0,U,U,U,U,U,U,U,.d (.int .i64 y3.2),.own 0 (zA aO v2),U,U,U,U,U,U,U,U,U,U,U,U,U,U,U,U,U,U,U,U,U,U,U,U,U,U,U,.d (.list (zA di y3.1)),.d (.int .i64 (y3.1.length:Int)),.d (.int .i64 (i1:Int))]++us 13)) (λi1 v2=>⟨[(cA a0),(cJ a1),(cH a2),(cH a3),[.d (.int .i64 v1),.d (.int .i64 a3.X),.d (.int .i64 a3.Y),.d (.int .i64 a3.Z),.d (.int .i64 (zH.wrap (a2.X+y1))),.d (.int .i64 (zH.wrap (a2.Y+y2))),.d (.int .i64 a0.Feed)]],[(193,v2.length)]⟩) qg70 (λ_ _=>rfl) (by simp only[seval,FMB,zNI]) (by simp only[seval,FMB,zNI]) ?_ ?_)
 intro i1 e1 v2 qr68
 refine .sR λe h=>?_
 simp only[seval,EMB,qr68]
 refine mU e (.seqK (.condT rfl (.skip (Mir.toK (.seqK (.block (.sR λe h=>?_))))))) h
 simp only[seval,EMB,gq,sz_24,qr68,zE,ag_24,bl]
 refine mU e (.guard λq72=>.region λe h=>?_) h
 simp only[seval,EMB,ag_24,sz_24,iw,sz_2,ag_2,zero_193,pl_193,und_189,sz_193,(oL 4),app_189,fB,q72]
 refine mU e (.region λe h=>?_) h
 simp only[seval,EMB]
 cases h
 simp only[seval,FMB,Tryz.results148,qr68]
 intro v2 qd69
 refine .sR λe h=>?_
 simp only[seval,EMB,qd69]
 refine mU e (.seqK (.condF rfl (.exit λe h=>?_))) h
 cases h
 simp only[seval,FMB,Tryz.results148]
 intro v3
 refine Mir.toK (.sR λe h=>?_)
 simp only[seval,EMB]
 refine mU e (.ret λe h=>?_) h
 cases h
 simp only[seval,FMB,Tryz.results148]
def da(a0:am)(a1:ak)(a2:ac)(a3:ag):Option ((List aq)×ak×Int):=bindO (eX a0 (ac.mk a2.Skip a2.Words a2.Comment) a3) λ(y1:ag)=>if (a0.Motion==0)=true then some ([aq.mk y1 0],ak.mk 0 0 0 0 0 0 false,0)else if (a0.Motion==1000)=true then some ([aq.mk y1 a0.Feed],ak.mk 0 0 0 0 0 0 false,0)else bindO (dj a0.Motion) λ(y2:Bool)=>if y2=true then bindO (eg (am.mk a0.Motion a0.Distance a0.Work a0.Length a0.Return a0.Feed a0.Tool a0.Offset) (ak.mk a1.Code a1.R a1.Z a1.Q a1.Rate a1.Initial a1.High) a2 a3 y1) λ(y3:(List aq)×ak×Int)=>some (y3.1,y3.2.1,y3.2.2)else bindO (jT (am.mk a0.Motion a0.Distance a0.Work a0.Length a0.Return a0.Feed a0.Tool a0.Offset) (ac.mk a2.Skip a2.Words a2.Comment) a3 y1) λ(y4:(List aq)×Int)=>some (y4.1,ak.mk 0 0 0 0 0 0 false,y4.2)
theorem inp_positions_spec{a0:am}{a1:ak}{a2:ac}{a3:ag}{y:(List aq)×ak×Int}(h:da a0 a1 a2 a3=some y):Spec gP 103 [.agg (cA a0),.agg (cC a1),.agg (cJ a2),.agg (cH a3)] (.tuple [.d (.list (zA aO y.1)),.agg [.d (.int .i64 y.2.1.Code),.d (.int .i64 y.2.1.R),.d (.int .i64 y.2.1.Z),.d (.int .i64 y.2.1.Q),.d (.int .i64 y.2.1.Rate),.d (.int .i64 y.2.1.Initial),.d (.bool y.2.1.High)],.d (.int .i64 y.2.2)]):=by
 refine aB Tryz.func103 rfl (by kernel_rfl) (by kernel_rfl) (λy:(List aq)×ak×Int=>.tuple [.d (.list (zA aO y.1)),.agg [.d (.int .i64 y.2.1.Code),.d (.int .i64 y.2.1.R),.d (.int .i64 y.2.1.Z),.d (.int .i64 y.2.1.Q),.d (.int .i64 y.2.1.Rate),.d (.int .i64 y.2.1.Initial),.d (.bool y.2.1.High)],.d (.int .i64 y.2.2)]) ?_ h
 unfold da
 simp only[zB,zD,nS,nA,Tryz.ntmps103,SV]
 refine .sR λe h=>?_
 simp only[seval,EMB,bH]
 refine mU e (.seqK (.bind λy1 hy1=>.region λe h=>?_)) h
 simp only[seval,EMB,bp,aS,ag_58,sz_58,ag_24,sz_24]
 refine SpecS.by (inp_target_spec hy1) (by simp only[seval,FMB]) ?_
 simp only[seval,EMB,bl,sz_24]
 refine mU e (.seqK (.block (.sR λe h=>?_))) h
 simp only[seval,EMB,cc,sz_2,ag_2]
 refine mU e (.cond rfl (λhb12=>?_) (λhb12=>?_)) h
 refine .sR λe h=>?_
 simp only[seval,EMB,ag_24,sz_24,zero_193,pl_193,und_189,sz_193,(oL 4),bH,pl_86,sz_86]
 refine mU e (.ret λe h=>?_) h
 cases h
 simp only[seval,FMB,Tryz.results103,ag_86,sz_86]
 refine .sR λe h=>?_
 simp only[seval,EMB,cc,sz_2,ag_2]
 refine mU e (.cond rfl (λhb17=>?_) (λhb17=>?_)) h
 refine .sR λe h=>?_
 simp only[seval,EMB,ag_24,sz_24,iw,sz_2,ag_2,zero_193,pl_193,und_189,sz_193,(oL 4),bH,pl_86,sz_86]
 refine mU e (.ret λe h=>?_) h
 cases h
 simp only[seval,FMB,Tryz.results103,ag_86,sz_86]
 refine .seqK (.bind λy2 hy18=>.region λe h=>?_)
 simp only[seval,EMB,cc,sz_2,ag_2]
 refine SpecS.by (dB hy18) (by simp only[seval,FMB]) ?_
 simp only[seval,EMB]
 refine mU e (.cond rfl (λhb21=>?_) (λhb21=>?_)) h
 refine .seqK (.bind λy3 hy22=>.region λe h=>?_)
 simp only[seval,EMB,bp,aS,ag_86,sz_86,ag_58,sz_58,ag_24,sz_24]
 refine SpecS.by (inp_canned_spec hy22) (by simp only[seval,FMB]) ?_
 simp only[seval,EMB,sz_86]
 refine mU e (.ret λe h=>?_) h
 cases h
 simp only[seval,FMB,Tryz.results103,ag_86,sz_86]
 refine .skip (Mir.toB (Mir.toK (.seqK (.bind λy4 hy23=>.region λe h=>?_))))
 simp only[seval,EMB,bp,aS,ag_58,sz_58,ag_24,sz_24]
 refine SpecS.by (inp_arc_spec hy23) (by simp only[seval,FMB]) ?_
 simp only[seval,EMB]
 refine mU e (.sR λe h=>?_) h
 simp only[seval,EMB,bH,pl_86,sz_86]
 refine mU e (.ret λe h=>?_) h
 cases h
 simp only[seval,FMB,Tryz.results103,ag_86,sz_86]
def cz(a0:aw)(a1:Int)(a2:Int)(a3:ag):Option (ag×Int):=bindO (gv a0 a1 a2) λ(y1:ag×Int)=>if (y1.2 != 0)=true then some (ag.mk 0 0 0,y1.2)else bindO (eZ a3 y1.1 1) λ(y2:ag×Int)=>some (y2.1,y2.2)
theorem tb_Machine_spec{a0:aw}{a1:Int}{a2:Int}{a3:ag}{y:ag×Int}(h:cz a0 a1 a2 a3=some y):Spec gP 31 [.agg (w6 a0.Work [.d (.list (zA av a0.Lengths))]),.d (.int .i64 a1),.d (.int .i64 a2),.agg (cH a3)] (.tuple [.agg [.d (.int .i64 y.1.X),.d (.int .i64 y.1.Y),.d (.int .i64 y.1.Z)],.d (.int .i64 y.2)]):=by
 refine aB Tryz.func31 rfl (by kernel_rfl) (by kernel_rfl) (λy:ag×Int=>.tuple [.agg [.d (.int .i64 y.1.X),.d (.int .i64 y.1.Y),.d (.int .i64 y.1.Z)],.d (.int .i64 y.2)]) ?_ h
 unfold cz
 simp only[zB,zD,nS,nA,Tryz.ntmps31,SV]
 refine .sR λe h=>?_
 simp only[seval,EMB,bl]
 refine mU e (.seqK (.bind λy1 hy1=>.region λe h=>?_)) h
 simp only[seval,EMB,ag_38,sz_38]
 refine SpecS.by (kJ hy1) (by simp only[seval,FMB]) ?_
 simp only[seval,EMB,bl,sz_24]
 refine mU e (.seqK (.sR λe h=>?_)) h
 simp only[seval,EMB]
 refine mU e (.cond rfl (λhb3=>?_) (λhb3=>?_)) h
 refine .sR λe h=>?_
 simp only[seval,EMB,bl,pl_24,sz_24]
 refine mU e (.ret λe h=>?_) h
 cases h
 simp only[seval,FMB,Tryz.results31,ag_24,sz_24]
 refine .skip (Mir.toK (.seqK (.bind λy2 hy4=>.region λe h=>?_)))
 simp only[seval,EMB,ag_24,sz_24]
 refine SpecS.by (tb_moved_spec hy4) (by simp only[seval,FMB]) ?_
 simp only[seval,EMB,sz_24]
 refine mU e (.ret λe h=>?_) h
 cases h
 simp only[seval,FMB,Tryz.results31,ag_24,sz_24]
def fW(a0:am)(a1:ak)(a2:ac)(a3:aw)(a4:ag):Option ((List ao)×am×ak×Int):=bindO (bC a3 a4) λ(y1:Int)=>if (y1 != 0)=true then bindO (some ()) λ(v1:Unit)=>some ([],am.mk 0 0 0 0 0 0 0 0,ak.mk 0 0 0 0 0 0 false,y1)else bindO (bindO (gc a2) λ(y2:Int)=>if (y2 != 0)=true then some true else bindO (iY a2) λ(y3:Int)=>if (y3 != 0)=true then some true else bindO (ft a2) λ(y4:Bool)=>some (!y4)) λ(v2:Bool)=>if v2=true then bindO (some ()) λ(v3:Unit)=>some ([],am.mk 0 0 0 0 0 0 0 0,ak.mk 0 0 0 0 0 0 false,1)else bindO (md_Apply a0 a2) λ(y5:am×Int)=>if (y5.2 != 0)=true then bindO (some ()) λ(v4:Unit)=>some ([],am.mk 0 0 0 0 0 0 0 0,ak.mk 0 0 0 0 0 0 false,y5.2)else bindO (dj y5.1.Motion) λ(y6:Bool)=>bindO (if (!y6)=true then some (ak.mk 0 0 0 0 0 0 false)else some (ak.mk a1.Code a1.R a1.Z a1.Q a1.Rate a1.Initial a1.High)) λ(v5:ak)=>bindO (fI a2 [88,89,90,73,74,81,82]) λ(y7:Bool)=>if (!y7)=true then some ([],y5.1,v5,0)else bindO (bindO (fI a2 [73,74]) λ(y8:Bool)=>if y8=true then if (y5.1.Motion != 2000)=true then if (y5.1.Motion != 3000)=true then some true else bindO (fI a2 [81,82]) λ(y9:Bool)=>if y9=true then bindO (dj y5.1.Motion) λ(y10:Bool)=>some (!y10)else some false else bindO (fI a2 [81,82]) λ(y11:Bool)=>if y11=true then bindO (dj y5.1.Motion) λ(y12:Bool)=>some (!y12)else some false else bindO (fI a2 [81,82]) λ(y13:Bool)=>if y13=true then bindO (dj y5.1.Motion) λ(y14:Bool)=>some (!y14)else some false) λ(v6:Bool)=>if v6=true then bindO (some ()) λ(v7:Unit)=>some ([],am.mk 0 0 0 0 0 0 0 0,ak.mk 0 0 0 0 0 0 false,1)else if ((y5.1.Motion==80000)||((y5.1.Motion != 0)&&(decide (y5.1.Feed≤0))))=true then bindO (some ()) λ(v8:Unit)=>some ([],am.mk 0 0 0 0 0 0 0 0,ak.mk 0 0 0 0 0 0 false,13)else bindO (if (y5.1.Length==43000)=true then some (zH.wrap (zF y5.1.Offset 1000))else some 0) λ(v9:Int)=>bindO (iL (aw.mk a3.Work a3.Lengths) y5.1.Work v9 a4) λ(y15:ag×Int)=>if (y15.2 != 0)=true then bindO (some ()) λ(v10:Unit)=>some ([],am.mk 0 0 0 0 0 0 0 0,ak.mk 0 0 0 0 0 0 false,y15.2)else bindO (da y5.1 v5 (ac.mk a2.Skip a2.Words a2.Comment) y15.1) λ(y16:(List aq)×ak×Int)=>if (y16.2.2 != 0)=true then bindO (some ()) λ(v11:Unit)=>some ([],am.mk 0 0 0 0 0 0 0 0,ak.mk 0 0 0 0 0 0 false,y16.2.2)else bindX (aF (okIdx y16.1) ( aU (λ(i1:Nat) (e1:aq) (v12:(List ao)×ag)=>bindO (cz (aw.mk a3.Work a3.Lengths) y5.1.Work v9 e1.at_) λ(y17:ag×Int)=>if (y17.2 != 0)=true then bindO (some ()) λ(v13:Unit)=>some (.ret (.ret ([],am.mk 0 0 0 0 0 0 0 0,ak.mk 0 0 0 0 0 0 false,y17.2)))else bindO (if (!((y17.1.X==v12.2.X)&&((y17.1.Y==v12.2.Y)&&(y17.1.Z==v12.2.Z))))=true then aF (okLen (v12.1.length+1)) ( some (v12.1++[ao.mk v12.2 y17.1 e1.rate (zH.wrap (zF y5.1.Tool 1000)) 0]))else some v12.1) λ(v14:(List ao))=>some (.go (v14,y17.1))) (λ(v12:(List ao)×ag)=>some (.go (v12.1,v12.2))) y16.1 0 ([],a4))) λ(v15:(List ao)×ag)=>some (v15.1,y5.1,y16.2.1,0)
theorem inp_Step_specX{a0:am}{a1:ak}{a2:ac}{a3:aw}{a4:ag}{y:(List ao)×am×ak×Int}(h:fW a0 a1 a2 a3 a4=some y):SpecX gP 55 [.agg (cA a0),.agg (cC a1),.agg (cJ a2),.agg (w6 a3.Work [.d (.list (zA av a3.Lengths))]),.agg (cH a4)] 47 (zA aI y.1) [.agg [.d (.int .i64 y.2.1.Motion),.d (.int .i64 y.2.1.Distance),.d (.int .i64 y.2.1.Work),.d (.int .i64 y.2.1.Length),.d (.int .i64 y.2.1.Return),.d (.int .i64 y.2.1.Feed),.d (.int .i64 y.2.1.Tool),.d (.int .i64 y.2.1.Offset)],.agg [.d (.int .i64 y.2.2.1.Code),.d (.int .i64 y.2.2.1.R),.d (.int .i64 y.2.2.1.Z),.d (.int .i64 y.2.2.1.Q),.d (.int .i64 y.2.2.1.Rate),.d (.int .i64 y.2.2.1.Initial),.d (.bool y.2.2.1.High)],.d (.int .i64 y.2.2.2)]:=by
 refine specX_mir Tryz.func55 rfl (by kernel_rfl) (by kernel_rfl) (λy:(List ao)×am×ak×Int=>zA aI y.1) (λy:(List ao)×am×ak×Int=>[.agg [.d (.int .i64 y.2.1.Motion),.d (.int .i64 y.2.1.Distance),.d (.int .i64 y.2.1.Work),.d (.int .i64 y.2.1.Length),.d (.int .i64 y.2.1.Return),.d (.int .i64 y.2.1.Feed),.d (.int .i64 y.2.1.Tool),.d (.int .i64 y.2.1.Offset)],.agg [.d (.int .i64 y.2.2.1.Code),.d (.int .i64 y.2.2.1.R),.d (.int .i64 y.2.2.1.Z),.d (.int .i64 y.2.2.1.Q),.d (.int .i64 y.2.2.1.Rate),.d (.int .i64 y.2.2.1.Initial),.d (.bool y.2.2.1.High)],.d (.int .i64 y.2.2.2)]) (sc_map (λ_=>rfl) _) (by rw[show Tryz.prog.cellsOf 47=9 from (by kernel_rfl)];exact fC) rfl ?_ h
 unfold fW
 simp only[zB,zD,nS,nA,Tryz.ntmps55,SV]
 refine .sR λe h=>?_
 simp only[seval,EMB,bR,bH]
 refine mU e (.seqK (.seqK (.bind λy1 hy1=>.region λe h=>?_))) h
 simp only[seval,EMB,ag_38,sz_38,ag_24,sz_24]
 refine SpecS.by (fJ hy1) (by simp only[seval,FMB]) ?_
 simp only[seval,EMB]
 refine mU e (.sR λe h=>?_) h
 simp only[seval,EMB]
 refine mU e (.cond rfl (λhb4=>?_) (λhb4=>?_)) h
 refine .seqK (.bind λv1 hv5=>.region λe h=>?_)
 simp only[seval,EMB]
 refine SpecS.inl Tryz.func97 rfl (by kernel_rfl) (by kernel_rfl) (λv1:Unit=>.tuple [.nil,.agg [.d (.int .i64 0),.d (.int .i64 0),.d (.int .i64 0),.d (.int .i64 0),.d (.int .i64 0),.d (.int .i64 0),.d (.int .i64 0),.d (.int .i64 0)],.agg [.d (.int .i64 0),.d (.int .i64 0),.d (.int .i64 0),.d (.int .i64 0),.d (.int .i64 0),.d (.int .i64 0),.d (.bool false)],.d (.int .i64 y1)]) (λv1=>⟨[(cA a0),(cC a1),(cJ a2),(w6 a3.Work [.d (.list (zA av a3.Lengths))]),(cH a4),[.d (.int .i64 0),.d (.int .i64 0),.d (.int .i64 0),.d (.int .i64 0),.d (.int .i64 0),.d (.int .i64 0),.d (.int .i64 0),.d (.int .i64 0)],[.d (.int .i64 0),.d (.int .i64 0),.d (.int .i64 0),.d (.int .i64 0),.d (.int .i64 0),.d (.int .i64 0),.d (.bool false)]],[]⟩) hv5 rfl ?_ ?_
 simp only[zB,zD,nS,nA,Tryz.ntmps97,SV]
 refine .sR λe h=>?_
 simp only[seval,EMB,bR,bH]
 refine mU e (.sR λe h=>?_) h
 simp only[seval,EMB,bR,kU,bH,pl_86,aS,sz_86]
 refine mU e (.ret λe h=>?_) h
 cases h
 simp only[seval,FMB,Tryz.results97,bp,aS,ag_86,sz_86]
 simp only[seval,EMB,aS,sz_86]
 refine mU e (.ret λe h=>?_) h
 cases h
 simp only[seval,FMB,Tryz.results55,bp,aS,ag_86,sz_86,fx_r,fx_n,xr_o,xr_n,rowT]
 refine .skip (Mir.toK (.seqK (.seqK (Mir.joinO (λv2:Bool=>([U,U,U,U,U,.ptr 0 0,.ptr 1 0,.ptr 2 0,.ptr 3 0,.ptr 4 0,U,.ptr 5 0,.ptr 6 0,U,U,U,U,U,U,U,U,U,U,U,U,U,U,U,U,U,U,U,U,U,U,U,U,U,U,U,U,U,U,U,U,U,U,.d (.bool v2)]++us 157)) (λv2=>⟨[(cA a0),(cC a1),(cJ a2),(w6 a3.Work [.d (.list (zA av a3.Lengths))]),(cH a4),[.d (.int .i64 0),.d (.int .i64 0),.d (.int .i64 0),.d (.int .i64 0),.d (.int .i64 0),.d (.int .i64 0),.d (.int .i64 0),.d (.int .i64 0)],[.d (.int .i64 0),.d (.int .i64 0),.d (.int .i64 0),.d (.int .i64 0),.d (.int .i64 0),.d (.int .i64 0),.d (.bool false)]],[]⟩) (λ_=>rfl) ?_ ?_))))
 refine .bind λy2 hy6=>.ite (λhb7=>?_) (λhb7=>?_)
 refine .region λe h=>?_
 simp only[seval,EMB,ag_58,sz_58,hb7]
 refine SpecS.by (ga hy6) (by simp only[seval,FMB,hb7]) ?_
 simp only[seval,EMB,hb7]
 cases h
 simp only[seval,FMB,hb7]
 refine .bind λy3 hy8=>.ite (λhb9=>?_) (λhb9=>?_)
 refine .region λe h=>?_
 simp only[seval,EMB,ag_58,sz_58,hb7,hb9]
 refine SpecS.by (ga hy6) (by simp only[seval,FMB,hb7,hb9]) ?_
 simp only[seval,EMB,ag_58,sz_58,hb7,hb9]
 refine SpecS.by (iX hy8) (by simp only[seval,FMB,hb7,hb9]) ?_
 simp only[seval,EMB,hb7,hb9]
 cases h
 simp only[seval,FMB,hb7,hb9]
 refine .bind λy4 hy10=>.region λe h=>?_
 simp only[seval,EMB,ag_58,sz_58,hb7,hb9]
 refine SpecS.by (ga hy6) (by simp only[seval,FMB,hb7,hb9]) ?_
 simp only[seval,EMB,ag_58,sz_58,hb7,hb9]
 refine SpecS.by (iX hy8) (by simp only[seval,FMB,hb7,hb9]) ?_
 simp only[seval,EMB,ag_58,sz_58,hb7,hb9]
 refine SpecS.by (inp_known_spec hy10) (by simp only[seval,FMB,hb7,hb9]) ?_
 simp only[seval,EMB,hb7,hb9]
 cases h
 simp only[seval,FMB,hb7,hb9]
 intro v2
 refine Mir.toK (.cond rfl (λhb13=>?_) (λhb13=>?_))
 refine .seqK (.bind λv3 hv14=>.region λe h=>?_)
 simp only[seval,EMB]
 refine SpecS.inl Tryz.func97 rfl (by kernel_rfl) (by kernel_rfl) (λv3:Unit=>.tuple [.nil,.agg [.d (.int .i64 0),.d (.int .i64 0),.d (.int .i64 0),.d (.int .i64 0),.d (.int .i64 0),.d (.int .i64 0),.d (.int .i64 0),.d (.int .i64 0)],.agg [.d (.int .i64 0),.d (.int .i64 0),.d (.int .i64 0),.d (.int .i64 0),.d (.int .i64 0),.d (.int .i64 0),.d (.bool false)],.d (.int .i64 1)]) (λv3=>⟨[(cA a0),(cC a1),(cJ a2),(w6 a3.Work [.d (.list (zA av a3.Lengths))]),(cH a4),[.d (.int .i64 0),.d (.int .i64 0),.d (.int .i64 0),.d (.int .i64 0),.d (.int .i64 0),.d (.int .i64 0),.d (.int .i64 0),.d (.int .i64 0)],[.d (.int .i64 0),.d (.int .i64 0),.d (.int .i64 0),.d (.int .i64 0),.d (.int .i64 0),.d (.int .i64 0),.d (.bool false)]],[]⟩) hv14 rfl ?_ ?_
 simp only[zB,zD,nS,nA,Tryz.ntmps97,SV]
 refine .sR λe h=>?_
 simp only[seval,EMB,bR,bH]
 refine mU e (.sR λe h=>?_) h
 simp only[seval,EMB,bR,kU,bH,pl_86,aS,sz_86]
 refine mU e (.ret λe h=>?_) h
 cases h
 simp only[seval,FMB,Tryz.results97,bp,aS,ag_86,sz_86]
 simp only[seval,EMB,aS,sz_86]
 refine mU e (.ret λe h=>?_) h
 cases h
 simp only[seval,FMB,Tryz.results55,bp,aS,ag_86,sz_86,fx_r,fx_n,xr_o,xr_n,rowT]
 refine .skip (Mir.toK (.seqK (.bind λy5 hy15=>.region λe h=>?_)))
 simp only[seval,EMB,bp,aS,ag_58,sz_58]
 refine SpecS.by (md_Apply_spec hy15) (by simp only[seval,FMB]) ?_
 simp only[seval,EMB,aS]
 refine mU e (.seqK (.sR λe h=>?_)) h
 simp only[seval,EMB]
 refine mU e (.cond rfl (λhb18=>?_) (λhb18=>?_)) h
 refine .seqK (.bind λv4 hv19=>.region λe h=>?_)
 simp only[seval,EMB]
 refine SpecS.inl Tryz.func97 rfl (by kernel_rfl) (by kernel_rfl) (λv4:Unit=>.tuple [.nil,.agg [.d (.int .i64 0),.d (.int .i64 0),.d (.int .i64 0),.d (.int .i64 0),.d (.int .i64 0),.d (.int .i64 0),.d (.int .i64 0),.d (.int .i64 0)],.agg [.d (.int .i64 0),.d (.int .i64 0),.d (.int .i64 0),.d (.int .i64 0),.d (.int .i64 0),.d (.int .i64 0),.d (.bool false)],.d (.int .i64 y5.2)]) (λv4=>⟨[(cA y5.1),(cC a1),(cJ a2),(w6 a3.Work [.d (.list (zA av a3.Lengths))]),(cH a4),[.d (.int .i64 0),.d (.int .i64 0),.d (.int .i64 0),.d (.int .i64 0),.d (.int .i64 0),.d (.int .i64 0),.d (.int .i64 0),.d (.int .i64 0)],[.d (.int .i64 0),.d (.int .i64 0),.d (.int .i64 0),.d (.int .i64 0),.d (.int .i64 0),.d (.int .i64 0),.d (.bool false)]],[]⟩) hv19 rfl ?_ ?_
 simp only[zB,zD,nS,nA,Tryz.ntmps97,SV]
 refine .sR λe h=>?_
 simp only[seval,EMB,bR,bH]
 refine mU e (.sR λe h=>?_) h
 simp only[seval,EMB,bR,kU,bH,pl_86,aS,sz_86]
 refine mU e (.ret λe h=>?_) h
 cases h
 simp only[seval,FMB,Tryz.results97,bp,aS,ag_86,sz_86]
 simp only[seval,EMB,aS,sz_86]
 refine mU e (.ret λe h=>?_) h
 cases h
 simp only[seval,FMB,Tryz.results55,bp,aS,ag_86,sz_86,fx_r,fx_n,xr_o,xr_n,rowT]
 refine .skip (Mir.toK (.seqK (.seqK (.bind λy6 hy20=>.region λe h=>?_))))
 simp only[seval,EMB,cc,sz_2,ag_2]
 refine SpecS.by (dB hy20) (by simp only[seval,FMB]) ?_
 simp only[seval,EMB]
 refine mU e (Mir.joinO (λv5:ak=>([U,U,U,U,U,.ptr 0 0,.ptr 1 0,.ptr 2 0,.ptr 3 0,.ptr 4 0,U,.ptr 5 0,.ptr 6 0]++us 192)) (λv5=>⟨[(cA y5.1),(cC v5),(cJ a2),(w6 a3.Work [.d (.list (zA av a3.Lengths))]),(cH a4),[.d (.int .i64 0),.d (.int .i64 0),.d (.int .i64 0),.d (.int .i64 0),.d (.int .i64 0),.d (.int .i64 0),.d (.int .i64 0),.d (.int .i64 0)],[.d (.int .i64 0),.d (.int .i64 0),.d (.int .i64 0),.d (.int .i64 0),.d (.int .i64 0),.d (.int .i64 0),.d (.bool false)]],[]⟩) (λ_=>rfl) ?_ ?_) h
 refine .cond rfl (λhb22=>?_) (λhb22=>?_)
 refine .region λe h=>?_
 simp only[seval,EMB,bH,pl_86,sz_86]
 cases h
 simp only[seval,FMB,Tryz.results55,bp,aS,ag_86,sz_86]
 refine .skip λe h=>?_
 cases h
 simp only[seval,FMB,Tryz.results55,bp,aS,ag_86,sz_86]
 intro v5
 refine Mir.toK (.seqK (.seqK (.bind λy7 hy23=>.region λe h=>?_)))
 simp only[seval,EMB,ag_58,sz_58]
 refine SpecS.by (bK hy23) (by simp only[seval,FMB]) ?_
 simp only[seval,EMB]
 refine mU e (.cond rfl (λhb25=>?_) (λhb25=>?_)) h
 refine .seqK (.regionD [(6,11)] (by kernel_rfl) λe h=>?_)
 simp only[seval,EMB,SB,bp,aS,ag_86,sz_86]
 refine mU e (.ret λe h=>?_) h
 cases h
 simp only[seval,FMB,Tryz.results55,bp,aS,ag_86,sz_86,fx_r,fx_n,xr_o,xr_n,rowT]
 refine .skip (Mir.toK (.seqK (.seqK (Mir.joinO (λv6:Bool=>([U,U,U,U,U,.ptr 0 0,.ptr 1 0,.ptr 2 0,.ptr 3 0,.ptr 4 0,U,.ptr 5 0,.ptr 6 0,U,U,U,U,U,U,U,U,U,U,U,U,U,U,U,U,U,U,U,U,U,U,U,U,U,U,U,U,U,U,U,U,U,U,U,U,U,U,U,U,U,U,U,U,U,U,U,U,U,U,U,U,U,U,U,U,U,U,U,U,U,U,U,U,U,U,U,U,U,U,U,U,U,U,U,U,U,U,U,U,U,U,U,U,U,.d (.bool v6)]++us 106)) (λv6=>⟨[(cA y5.1),(cC v5),(cJ a2),(w6 a3.Work [.d (.list (zA av a3.Lengths))]),(cH a4),[.d (.int .i64 0),.d (.int .i64 0),.d (.int .i64 0),.d (.int .i64 0),.d (.int .i64 0),.d (.int .i64 0),.d (.int .i64 0),.d (.int .i64 0)],[.d (.int .i64 0),.d (.int .i64 0),.d (.int .i64 0),.d (.int .i64 0),.d (.int .i64 0),.d (.int .i64 0),.d (.bool false)]],[]⟩) (λ_=>rfl) ?_ ?_))))
 refine .bind λy8 hy26=>.ite (λhb27=>?_) (λhb27=>?_)
 refine .ite (λhb28=>?_) (λhb28=>?_)
 refine .ite (λhb29=>?_) (λhb29=>?_)
 refine .region λe h=>?_
 simp only[seval,EMB,ag_58,sz_58,hb27,hb28,hb29]
 refine SpecS.by (bK hy26) (by simp only[seval,FMB,hb27,hb28,hb29]) ?_
 simp only[seval,EMB,cc,sz_2,ag_2,hb27,hb28,hb29]
 cases h
 simp only[seval,FMB,hb27,hb28,hb29]
 refine .bind λy9 hy30=>.ite (λhb31=>?_) (λhb31=>?_)
 refine .bind λy10 hy32=>.region λe h=>?_
 simp only[seval,EMB,ag_58,sz_58,hb27,hb28,hb29,hb31]
 refine SpecS.by (bK hy26) (by simp only[seval,FMB,hb27,hb28,hb29,hb31]) ?_
 simp only[seval,EMB,cc,sz_2,ag_2,ag_58,sz_58,hb27,hb28,hb29,hb31]
 refine SpecS.by (bK hy30) (by simp only[seval,FMB,hb27,hb28,hb29,hb31]) ?_
 simp only[seval,EMB,cc,sz_2,ag_2,hb27,hb28,hb29,hb31]
 refine SpecS.by (dB hy32) (by simp only[seval,FMB,hb27,hb28,hb29,hb31]) ?_
 simp only[seval,EMB,hb27,hb28,hb29,hb31]
 cases h
 simp only[seval,FMB,hb27,hb28,hb29,hb31]
 refine .region λe h=>?_
 simp only[seval,EMB,ag_58,sz_58,hb27,hb28,hb29,hb31]
 refine SpecS.by (bK hy26) (by simp only[seval,FMB,hb27,hb28,hb29,hb31]) ?_
 simp only[seval,EMB,cc,sz_2,ag_2,ag_58,sz_58,hb27,hb28,hb29,hb31]
 refine SpecS.by (bK hy30) (by simp only[seval,FMB,hb27,hb28,hb29,hb31]) ?_
 simp only[seval,EMB,hb27,hb28,hb29,hb31]
 cases h
 simp only[seval,FMB,hb27,hb28,hb29,hb31]
 refine .bind λy11 hy33=>.ite (λhb34=>?_) (λhb34=>?_)
 refine .bind λy12 hy35=>.region λe h=>?_
 simp only[seval,EMB,ag_58,sz_58,hb27,hb28,hb34]
 refine SpecS.by (bK hy26) (by simp only[seval,FMB,hb27,hb28,hb34]) ?_
 simp only[seval,EMB,cc,sz_2,ag_2,ag_58,sz_58,hb27,hb28,hb34]
 refine SpecS.by (bK hy33) (by simp only[seval,FMB,hb27,hb28,hb34]) ?_
 simp only[seval,EMB,cc,sz_2,ag_2,hb27,hb28,hb34]
 refine SpecS.by (dB hy35) (by simp only[seval,FMB,hb27,hb28,hb34]) ?_
 simp only[seval,EMB,hb27,hb28,hb34]
 cases h
 simp only[seval,FMB,hb27,hb28,hb34]
 refine .region λe h=>?_
 simp only[seval,EMB,ag_58,sz_58,hb27,hb28,hb34]
 refine SpecS.by (bK hy26) (by simp only[seval,FMB,hb27,hb28,hb34]) ?_
 simp only[seval,EMB,cc,sz_2,ag_2,ag_58,sz_58,hb27,hb28,hb34]
 refine SpecS.by (bK hy33) (by simp only[seval,FMB,hb27,hb28,hb34]) ?_
 simp only[seval,EMB,hb27,hb28,hb34]
 cases h
 simp only[seval,FMB,hb27,hb28,hb34]
 refine .bind λy13 hy36=>.ite (λhb37=>?_) (λhb37=>?_)
 refine .bind λy14 hy38=>.region λe h=>?_
 simp only[seval,EMB,ag_58,sz_58,hb27,hb37]
 refine SpecS.by (bK hy26) (by simp only[seval,FMB,hb27,hb37]) ?_
 simp only[seval,EMB,ag_58,sz_58,hb27,hb37]
 refine SpecS.by (bK hy36) (by simp only[seval,FMB,hb27,hb37]) ?_
 simp only[seval,EMB,cc,sz_2,ag_2,hb27,hb37]
 refine SpecS.by (dB hy38) (by simp only[seval,FMB,hb27,hb37]) ?_
 simp only[seval,EMB,hb27,hb37]
 cases h
 simp only[seval,FMB,hb27,hb37]
 refine .region λe h=>?_
 simp only[seval,EMB,ag_58,sz_58,hb27,hb37]
 refine SpecS.by (bK hy26) (by simp only[seval,FMB,hb27,hb37]) ?_
 simp only[seval,EMB,ag_58,sz_58,hb27,hb37]
 refine SpecS.by (bK hy36) (by simp only[seval,FMB,hb27,hb37]) ?_
 simp only[seval,EMB,hb27,hb37]
 cases h
 simp only[seval,FMB,hb27,hb37]
 intro v6
 refine Mir.toK (.cond rfl (λhb41=>?_) (λhb41=>?_))
 refine .seqK (.bind λv7 hv42=>.region λe h=>?_)
 simp only[seval,EMB]
 refine SpecS.inl Tryz.func97 rfl (by kernel_rfl) (by kernel_rfl) (λv7:Unit=>.tuple [.nil,.agg [.d (.int .i64 0),.d (.int .i64 0),.d (.int .i64 0),.d (.int .i64 0),.d (.int .i64 0),.d (.int .i64 0),.d (.int .i64 0),.d (.int .i64 0)],.agg [.d (.int .i64 0),.d (.int .i64 0),.d (.int .i64 0),.d (.int .i64 0),.d (.int .i64 0),.d (.int .i64 0),.d (.bool false)],.d (.int .i64 1)]) (λv7=>⟨[(cA y5.1),(cC v5),(cJ a2),(w6 a3.Work [.d (.list (zA av a3.Lengths))]),(cH a4),[.d (.int .i64 0),.d (.int .i64 0),.d (.int .i64 0),.d (.int .i64 0),.d (.int .i64 0),.d (.int .i64 0),.d (.int .i64 0),.d (.int .i64 0)],[.d (.int .i64 0),.d (.int .i64 0),.d (.int .i64 0),.d (.int .i64 0),.d (.int .i64 0),.d (.int .i64 0),.d (.bool false)]],[]⟩) hv42 rfl ?_ ?_
 simp only[zB,zD,nS,nA,Tryz.ntmps97,SV]
 refine .sR λe h=>?_
 simp only[seval,EMB,bR,bH]
 refine mU e (.sR λe h=>?_) h
 simp only[seval,EMB,bR,kU,bH,pl_86,aS,sz_86]
 refine mU e (.ret λe h=>?_) h
 cases h
 simp only[seval,FMB,Tryz.results97,bp,aS,ag_86,sz_86]
 simp only[seval,EMB,aS,sz_86]
 refine mU e (.ret λe h=>?_) h
 cases h
 simp only[seval,FMB,Tryz.results55,bp,aS,ag_86,sz_86,fx_r,fx_n,xr_o,xr_n,rowT]
 refine .skip (Mir.toK (.seqK (.seqK (.joinV ([U,U,U,U,U,.ptr 0 0,.ptr 1 0,.ptr 2 0,.ptr 3 0,.ptr 4 0,U,.ptr 5 0,.ptr 6 0,U,U,U,U,U,U,U,U,U,U,U,U,U,U,U,U,U,U,U,U,U,U,U,U,U,U,U,U,U,U,U,U,U,U,U,U,U,U,U,U,U,U,U,U,U,U,U,U,U,U,U,U,U,U,U,U,U,U,U,U,U,U,U,U,U,U,U,U,U,U,U,U,U,U,U,U,U,U,U,U,U,U,U,U,U,U,U,U,U,U,U,U,U,U,U,U,U,U,U,U,U,U,U,.d (.bool ((y5.1.Motion==80000)||((y5.1.Motion != 0)&&(decide (y5.1.Feed≤0)))))]++us 88) ⟨[(cA y5.1),(cC v5),(cJ a2),(w6 a3.Work [.d (.list (zA av a3.Lengths))]),(cH a4),[.d (.int .i64 0),.d (.int .i64 0),.d (.int .i64 0),.d (.int .i64 0),.d (.int .i64 0),.d (.int .i64 0),.d (.int .i64 0),.d (.int .i64 0)],[.d (.int .i64 0),.d (.int .i64 0),.d (.int .i64 0),.d (.int .i64 0),.d (.int .i64 0),.d (.int .i64 0),.d (.bool false)]],[]⟩ rfl ?_ ?_))))
 refine SWs.region ?_
 rcases Bool.eq_false_or_eq_true (y5.1.Motion==80000)with hb43 | hb43
 simp only[seval,EMB,SL,PB,cc,sz_2,ag_2,hb43]
 rcases Bool.eq_false_or_eq_true (y5.1.Motion != 0)with hb44 | hb44
 simp only[seval,EMB,SL,PB,cc,sz_2,ag_2,iw,hb43,hb44]
 simp only[seval,EMB,SL,PB,cc,sz_2,ag_2,hb43,hb44]
 refine Mir.toK (.cond rfl (λhb47=>?_) (λhb47=>?_))
 refine .seqK (.bind λv8 hv48=>.region λe h=>?_)
 simp only[seval,EMB]
 refine SpecS.inl Tryz.func97 rfl (by kernel_rfl) (by kernel_rfl) (λv8:Unit=>.tuple [.nil,.agg [.d (.int .i64 0),.d (.int .i64 0),.d (.int .i64 0),.d (.int .i64 0),.d (.int .i64 0),.d (.int .i64 0),.d (.int .i64 0),.d (.int .i64 0)],.agg [.d (.int .i64 0),.d (.int .i64 0),.d (.int .i64 0),.d (.int .i64 0),.d (.int .i64 0),.d (.int .i64 0),.d (.bool false)],.d (.int .i64 13)]) (λv8=>⟨[(cA y5.1),(cC v5),(cJ a2),(w6 a3.Work [.d (.list (zA av a3.Lengths))]),(cH a4),[.d (.int .i64 0),.d (.int .i64 0),.d (.int .i64 0),.d (.int .i64 0),.d (.int .i64 0),.d (.int .i64 0),.d (.int .i64 0),.d (.int .i64 0)],[.d (.int .i64 0),.d (.int .i64 0),.d (.int .i64 0),.d (.int .i64 0),.d (.int .i64 0),.d (.int .i64 0),.d (.bool false)]],[]⟩) hv48 rfl ?_ ?_
 simp only[zB,zD,nS,nA,Tryz.ntmps97,SV]
 refine .sR λe h=>?_
 simp only[seval,EMB,bR,bH]
 refine mU e (.sR λe h=>?_) h
 simp only[seval,EMB,bR,kU,bH,pl_86,aS,sz_86]
 refine mU e (.ret λe h=>?_) h
 cases h
 simp only[seval,FMB,Tryz.results97,bp,aS,ag_86,sz_86]
 simp only[seval,EMB,aS,sz_86]
 refine mU e (.ret λe h=>?_) h
 cases h
 simp only[seval,FMB,Tryz.results55,bp,aS,ag_86,sz_86,fx_r,fx_n,xr_o,xr_n,rowT]
 refine .skip (Mir.toK (.sR λe h=>?_))
 simp only[seval,EMB]
 refine mU e (.seqK (.sR λe h=>?_)) h
 simp only[seval,EMB,fld_143_3,sz_2,ag_2]
 refine mU e (Mir.joinO (λv9:Int=>([U,U,U,U,U,.ptr 0 0,.ptr 1 0,.ptr 2 0,.ptr 3 0,.ptr 4 0,U,.ptr 5 0,.ptr 6 0,U,U,U,.d (.int .i64 v9)]++us 188)) (λv9=>⟨[(cA y5.1),(cC v5),(cJ a2),(w6 a3.Work [.d (.list (zA av a3.Lengths))]),(cH a4),[.d (.int .i64 0),.d (.int .i64 0),.d (.int .i64 0),.d (.int .i64 0),.d (.int .i64 0),.d (.int .i64 0),.d (.int .i64 0),.d (.int .i64 0)],[.d (.int .i64 0),.d (.int .i64 0),.d (.int .i64 0),.d (.int .i64 0),.d (.int .i64 0),.d (.int .i64 0),.d (.bool false)]],[]⟩) (λ_=>rfl) ?_ ?_) h
 refine .cond rfl (λhb50=>?_) (λhb50=>?_)
 refine .region λe h=>?_
 simp only[seval,EMB,fld_143_7,sz_2,ag_2]
 cases h
 simp only[seval,FMB,Tryz.results55,bp,aS,ag_86,sz_86]
 refine .skip λe h=>?_
 cases h
 simp only[seval,FMB,Tryz.results55,bp,aS,ag_86,sz_86]
 intro v9
 refine Mir.toK (.seqK (.bind λy15 hy51=>.region λe h=>?_))
 simp only[seval,EMB,ag_38,sz_38,fld_143_2,sz_2,ag_2,ag_24,sz_24]
 refine SpecS.by (tb_Work_spec hy51) (by simp only[seval,FMB]) ?_
 simp only[seval,EMB,bl,sz_24]
 refine mU e (.seqK (.sR λe h=>?_)) h
 simp only[seval,EMB]
 refine mU e (.cond rfl (λhb54=>?_) (λhb54=>?_)) h
 refine .seqK (.bind λv10 hv55=>.region λe h=>?_)
 simp only[seval,EMB]
 refine SpecS.inl Tryz.func97 rfl (by kernel_rfl) (by kernel_rfl) (λv10:Unit=>.tuple [.nil,.agg [.d (.int .i64 0),.d (.int .i64 0),.d (.int .i64 0),.d (.int .i64 0),.d (.int .i64 0),.d (.int .i64 0),.d (.int .i64 0),.d (.int .i64 0)],.agg [.d (.int .i64 0),.d (.int .i64 0),.d (.int .i64 0),.d (.int .i64 0),.d (.int .i64 0),.d (.int .i64 0),.d (.bool false)],.d (.int .i64 y15.2)]) (λv10=>⟨[(cA y5.1),(cC v5),(cJ a2),(w6 a3.Work [.d (.list (zA av a3.Lengths))]),(cH a4),[.d (.int .i64 0),.d (.int .i64 0),.d (.int .i64 0),.d (.int .i64 0),.d (.int .i64 0),.d (.int .i64 0),.d (.int .i64 0),.d (.int .i64 0)],[.d (.int .i64 0),.d (.int .i64 0),.d (.int .i64 0),.d (.int .i64 0),.d (.int .i64 0),.d (.int .i64 0),.d (.bool false)],(cH y15.1)],[]⟩) hv55 rfl ?_ ?_
 simp only[zB,zD,nS,nA,Tryz.ntmps97,SV]
 refine .sR λe h=>?_
 simp only[seval,EMB,bR,bH]
 refine mU e (.sR λe h=>?_) h
 simp only[seval,EMB,bR,kU,bH,pl_86,aS,sz_86]
 refine mU e (.ret λe h=>?_) h
 cases h
 simp only[seval,FMB,Tryz.results97,bp,aS,ag_86,sz_86]
 simp only[seval,EMB,aS,sz_86]
 refine mU e (.ret λe h=>?_) h
 cases h
 simp only[seval,FMB,Tryz.results55,bp,aS,ag_86,sz_86,fx_r,fx_n,xr_o,xr_n,rowT]
 refine .skip (Mir.toK (.seqK (.bind λy16 hy56=>.region λe h=>?_)))
 simp only[seval,EMB,bp,aS,ag_86,sz_86,ag_58,sz_58,ag_24,sz_24]
 refine SpecS.by (inp_positions_spec hy56) (by simp only[seval,FMB]) ?_
 simp only[seval,EMB,sz_86]
 refine mU e (.seqK (.sR λe h=>?_)) h
 simp only[seval,EMB]
 refine mU e (.cond rfl (λhb59=>?_) (λhb59=>?_)) h
 refine .seqK (.bind λv11 hv60=>.region λe h=>?_)
 simp only[seval,EMB]
 refine SpecS.inl Tryz.func97 rfl (by kernel_rfl) (by kernel_rfl) (λv11:Unit=>.tuple [.nil,.agg [.d (.int .i64 0),.d (.int .i64 0),.d (.int .i64 0),.d (.int .i64 0),.d (.int .i64 0),.d (.int .i64 0),.d (.int .i64 0),.d (.int .i64 0)],.agg [.d (.int .i64 0),.d (.int .i64 0),.d (.int .i64 0),.d (.int .i64 0),.d (.int .i64 0),.d (.int .i64 0),.d (.bool false)],.d (.int .i64 y16.2.2)]) (λv11=>⟨[(cA y5.1),(cC y16.2.1),(cJ a2),(w6 a3.Work [.d (.list (zA av a3.Lengths))]),(cH a4),[.d (.int .i64 0),.d (.int .i64 0),.d (.int .i64 0),.d (.int .i64 0),.d (.int .i64 0),.d (.int .i64 0),.d (.int .i64 0),.d (.int .i64 0)],[.d (.int .i64 0),.d (.int .i64 0),.d (.int .i64 0),.d (.int .i64 0),.d (.int .i64 0),.d (.int .i64 0),.d (.bool false)],(cH y15.1)],[]⟩) hv60 rfl ?_ ?_
 simp only[zB,zD,nS,nA,Tryz.ntmps97,SV]
 refine .sR λe h=>?_
 simp only[seval,EMB,bR,bH]
 refine mU e (.sR λe h=>?_) h
 simp only[seval,EMB,bR,kU,bH,pl_86,aS,sz_86]
 refine mU e (.ret λe h=>?_) h
 cases h
 simp only[seval,FMB,Tryz.results97,bp,aS,ag_86,sz_86]
 simp only[seval,EMB,aS,sz_86]
 refine mU e (.ret λe h=>?_) h
 cases h
 simp only[seval,FMB,Tryz.results55,bp,aS,ag_86,sz_86,fx_r,fx_n,xr_o,xr_n,rowT]
 refine .skip (Mir.toK (.sR λe h=>?_))
 simp only[seval,EMB]
 refine mU e (.seqK (.sR λe h=>?_)) h
 simp only[seval,EMB,und_189]
 refine mU e (.gh [.slot 19 47] rfl (Mir.join (λv15:(List ao)×ag=>([U,U,U,U,U,.ptr 0 0,.ptr 1 0,U,U,U,U,.ptr 5 0,.ptr 6 0,U,U,U,U,U,U,.own 0 (zA aI v15.1)]++us 185)) (λv15=>⟨[(cA y5.1),(cC y16.2.1),(cJ a2),(w6 a3.Work [.d (.list (zA av a3.Lengths))]),(cH v15.2),[.d (.int .i64 0),.d (.int .i64 0),.d (.int .i64 0),.d (.int .i64 0),.d (.int .i64 0),.d (.int .i64 0),.d (.int .i64 0),.d (.int .i64 0)],[.d (.int .i64 0),.d (.int .i64 0),.d (.int .i64 0),.d (.int .i64 0),.d (.int .i64 0),.d (.int .i64 0),.d (.bool false)],(cH y15.1)],[(47,v15.1.length)]⟩) (λ_=>rfl) ?_ ?_)) h
 refine .block (.guard λq1=>Mir.range (λ(i1:Nat) (v12:(List ao)×ag)=>([U,U,U,U,U,.ptr 0 0,.ptr 1 0,U,.ptr 3 0,.ptr 4 0,U,.ptr 5 0,.ptr 6 0,U,U,U,.d (.int .i64 v9),U,U,.own 0 (zA aI v12.1),U,U,U,U,U,U,U,U,U,U,U,U,U,U,U,U,U,U,U,U,U,U,U,U,U,U,U,U,U,U,U,U,U,U,U,U,U,U,U,U,U,U,U,U,U,U,U,U,U,U,U,U,U,U,U,U,U,U,U,U,U,U,U,U,U,U,U,U,U,U,U,U,U,U,U,U,U,U,U,U,U,U,U,U,U,U,U,U,U,U,U,U,U,U,U,U,U,U,U,U,U,U,U,U,U,U,U,U,U,U,U,U,U,U,U,U,U,U,U,U,U,U,U,U,U,U,U,U,U,U,U,U,U,U,U,U,U,U,U,U,U,U,.d (.list (zA aO y16.1)),.d (.int .i64 (y16.1.length:Int)),.d (.int .i64 (i1:Int))]++us 40)) (λi1 v12=>⟨[(cA y5.1),(cC y16.2.1),(cJ a2),(w6 a3.Work [.d (.list (zA av a3.Lengths))]),(cH v12.2),[.d (.int .i64 0),.d (.int .i64 0),.d (.int .i64 0),.d (.int .i64 0),.d (.int .i64 0),.d (.int .i64 0),.d (.int .i64 0),.d (.int .i64 0)],[.d (.int .i64 0),.d (.int .i64 0),.d (.int .i64 0),.d (.int .i64 0),.d (.int .i64 0),.d (.int .i64 0),.d (.bool false)],(cH y15.1)],[(47,v12.1.length)]⟩) q1 (λ_ _=>rfl) (by simp only[seval,FMB,zNI]) (by simp only[seval,FMB,zNI]) ?_ ?_)
 intro i1 e1 v12 q2
 refine .sR λe h=>?_
 simp only[seval,EMB,q2]
 refine mU e (.seqK (.condT rfl (.skip (Mir.toK (.seqK (.block (.sR λe h=>?_))))))) h
 simp only[seval,EMB,und_189,sz_193,q2,zE,ag_193,zero_193]
 refine mU e (.seqK (.bind λy17 h1=>.region λe h=>?_)) h
 simp only[seval,EMB,ag_38,sz_38,fld_143_2,sz_2,ag_2,fld_193_0,sz_24,ag_24]
 refine SpecS.by (tb_Machine_spec h1) (by simp only[seval,FMB]) ?_
 simp only[seval,EMB,bl,sz_24]
 refine mU e (.seqK (.sR λe h=>?_)) h
 simp only[seval,EMB]
 refine mU e (.cond rfl (λh2=>?_) (λh2=>?_)) h
 refine .seqK (.bind λv13 h3=>.region λe h=>?_)
 simp only[seval,EMB]
 refine SpecS.inl Tryz.func97 rfl (by kernel_rfl) (by kernel_rfl) (λv13:Unit=>.tuple [.nil,.agg [.d (.int .i64 0),.d (.int .i64 0),.d (.int .i64 0),.d (.int .i64 0),.d (.int .i64 0),.d (.int .i64 0),.d (.int .i64 0),.d (.int .i64 0)],.agg [.d (.int .i64 0),.d (.int .i64 0),.d (.int .i64 0),.d (.int .i64 0),.d (.int .i64 0),.d (.int .i64 0),.d (.bool false)],.d (.int .i64 y17.2)]) (λv13=>⟨[(cA y5.1),(cC y16.2.1),(cJ a2),(w6 a3.Work [.d (.list (zA av a3.Lengths))]),(cH v12.2),[.d (.int .i64 0),.d (.int .i64 0),.d (.int .i64 0),.d (.int .i64 0),.d (.int .i64 0),.d (.int .i64 0),.d (.int .i64 0),.d (.int .i64 0)],[.d (.int .i64 0),.d (.int .i64 0),.d (.int .i64 0),.d (.int .i64 0),.d (.int .i64 0),.d (.int .i64 0),.d (.bool false)],(cH y15.1),[.d (.int .i64 e1.at_.X),.d (.int .i64 e1.at_.Y),.d (.int .i64 e1.at_.Z),.d (.int .i64 e1.rate)],(cH y17.1)],[(47,v12.1.length)]⟩) h3 rfl ?_ ?_
 simp only[zB,zD,nS,nA,Tryz.ntmps97,SV]
 refine .sR λe h=>?_
 simp only[seval,EMB,bR,bH]
 refine mU e (.sR λe h=>?_) h
 simp only[seval,EMB,bR,kU,bH,pl_86,aS,sz_86]
 refine mU e (.ret λe h=>?_) h
 cases h
 simp only[seval,FMB,Tryz.results97,bp,aS,ag_86,sz_86]
 simp only[seval,EMB,aS,sz_86]
 refine mU e (.ret λe h=>?_) h
 cases h
 simp only[seval,FMB,Tryz.results55,bp,aS,ag_86,sz_86,fx_r,fx_n,xr_o,xr_n,rowT]
 refine .skip (Mir.toK (.seqK (.sR λe h=>?_)))
 simp only[seval,EMB,ag_24,sz_24,gE_24]
 refine mU e (Mir.joinO (λv14:(List ao)=>([U,U,U,U,U,.ptr 0 0,.ptr 1 0,U,.ptr 3 0,.ptr 4 0,U,.ptr 5 0,.ptr 6 0,U,U,U,.d (.int .i64 v9),U,U,.own 0 (zA aI v14),U,U,.ptr 9 0,U,U,U,U,U,U,U,U,U,U,U,U,U,U,U,U,U,U,U,U,U,U,U,U,U,U,U,U,U,U,U,U,U,U,U,U,U,U,U,U,U,U,U,U,U,U,U,U,U,U,U,U,U,U,U,U,U,U,U,U,U,U,U,U,U,U,U,U,U,U,U,U,U,U,U,U,U,U,U,U,U,U,U,U,U,U,U,U,U,U,U,U,U,U,U,U,U,U,U,U,U,U,U,U,U,U,U,U,U,U,U,U,U,U,U,U,U,U,U,U,U,U,U,U,U,U,U,U,U,U,U,U,U,U,U,U,U,U,U,.d (.list (zA aO y16.1)),.d (.int .i64 (y16.1.length:Int)),.d (.int .i64 (i1:Int))]++us 40)) (λv14=>⟨[(cA y5.1),(cC y16.2.1),(cJ a2),(w6 a3.Work [.d (.list (zA av a3.Lengths))]),(cH v12.2),[.d (.int .i64 0),.d (.int .i64 0),.d (.int .i64 0),.d (.int .i64 0),.d (.int .i64 0),.d (.int .i64 0),.d (.int .i64 0),.d (.int .i64 0)],[.d (.int .i64 0),.d (.int .i64 0),.d (.int .i64 0),.d (.int .i64 0),.d (.int .i64 0),.d (.int .i64 0),.d (.bool false)],(cH y15.1),[.d (.int .i64 e1.at_.X),.d (.int .i64 e1.at_.Y),.d (.int .i64 e1.at_.Z),.d (.int .i64 e1.rate)],(cH y17.1)],[(47,v14.length)]⟩) (λ_=>rfl) ?_ ?_) h
 refine .cond rfl (λh4=>?_) (λh4=>?_)
 refine .guard λq3=>.region λe h=>?_
 simp only[seval,EMB,ag_24,sz_24,fld_193_1,sz_2,ag_2,fld_143_6,zero_47,pl_47,cW,sz_47,(oL 9),app_40,fC,q3]
 cases h
 simp only[seval,FMB,Tryz.results55,bp,aS,ag_86,sz_86]
 refine .skip λe h=>?_
 cases h
 simp only[seval,FMB,Tryz.results55,bp,aS,ag_86,sz_86]
 intro v14
 refine Mir.toK (.region λe h=>?_)
 simp only[seval,EMB,ag_24,sz_24]
 refine mU e (.region λe h=>?_) h
 simp only[seval,EMB]
 cases h
 simp only[seval,FMB,Tryz.results55,bp,aS,ag_86,sz_86,q2]
 intro v12 q4
 refine .sR λe h=>?_
 simp only[seval,EMB,q4]
 refine mU e (.seqK (.condF rfl (.exit λe h=>?_))) h
 cases h
 simp only[seval,FMB,Tryz.results55,bp,aS,ag_86,sz_86]
 intro v15
 refine Mir.toK (.seqK (.regionD [(6,11)] (by kernel_rfl) λe h=>?_))
 simp only[seval,EMB,SB,bp,aS,ag_86,sz_86]
 refine mU e (.ret λe h=>?_) h
 cases h
 simp only[seval,FMB,Tryz.results55,bp,aS,ag_86,sz_86,fx_r,fx_n,xr_o,xr_n,rowT]
def inp_End(a0:ag)(a1:(List ao)):Option ag:=if ((a1.length:Int)==0)=true then some a0 else bindO (gt a1 (zH.wrap ((a1.length:Int)-1))) λ(e1:ao)=>some e1.To
theorem cj{a0:ag}{a1:(List ao)}{y:ag}(h:inp_End a0 a1=some y):Spec gP 56 [.agg (cH a0),.d (.list (zA aI a1))] (.agg [.d (.int .i64 y.X),.d (.int .i64 y.Y),.d (.int .i64 y.Z)]):=by
 refine aB Tryz.func56 rfl (by kernel_rfl) (by kernel_rfl) (λy:ag=>.agg [.d (.int .i64 y.X),.d (.int .i64 y.Y),.d (.int .i64 y.Z)]) ?_ h
 unfold inp_End
 simp only[zB,zD,nS,nA,Tryz.ntmps56,SV]
 refine .sR λe h=>?_
 simp only[seval,EMB,bl]
 refine mU e (.seqK (.sR λe h=>?_)) h
 simp only[seval,EMB,cW]
 refine mU e (.cond rfl (λhb2=>?_) (λhb2=>?_)) h
 refine .sR λe h=>?_
 simp only[seval,EMB,ag_24,sz_24]
 refine mU e (.ret λe h=>?_) h
 cases h
 simp only[seval,FMB,Tryz.results56,ag_24,sz_24]
 refine .skip (Mir.toK (.seqK (.bind λe1 q3=>?_)))
 replace q3:=gt_ok q3
 refine .region λe h=>?_
 simp only[seval,EMB,cW,sz_47,q3,fld_47_1,sz_24,ag_24]
 refine mU e (.ret λe h=>?_) h
 cases h
 simp only[seval,FMB,Tryz.results56,ag_24,sz_24]
def cD(a0:(List ac))(a1:aw)(a2:ag):Option ((List ao)×aM):=bindO (bC a1 a2) λ(y1:Int)=>if (y1 != 0)=true then some ([],aM.mk (-1) y1)else bindO (md_New ) λ(y2:am)=>bindX (aF (okIdx a0) ( aU (λ(i1:Nat) (e1:ac) (v1:(List ao)×ag×am×ak)=>bindX (bindO (fW v1.2.2.1 v1.2.2.2 e1 (aw.mk a1.Work a1.Lengths) v1.2.1) λ(y3:(List ao)×am×ak×Int)=>bindO (if (y3.2.2.2==0)=true then some (decide ((zH.wrap ((v1.1.length:Int)+(y3.1.length:Int)))>20000))else some false) λ(v2:Bool)=>bindO (if v2=true then some 3 else some y3.2.2.2) λ(v3:Int)=>if (v3 != 0)=true then some (.ret (.ret (.ret (v1.1,aM.mk (i1:Int) v3))))else bindO (aF (okIdx y3.1) ( aU (λ(i2:Nat) (e2:ao) (v4:(List ao))=>bindO (gt v4 (i2:Int)) λ(e3:ao)=>some (.go (v4.set (Int.toNat (i2:Int)) (ao.mk e3.From e3.To e3.Rate e3.Tool (i1:Int))))) (λ(v4:(List ao))=>some v4) y3.1 0 y3.1)) λ(v5:(List ao))=>aF (okLen (v1.1.length+v5.length)) ( bindO (inp_End v1.2.1 v5) λ(y4:ag)=>bindO (gf e1 77) λ(y5:(List Int))=>bindO (aY y5 30000) λ(y6:Bool)=>if y6=true then some (.ret (.ret (.ret (v1.1++v5,aM.mk (-1) 0))))else some (.go (v1.1++v5,y4,y3.2.1,y3.2.2.1)))) λ(v6:(List ao)×ag×am×ak)=>some (.go (v6.1,v6.2.1,v6.2.2.1,v6.2.2.2))) (λ(v1:(List ao)×ag×am×ak)=>some (.go (v1.1,v1.2.1,v1.2.2.1,v1.2.2.2))) a0 0 ([],a2,y2,ak.mk 0 0 0 0 0 0 false))) λ(v7:(List ao)×ag×am×ak)=>some (v7.1,aM.mk (a0.length:Int) 13)
theorem gB{a0:(List ac)}{a1:aw}{a2:ag}{y:(List ao)×aM}(h:cD a0 a1 a2=some y):Spec gP 25 [.d (.list (zA aa a0)),.agg (w6 a1.Work [.d (.list (zA av a1.Lengths))]),.agg (cH a2)] (.tuple [.d (.list (zA aI y.1)),.agg [.d (.int .i64 y.2.Block),.d (.int .i64 y.2.Code)]]):=by
 refine aB Tryz.func25 rfl (by kernel_rfl) (by kernel_rfl) (λy:(List ao)×aM=>.tuple [.d (.list (zA aI y.1)),.agg [.d (.int .i64 y.2.Block),.d (.int .i64 y.2.Code)]]) ?_ h
 unfold cD
 simp only[zB,zD,nS,nA,Tryz.ntmps25,SV]
 refine .sR λe h=>?_
 simp only[seval,EMB,cq,al,spD]
 refine mU e (.seqK (.seqK (.bind λy1 hy1=>.region λe h=>?_))) h
 simp only[seval,EMB,ag_38,sz_38,ag_24,sz_24,al,spD]
 refine SpecS.by (fJ hy1) (by simp only[seval,FMB,al,spD]) ?_
 simp only[seval,EMB,al,spD]
 refine mU e (.sR λe h=>?_) h
 simp only[seval,EMB,al,spD]
 refine mU e (.cond rfl (λhb3=>?_) (λhb3=>?_)) h
 refine .sR λe h=>?_
 simp only[seval,EMB,cq,pl_42,sz_42]
 refine mU e (.ret λe h=>?_) h
 cases h
 simp only[seval,FMB,Tryz.results25,ag_42,sz_42]
 refine .skip (Mir.toK (.seqK (.bind λy2 hy4=>.region λe h=>?_)))
 simp only[seval,EMB,al,spD]
 refine SpecS.by (md_New_spec hy4) (rfl) ?_
 simp only[seval,EMB,bH,pl_86,bR,aS,sz_86,al,spD]
 refine mU e (.sR λe h=>?_) h
 simp only[seval,EMB,al,spD]
 refine mU e (.seqK (.sR λe h=>?_)) h
 simp only[seval,EMB,aE,al,spD]
 refine mU e (.gh [.slot 11 47] rfl (Mir.join (λv7:(List ao)×ag×am×ak=>([.d (.list (zA aa a0)),U,U,U,U,U,U,.ptr 2 0,U,U,U,.own 0 (zA aI v7.1)]++us 79)) (λv7=>⟨[(w6 a1.Work [.d (.list (zA av a1.Lengths))]),(cH v7.2.1),[.d (.int .i64 0),.d (.int .i64 0)],(cA v7.2.2.1),(cC v7.2.2.2)],[(47,v7.1.length)]⟩) (λ_=>rfl) ?_ ?_)) h
 refine .block (.guard λq1=>Mir.range (λ(i1:Nat) (v1:(List ao)×ag×am×ak)=>([.d (.list (zA aa a0)),U,U,U,.ptr 0 0,.ptr 1 0,U,.ptr 2 0,U,.ptr 3 0,.ptr 4 0,.own 0 (zA aI v1.1),U,U,U,U,U,U,U,U,U,U,U,U,U,U,U,U,.d (.list (zA aa a0)),.d (.int .i64 (a0.length:Int)),.d (.int .i64 (i1:Int))]++us 60)) (λi1 v1=>⟨[(w6 a1.Work [.d (.list (zA av a1.Lengths))]),(cH v1.2.1),[.d (.int .i64 0),.d (.int .i64 0)],(cA v1.2.2.1),(cC v1.2.2.2)],[(47,v1.1.length)]⟩) q1 (λ_ _=>rfl) (by simp only[seval,FMB,al,spD,zNI]) (by simp only[seval,FMB,al,spD,zNI]) ?_ ?_)
 intro i1 e1 v1 q2
 refine .sR λe h=>?_
 simp only[seval,EMB,q2,al,spD]
 refine mU e (.seqK (.condT rfl (.skip (Mir.toK (.seqK (Mir.join (λv6:(List ao)×ag×am×ak=>([.d (.list (zA aa a0)),U,U,U,.ptr 0 0,.ptr 1 0,U,.ptr 2 0,U,.ptr 3 0,.ptr 4 0,.own 0 (zA aI v6.1),U,U,U,U,U,U,U,U,U,U,U,U,U,U,U,U,.d (.list (zA aa a0)),.d (.int .i64 (a0.length:Int)),.d (.int .i64 (i1:Int))]++us 60)) (λv6=>⟨[(w6 a1.Work [.d (.list (zA av a1.Lengths))]),(cH v6.2.1),[.d (.int .i64 0),.d (.int .i64 0)],(cA v6.2.2.1),(cC v6.2.2.2)],[(47,v6.1.length)]⟩) (λ_=>rfl) ?_ ?_)))))) h
 refine .block (.sR λe h=>?_)
 simp only[seval,EMB,aE,sz_58,q2,zE,ag_58,aC,al,spD]
 refine mU e (.seqK (.bind λy3 h1=>.region λe h=>?_)) h
 simp only[seval,EMB,bp,aS,ag_86,sz_86,ag_58,sz_58,ag_38,sz_38,ag_24,sz_24,al,spD]
 refine SpecX.toS (inp_Step_specX h1) (by simp only[seval,FMB,al,spD]) ?_
 simp only[seval,EMB,bR,bH,aS,sz_86,al,spD]
 refine mU e (.seqK (.seqK (Mir.joinO (λv2:Bool=>([.d (.list (zA aa a0)),U,U,U,.ptr 0 0,.ptr 1 0,U,.ptr 2 0,U,.ptr 3 0,.ptr 4 0,.own 0 (zA aI v1.1),.d (.int .i64 (i1:Int)),.ptr 5 0,.gr 6 0,.ptr 7 0,.ptr 8 0,.d (.int .i64 y3.2.2.2),U,U,U,U,U,U,U,U,U,U,.d (.list (zA aa a0)),.d (.int .i64 (a0.length:Int)),.d (.int .i64 (i1:Int)),U,U,U,U,U,U,U,U,U,U,U,U,U,U,U,U,U,U,U,U,U,U,U,U,.d (.bool v2)]++us 35)) (λv2=>⟨[(w6 a1.Work [.d (.list (zA av a1.Lengths))]),(cH v1.2.1),[.d (.int .i64 0),.d (.int .i64 0)],(cA v1.2.2.1),(cC v1.2.2.2),(cJ e1),[.rowc 47 0 (zA aI y3.1)],(cA y3.2.1),(cC y3.2.2.1)],[(47,v1.1.length)]⟩) (λ_=>rfl) ?_ ?_))) h
 refine .ite (λh2=>?_) (λh2=>?_)
 refine .regionW λe h=>regW.alt 6 rfl ?_
 simp only[seval,EMB,ah,w_eq,cW,al,spD,h2]
 refine alt_lenR rfl rfl cW (regW.of ?_)
 simp only[seval,EMB,ah,w_eq,cW,al,spD,h2]
 cases h
 simp only[seval,FMB,al,spD,h2]
 refine .region λe h=>?_
 simp only[seval,EMB,al,spD,h2]
 cases h
 simp only[seval,FMB,al,spD,h2]
 intro v2
 refine Mir.toK (Mir.joinO (λv3:Int=>([.d (.list (zA aa a0)),U,U,U,.ptr 0 0,.ptr 1 0,U,.ptr 2 0,U,.ptr 3 0,.ptr 4 0,.own 0 (zA aI v1.1),.d (.int .i64 (i1:Int)),.ptr 5 0,.gr 6 0,.ptr 7 0,.ptr 8 0,.d (.int .i64 v3),U,U,U,U,U,U,U,U,U,U,.d (.list (zA aa a0)),.d (.int .i64 (a0.length:Int)),.d (.int .i64 (i1:Int))]++us 60)) (λv3=>⟨[(w6 a1.Work [.d (.list (zA av a1.Lengths))]),(cH v1.2.1),[.d (.int .i64 0),.d (.int .i64 0)],(cA v1.2.2.1),(cC v1.2.2.2),(cJ e1),[.rowc 47 0 (zA aI y3.1)],(cA y3.2.1),(cC y3.2.2.1)],[(47,v1.1.length)]⟩) (λ_=>rfl) ?_ ?_)
 refine .cond rfl (λh3=>?_) (λh3=>?_)
 refine .region λe h=>?_
 simp only[seval,EMB,al,spD]
 cases h
 simp only[seval,FMB,al,spD,Tryz.results25,ag_42,sz_42]
 refine .skip λe h=>?_
 cases h
 simp only[seval,FMB,al,spD,Tryz.results25,ag_42,sz_42]
 intro v3
 refine Mir.toK (.seqK (.sR λe h=>?_))
 simp only[seval,EMB,al,spD]
 refine mU e (.cond rfl (λh4=>?_) (λh4=>?_)) h
 refine .sR λe h=>?_
 simp only[seval,EMB,cq,pl_42,sz_42,al,spD]
 refine mU e (.ret λe h=>?_) h
 cases h
 simp only[seval,FMB,al,spD,Tryz.results25,ag_42,sz_42]
 refine .skip (Mir.toK (.seqK (.seqK (.regionW λe h=>regW.alt 1 rfl ?_))))
 simp only[seval,EMB,ah,w_eq,al,spD]
 refine alt_lenR rfl rfl cW (regW.of ?_)
 simp only[seval,EMB,ah,w_eq,cW,al,spD]
 refine mU e (Mir.joinO (λv5:(List ao)=>([.d (.list (zA aa a0)),U,U,U,.ptr 0 0,.ptr 1 0,U,.ptr 2 0,U,.ptr 3 0,.ptr 4 0,.own 0 (zA aI v1.1),U,.ptr 5 0,.gr 6 0,.ptr 7 0,.ptr 8 0,U,U,U,U,U,U,U,U,U,U,U,.d (.list (zA aa a0)),.d (.int .i64 (a0.length:Int)),.d (.int .i64 (i1:Int))]++us 60)) (λv5=>⟨[(w6 a1.Work [.d (.list (zA av a1.Lengths))]),(cH v1.2.1),[.d (.int .i64 0),.d (.int .i64 0)],(cA v1.2.2.1),(cC v1.2.2.2),(cJ e1),[.rowc 47 0 (zA aI v5)],(cA y3.2.1),(cC y3.2.2.1)],[(47,v1.1.length)]⟩) (λ_=>rfl) ?_ ?_) h
 refine .block (.guard λq3=>Mir.range (λ(i2:Nat) (v4:(List ao))=>([.d (.list (zA aa a0)),U,U,U,.ptr 0 0,.ptr 1 0,U,.ptr 2 0,U,.ptr 3 0,.ptr 4 0,.own 0 (zA aI v1.1),.d (.int .i64 (i1:Int)),.ptr 5 0,.gr 6 0,.ptr 7 0,.ptr 8 0,U,U,U,U,U,U,U,U,U,U,U,.d (.list (zA aa a0)),.d (.int .i64 (a0.length:Int)),.d (.int .i64 (i1:Int)),U,U,U,U,U,U,U,U,U,U,U,U,U,U,U,U,U,U,U,U,U,U,U,U,U,U,U,U,U,U,U,U,.d (.int .i64 (y3.1.length:Int)),.d (.int .i64 (i2:Int))]++us 26)) (λi2 v4=>⟨[(w6 a1.Work [.d (.list (zA av a1.Lengths))]),(cH v1.2.1),[.d (.int .i64 0),.d (.int .i64 0)],(cA v1.2.2.1),(cC v1.2.2.2),(cJ e1),[.rowc 47 0 (zA aI v4)],(cA y3.2.1),(cC y3.2.2.1)],[(47,v1.1.length)]⟩) q3 (λ_ _=>rfl) (by simp only[seval,FMB,al,spD,zNI]) (by simp only[seval,FMB,al,spD,zNI]) ?_ ?_)
 intro i2 e2 v4 q4
 refine .sR λe h=>?_
 simp only[seval,EMB,q4,al,spD]
 refine mU e (.seqK (.condT rfl (.skip (Mir.toK (.seqK (.block (.sR λe h=>?_))))))) h
 simp only[seval,EMB,al,spD]
 refine mU e (.bind λe3 q5=>?_) h
 replace q5:=gt_ok q5
 refine .regionW λe h=>regW.alt 3 rfl ?_
 simp only[seval,EMB,ah,w_eq,al,spD]
 refine alt_indexR rfl rfl rfl cW sz_47 (row_lo q5.1) (row_hi q5.2 q5.1) (regW.alt 0 rfl ?_)
 simp only[seval,EMB,ah,w_eq,cW,sz_47,al,spD]
 refine alt_fieldR rfl rfl fld_47_4 sz_3 (by decide) (regW.alt 0 rfl ?_)
 simp only[seval,EMB,ah,w_eq,fld_47_4,sz_3,al,spD]
 refine alt_storeR rfl rfl (row_at q5.2) rfl rfl sz_3 rfl (Nat.le_of_ble_eq_true rfl) (regW.of ?_)
 simp only[seval,EMB,ah,w_eq,sz_3,al,spD]
 refine mU e (.region λe h=>?_) h
 simp only[seval,EMB,al,spD]
 cases h
 simp only[seval,FMB,al,spD,Tryz.results25,ag_42,sz_42,q4]
 intro v4 q6
 refine .sR λe h=>?_
 simp only[seval,EMB,q6,al,spD]
 refine mU e (.seqK (.condF rfl (.exit λe h=>?_))) h
 cases h
 simp only[seval,FMB,al,spD,Tryz.results25,ag_42,sz_42]
 intro v5
 refine Mir.toK (.seqK (.guard λq7=>.regionW λe h=>regW.alt 2 rfl ?_))
 simp only[seval,EMB,ah,w_eq,al,spD]
 refine alt_appOwnR rfl rfl rfl app_40 (by kernel_rfl) (by simp only[ge0,geS,lm,xMA,xLA]) fC (ok2 q7 (by simp only[lm]) (by simp only[lm])) (regW.of ?_)
 simp only[seval,EMB,ah,w_eq,lm,al,spD]
 refine mU e (.seqK (.bind λy4 h5=>Mir.regionA 0 [] ([.d (.list (zA aa a0)),U,U,U,.ptr 0 0,.ptr 1 0,U,.ptr 2 0,U,.ptr 3 0,.ptr 4 0,.own 0 (zA aI (v1.1++v5)),U,.ptr 5 0,.gr 6 0,.ptr 7 0,.ptr 8 0,U,U,U,U,U,U,U,U,U,U,U,.d (.list (zA aa a0)),.d (.int .i64 (a0.length:Int)),.d (.int .i64 (i1:Int)),U,U,U,U,U,U,U,U,U,U,U,U,U,U,U,U,U,U,U,U,U,U,U,U,U,U,U,U,U,U,U,U,U,U,U,U,U,U,U,U,U,U,.own 0 (zA aI v1.1),.gr 6 0,.own 0 (zA aI (v1.1++v5)),.agg (cA y3.2.1),.agg (cC y3.2.2.1),.agg (cH v1.2.1),.gr 6 0,.agg (cH y4)]++us 10) ⟨[(w6 a1.Work [.d (.list (zA av a1.Lengths))]),(cH y4),[.d (.int .i64 0),.d (.int .i64 0)],(cA y3.2.1),(cC y3.2.2.1),(cJ e1),[.rowc 47 0 (zA aI v5)],(cA y3.2.1),(cC y3.2.2.1)],[(47,(v1.1++v5).length)]⟩ (by kernel_rfl) (λe h=>?_) (λe h=>?_))) h
 simp only[seval,EMB,ah,w_eq,SB,al,spD]
 refine regA.moveB (j:=3) (by kernel_rfl) rfl rfl ?_
 simp only[seval,EMB,ah,w_eq,al,spD]
 refine regA.three (j:=0) (k:=1) (l:=2) (by kernel_rfl) rfl rfl rfl ?_ ?_ ?_
 refine regW.of ?_
 simp only[seval,EMB,ah,w_eq,bp,aS,al,spD]
 refine regA.two (j:=1) (k:=2) (by kernel_rfl) rfl rfl ?_ ?_
 refine regW.of ?_
 simp only[seval,EMB,ah,w_eq,ag_86,sz_86,al,spD]
 refine regA.one (j:=2) (by kernel_rfl) rfl (regW.of ?_)
 simp only[seval,EMB,ah,w_eq,ag_24,sz_24,al,spD]
 refine regA.one (j:=4) (by kernel_rfl) rfl (regW.of ?_)
 simp only[seval,EMB,ah,w_eq,al,spD]
 refine SpecS.byZ (cj h5) rfl rfl ?_
 simp only[seval,EMB,ah,w_eq,al,spD]
 refine regA.one (j:=5) (by kernel_rfl) rfl (regW.of ?_)
 simp only[seval,EMB,ah,w_eq,aS,al,spD]
 refine regA.one (j:=6) (by kernel_rfl) rfl (regW.of ?_)
 simp only[seval,EMB,ah,w_eq,sz_86,al,spD]
 refine regA.one (j:=7) (by kernel_rfl) rfl (regW.of ?_)
 simp only[seval,EMB,ah,w_eq,sz_24,al,spD]
 exact regA.nil (by kernel_rfl) ⟨by first | rfl | simp only[seval,FMB,al,spD,xMA,xLA],by first | rfl | simp only[seval,FMB,al,spD,xMA,xLA]⟩
 refine regW.of ?_
 simp only[seval,EMB,ah,w_eq,ag_24,sz_24,al,spD]
 refine regA.two (j:=1) (k:=4) (by kernel_rfl) rfl rfl ?_ ?_
 refine regW.of ?_
 simp only[seval,EMB,ah,w_eq,ag_86,sz_86,al,spD]
 refine regA.one (j:=4) (by kernel_rfl) rfl (regW.of ?_)
 simp only[seval,EMB,ah,w_eq,al,spD]
 refine SpecS.byZ (cj h5) rfl rfl ?_
 simp only[seval,EMB,ah,w_eq,al,spD]
 refine regA.one (j:=5) (by kernel_rfl) rfl (regW.of ?_)
 simp only[seval,EMB,ah,w_eq,aS,al,spD]
 refine regA.one (j:=6) (by kernel_rfl) rfl (regW.of ?_)
 simp only[seval,EMB,ah,w_eq,sz_86,al,spD]
 refine regA.one (j:=7) (by kernel_rfl) rfl (regW.of ?_)
 simp only[seval,EMB,ah,w_eq,sz_24,al,spD]
 exact regA.nil (by kernel_rfl) ⟨by first | rfl | simp only[seval,FMB,al,spD,xMA,xLA],by first | rfl | simp only[seval,FMB,al,spD,xMA,xLA]⟩
 refine regW.of ?_
 simp only[seval,EMB,ah,w_eq,al,spD]
 refine SpecS.byZ (cj h5) rfl rfl ?_
 simp only[seval,EMB,ah,w_eq,al,spD]
 refine regA.two (j:=1) (k:=5) (by kernel_rfl) rfl rfl ?_ ?_
 refine regW.of ?_
 simp only[seval,EMB,ah,w_eq,ag_86,sz_86,al,spD]
 refine regA.one (j:=5) (by kernel_rfl) rfl (regW.of ?_)
 simp only[seval,EMB,ah,w_eq,aS,al,spD]
 refine regA.one (j:=6) (by kernel_rfl) rfl (regW.of ?_)
 simp only[seval,EMB,ah,w_eq,sz_86,al,spD]
 refine regA.one (j:=7) (by kernel_rfl) rfl (regW.of ?_)
 simp only[seval,EMB,ah,w_eq,sz_24,al,spD]
 exact regA.nil (by kernel_rfl) ⟨by first | rfl | simp only[seval,FMB,al,spD,xMA,xLA],by first | rfl | simp only[seval,FMB,al,spD,xMA,xLA]⟩
 refine regW.of ?_
 simp only[seval,EMB,ah,w_eq,aS,al,spD]
 refine regA.one (j:=1) (by kernel_rfl) rfl (regW.of ?_)
 simp only[seval,EMB,ah,w_eq,ag_86,sz_86,al,spD]
 refine regA.one (j:=6) (by kernel_rfl) rfl (regW.of ?_)
 simp only[seval,EMB,ah,w_eq,sz_86,al,spD]
 refine regA.one (j:=7) (by kernel_rfl) rfl (regW.of ?_)
 simp only[seval,EMB,ah,w_eq,sz_24,al,spD]
 exact regA.nil (by kernel_rfl) ⟨by first | rfl | simp only[seval,FMB,al,spD,xMA,xLA],by first | rfl | simp only[seval,FMB,al,spD,xMA,xLA]⟩
 refine regW.of ?_
 simp only[seval,EMB,ah,w_eq,ag_86,sz_86,al,spD]
 refine regA.two (j:=0) (k:=2) (by kernel_rfl) rfl rfl ?_ ?_
 refine regW.of ?_
 simp only[seval,EMB,ah,w_eq,bp,aS,al,spD]
 refine regA.one (j:=2) (by kernel_rfl) rfl (regW.of ?_)
 simp only[seval,EMB,ah,w_eq,ag_24,sz_24,al,spD]
 refine regA.one (j:=4) (by kernel_rfl) rfl (regW.of ?_)
 simp only[seval,EMB,ah,w_eq,al,spD]
 refine SpecS.byZ (cj h5) rfl rfl ?_
 simp only[seval,EMB,ah,w_eq,al,spD]
 refine regA.one (j:=5) (by kernel_rfl) rfl (regW.of ?_)
 simp only[seval,EMB,ah,w_eq,aS,al,spD]
 refine regA.one (j:=6) (by kernel_rfl) rfl (regW.of ?_)
 simp only[seval,EMB,ah,w_eq,sz_86,al,spD]
 refine regA.one (j:=7) (by kernel_rfl) rfl (regW.of ?_)
 simp only[seval,EMB,ah,w_eq,sz_24,al,spD]
 exact regA.nil (by kernel_rfl) ⟨by first | rfl | simp only[seval,FMB,al,spD,xMA,xLA],by first | rfl | simp only[seval,FMB,al,spD,xMA,xLA]⟩
 refine regW.of ?_
 simp only[seval,EMB,ah,w_eq,ag_24,sz_24,al,spD]
 refine regA.two (j:=0) (k:=4) (by kernel_rfl) rfl rfl ?_ ?_
 refine regW.of ?_
 simp only[seval,EMB,ah,w_eq,bp,aS,al,spD]
 refine regA.one (j:=4) (by kernel_rfl) rfl (regW.of ?_)
 simp only[seval,EMB,ah,w_eq,al,spD]
 refine SpecS.byZ (cj h5) rfl rfl ?_
 simp only[seval,EMB,ah,w_eq,al,spD]
 refine regA.one (j:=5) (by kernel_rfl) rfl (regW.of ?_)
 simp only[seval,EMB,ah,w_eq,aS,al,spD]
 refine regA.one (j:=6) (by kernel_rfl) rfl (regW.of ?_)
 simp only[seval,EMB,ah,w_eq,sz_86,al,spD]
 refine regA.one (j:=7) (by kernel_rfl) rfl (regW.of ?_)
 simp only[seval,EMB,ah,w_eq,sz_24,al,spD]
 exact regA.nil (by kernel_rfl) ⟨by first | rfl | simp only[seval,FMB,al,spD,xMA,xLA],by first | rfl | simp only[seval,FMB,al,spD,xMA,xLA]⟩
 refine regW.of ?_
 simp only[seval,EMB,ah,w_eq,al,spD]
 refine SpecS.byZ (cj h5) rfl rfl ?_
 simp only[seval,EMB,ah,w_eq,al,spD]
 refine regA.one (j:=0) (by kernel_rfl) rfl (regW.of ?_)
 simp only[seval,EMB,ah,w_eq,bp,aS,al,spD]
 refine regA.one (j:=5) (by kernel_rfl) rfl (regW.of ?_)
 simp only[seval,EMB,ah,w_eq,aS,al,spD]
 refine regA.one (j:=6) (by kernel_rfl) rfl (regW.of ?_)
 simp only[seval,EMB,ah,w_eq,sz_86,al,spD]
 refine regA.one (j:=7) (by kernel_rfl) rfl (regW.of ?_)
 simp only[seval,EMB,ah,w_eq,sz_24,al,spD]
 exact regA.nil (by kernel_rfl) ⟨by first | rfl | simp only[seval,FMB,al,spD,xMA,xLA],by first | rfl | simp only[seval,FMB,al,spD,xMA,xLA]⟩
 refine regW.of ?_
 simp only[seval,EMB,ah,w_eq,ag_24,sz_24,al,spD]
 refine regA.three (j:=0) (k:=1) (l:=4) (by kernel_rfl) rfl rfl rfl ?_ ?_ ?_
 refine regW.of ?_
 simp only[seval,EMB,ah,w_eq,bp,aS,al,spD]
 refine regA.two (j:=1) (k:=4) (by kernel_rfl) rfl rfl ?_ ?_
 refine regW.of ?_
 simp only[seval,EMB,ah,w_eq,ag_86,sz_86,al,spD]
 refine regA.one (j:=4) (by kernel_rfl) rfl (regW.of ?_)
 simp only[seval,EMB,ah,w_eq,al,spD]
 refine SpecS.byZ (cj h5) rfl rfl ?_
 simp only[seval,EMB,ah,w_eq,al,spD]
 refine regA.one (j:=5) (by kernel_rfl) rfl (regW.of ?_)
 simp only[seval,EMB,ah,w_eq,aS,al,spD]
 refine regA.one (j:=6) (by kernel_rfl) rfl (regW.of ?_)
 simp only[seval,EMB,ah,w_eq,sz_86,al,spD]
 refine regA.one (j:=7) (by kernel_rfl) rfl (regW.of ?_)
 simp only[seval,EMB,ah,w_eq,sz_24,al,spD]
 exact regA.nil (by kernel_rfl) ⟨by first | rfl | simp only[seval,FMB,al,spD,xMA,xLA],by first | rfl | simp only[seval,FMB,al,spD,xMA,xLA]⟩
 refine regW.of ?_
 simp only[seval,EMB,ah,w_eq,al,spD]
 refine SpecS.byZ (cj h5) rfl rfl ?_
 simp only[seval,EMB,ah,w_eq,al,spD]
 refine regA.two (j:=1) (k:=5) (by kernel_rfl) rfl rfl ?_ ?_
 refine regW.of ?_
 simp only[seval,EMB,ah,w_eq,ag_86,sz_86,al,spD]
 refine regA.one (j:=5) (by kernel_rfl) rfl (regW.of ?_)
 simp only[seval,EMB,ah,w_eq,aS,al,spD]
 refine regA.one (j:=6) (by kernel_rfl) rfl (regW.of ?_)
 simp only[seval,EMB,ah,w_eq,sz_86,al,spD]
 refine regA.one (j:=7) (by kernel_rfl) rfl (regW.of ?_)
 simp only[seval,EMB,ah,w_eq,sz_24,al,spD]
 exact regA.nil (by kernel_rfl) ⟨by first | rfl | simp only[seval,FMB,al,spD,xMA,xLA],by first | rfl | simp only[seval,FMB,al,spD,xMA,xLA]⟩
 refine regW.of ?_
 simp only[seval,EMB,ah,w_eq,aS,al,spD]
 refine regA.one (j:=1) (by kernel_rfl) rfl (regW.of ?_)
 simp only[seval,EMB,ah,w_eq,ag_86,sz_86,al,spD]
 refine regA.one (j:=6) (by kernel_rfl) rfl (regW.of ?_)
 simp only[seval,EMB,ah,w_eq,sz_86,al,spD]
 refine regA.one (j:=7) (by kernel_rfl) rfl (regW.of ?_)
 simp only[seval,EMB,ah,w_eq,sz_24,al,spD]
 exact regA.nil (by kernel_rfl) ⟨by first | rfl | simp only[seval,FMB,al,spD,xMA,xLA],by first | rfl | simp only[seval,FMB,al,spD,xMA,xLA]⟩
 refine regW.of ?_
 simp only[seval,EMB,ah,w_eq,ag_86,sz_86,al,spD]
 refine regA.two (j:=0) (k:=4) (by kernel_rfl) rfl rfl ?_ ?_
 refine regW.of ?_
 simp only[seval,EMB,ah,w_eq,bp,aS,al,spD]
 refine regA.one (j:=4) (by kernel_rfl) rfl (regW.of ?_)
 simp only[seval,EMB,ah,w_eq,al,spD]
 refine SpecS.byZ (cj h5) rfl rfl ?_
 simp only[seval,EMB,ah,w_eq,al,spD]
 refine regA.one (j:=5) (by kernel_rfl) rfl (regW.of ?_)
 simp only[seval,EMB,ah,w_eq,aS,al,spD]
 refine regA.one (j:=6) (by kernel_rfl) rfl (regW.of ?_)
 simp only[seval,EMB,ah,w_eq,sz_86,al,spD]
 refine regA.one (j:=7) (by kernel_rfl) rfl (regW.of ?_)
 simp only[seval,EMB,ah,w_eq,sz_24,al,spD]
 exact regA.nil (by kernel_rfl) ⟨by first | rfl | simp only[seval,FMB,al,spD,xMA,xLA],by first | rfl | simp only[seval,FMB,al,spD,xMA,xLA]⟩
 refine regW.of ?_
 simp only[seval,EMB,ah,w_eq,al,spD]
 refine SpecS.byZ (cj h5) rfl rfl ?_
 simp only[seval,EMB,ah,w_eq,al,spD]
 refine regA.one (j:=0) (by kernel_rfl) rfl (regW.of ?_)
 simp only[seval,EMB,ah,w_eq,bp,aS,al,spD]
 refine regA.one (j:=5) (by kernel_rfl) rfl (regW.of ?_)
 simp only[seval,EMB,ah,w_eq,aS,al,spD]
 refine regA.one (j:=6) (by kernel_rfl) rfl (regW.of ?_)
 simp only[seval,EMB,ah,w_eq,sz_86,al,spD]
 refine regA.one (j:=7) (by kernel_rfl) rfl (regW.of ?_)
 simp only[seval,EMB,ah,w_eq,sz_24,al,spD]
 exact regA.nil (by kernel_rfl) ⟨by first | rfl | simp only[seval,FMB,al,spD,xMA,xLA],by first | rfl | simp only[seval,FMB,al,spD,xMA,xLA]⟩
 refine regW.of ?_
 simp only[seval,EMB,ah,w_eq,al,spD]
 refine SpecS.byZ (cj h5) rfl rfl ?_
 simp only[seval,EMB,ah,w_eq,al,spD]
 refine regA.two (j:=0) (k:=1) (by kernel_rfl) rfl rfl ?_ ?_
 refine regW.of ?_
 simp only[seval,EMB,ah,w_eq,bp,aS,al,spD]
 refine regA.two (j:=1) (k:=5) (by kernel_rfl) rfl rfl ?_ ?_
 refine regW.of ?_
 simp only[seval,EMB,ah,w_eq,ag_86,sz_86,al,spD]
 refine regA.one (j:=5) (by kernel_rfl) rfl (regW.of ?_)
 simp only[seval,EMB,ah,w_eq,aS,al,spD]
 refine regA.one (j:=6) (by kernel_rfl) rfl (regW.of ?_)
 simp only[seval,EMB,ah,w_eq,sz_86,al,spD]
 refine regA.one (j:=7) (by kernel_rfl) rfl (regW.of ?_)
 simp only[seval,EMB,ah,w_eq,sz_24,al,spD]
 exact regA.nil (by kernel_rfl) ⟨by first | rfl | simp only[seval,FMB,al,spD,xMA,xLA],by first | rfl | simp only[seval,FMB,al,spD,xMA,xLA]⟩
 refine regW.of ?_
 simp only[seval,EMB,ah,w_eq,aS,al,spD]
 refine regA.one (j:=1) (by kernel_rfl) rfl (regW.of ?_)
 simp only[seval,EMB,ah,w_eq,ag_86,sz_86,al,spD]
 refine regA.one (j:=6) (by kernel_rfl) rfl (regW.of ?_)
 simp only[seval,EMB,ah,w_eq,sz_86,al,spD]
 refine regA.one (j:=7) (by kernel_rfl) rfl (regW.of ?_)
 simp only[seval,EMB,ah,w_eq,sz_24,al,spD]
 exact regA.nil (by kernel_rfl) ⟨by first | rfl | simp only[seval,FMB,al,spD,xMA,xLA],by first | rfl | simp only[seval,FMB,al,spD,xMA,xLA]⟩
 refine regW.of ?_
 simp only[seval,EMB,ah,w_eq,ag_86,sz_86,al,spD]
 refine regA.one (j:=0) (by kernel_rfl) rfl (regW.of ?_)
 simp only[seval,EMB,ah,w_eq,bp,aS,al,spD]
 refine regA.one (j:=5) (by kernel_rfl) rfl (regW.of ?_)
 simp only[seval,EMB,ah,w_eq,aS,al,spD]
 refine regA.one (j:=6) (by kernel_rfl) rfl (regW.of ?_)
 simp only[seval,EMB,ah,w_eq,sz_86,al,spD]
 refine regA.one (j:=7) (by kernel_rfl) rfl (regW.of ?_)
 simp only[seval,EMB,ah,w_eq,sz_24,al,spD]
 exact regA.nil (by kernel_rfl) ⟨by first | rfl | simp only[seval,FMB,al,spD,xMA,xLA],by first | rfl | simp only[seval,FMB,al,spD,xMA,xLA]⟩
 refine mU e (.seqK (.bind λy5 h6=>.bind λy6 h7=>.region λe h=>?_)) h
 simp only[seval,EMB,ag_58,sz_58,al,spD]
 refine SpecS.by (cf h6) (by simp only[seval,FMB,al,spD]) ?_
 simp only[seval,EMB,al,spD]
 refine SpecS.by (bZ h7) (by simp only[seval,FMB,al,spD]) ?_
 simp only[seval,EMB,al,spD]
 refine mU e (.cond rfl (λh8=>?_) (λh8=>?_)) h
 refine .sR λe h=>?_
 simp only[seval,EMB,cq,pl_42,sz_42,al,spD]
 refine mU e (.ret λe h=>?_) h
 cases h
 simp only[seval,FMB,al,spD,Tryz.results25,ag_42,sz_42]
 refine .skip λe h=>?_
 cases h
 simp only[seval,FMB,al,spD,Tryz.results25,ag_42,sz_42]
 intro v6
 refine Mir.toK (.region λe h=>?_)
 simp only[seval,EMB,al,spD]
 cases h
 simp only[seval,FMB,al,spD,Tryz.results25,ag_42,sz_42,q2]
 intro v1 q8
 refine .sR λe h=>?_
 simp only[seval,EMB,q8,al,spD]
 refine mU e (.seqK (.condF rfl (.exit λe h=>?_))) h
 cases h
 simp only[seval,FMB,al,spD,Tryz.results25,ag_42,sz_42]
 intro v7
 refine Mir.toK (.sR λe h=>?_)
 simp only[seval,EMB,aE,cq,pl_42,sz_42,al,spD]
 refine mU e (.ret λe h=>?_) h
 cases h
 simp only[seval,FMB,al,spD,Tryz.results25,ag_42,sz_42]
def inp_Run(a0:(List UInt8))(a1:aw)(a2:ag):Option ((List ao)×aM×Int):=bindO (bC (aw.mk a1.Work a1.Lengths) a2) λ(y1:Int)=>if (y1 != 0)=true then some ([],aM.mk 0 0,y1)else bindO (bk_Program a0) λ(y2:(List ac)×Int×Int)=>if (y2.2.2 != 0)=true then some ([],aM.mk 0 0,y2.2.2)else bindO (sp_Split y2.1) λ(y3:aJ×Int)=>if (y3.2 != 0)=true then some ([],aM.mk 0 0,y3.2)else bindO (sp_Expand y3.1) λ(y4:(List ac)×Int)=>if (y4.2 != 0)=true then some ([],aM.mk 0 0,y4.2)else bindO (cD y4.1 (aw.mk a1.Work a1.Lengths) a2) λ(y5:(List ao)×aM)=>some (y5.1,y5.2,0)
theorem inp_Run_spec{a0:(List UInt8)}{a1:aw}{a2:ag}{y:(List ao)×aM×Int}(h:inp_Run a0 a1 a2=some y):Spec gP 12 [.d (.str a0),.agg (w6 a1.Work [.d (.list (zA av a1.Lengths))]),.agg (cH a2)] (.tuple [.d (.list (zA aI y.1)),.agg [.d (.int .i64 y.2.1.Block),.d (.int .i64 y.2.1.Code)],.d (.int .i64 y.2.2)]):=by
 refine aB Tryz.func12 rfl (by kernel_rfl) (by kernel_rfl) (λy:(List ao)×aM×Int=>.tuple [.d (.list (zA aI y.1)),.agg [.d (.int .i64 y.2.1.Block),.d (.int .i64 y.2.1.Code)],.d (.int .i64 y.2.2)]) ?_ h
 unfold inp_Run
 simp only[zB,zD,nS,nA,Tryz.ntmps12,SV]
 refine .sR λe h=>?_
 simp only[seval,EMB,cq]
 refine mU e (.seqK (.seqK (.bind λy1 hy1=>.region λe h=>?_))) h
 simp only[seval,EMB,ag_38,sz_38,ag_24,sz_24]
 refine SpecS.by (fJ hy1) (by simp only[seval,FMB]) ?_
 simp only[seval,EMB]
 refine mU e (.sR λe h=>?_) h
 simp only[seval,EMB]
 refine mU e (.cond rfl (λhb3=>?_) (λhb3=>?_)) h
 refine .sR λe h=>?_
 simp only[seval,EMB,cq,pl_42,sz_42]
 refine mU e (.ret λe h=>?_) h
 cases h
 simp only[seval,FMB,Tryz.results12,ag_42,sz_42]
 refine .skip (Mir.toK (.seqK (.bind λy2 hy4=>.region λe h=>?_)))
 simp only[seval,EMB]
 refine SpecS.by (bk_Program_spec hy4) (by simp only[seval,FMB]) ?_
 simp only[seval,EMB]
 refine mU e (.seqK (.sR λe h=>?_)) h
 simp only[seval,EMB]
 refine mU e (.cond rfl (λhb6=>?_) (λhb6=>?_)) h
 refine .sR λe h=>?_
 simp only[seval,EMB,cq,pl_42,sz_42]
 refine mU e (.ret λe h=>?_) h
 cases h
 simp only[seval,FMB,Tryz.results12,ag_42,sz_42]
 refine .skip (Mir.toK (.seqK (.bind λy3 hy7=>.region λe h=>?_)))
 simp only[seval,EMB]
 refine SpecS.by (sp_Split_spec hy7) (by simp only[seval,FMB]) ?_
 simp only[seval,EMB,fE,sz_71]
 refine mU e (.seqK (.sR λe h=>?_)) h
 simp only[seval,EMB]
 refine mU e (.cond rfl (λhb9=>?_) (λhb9=>?_)) h
 refine .sR λe h=>?_
 simp only[seval,EMB,cq,pl_42,sz_42]
 refine mU e (.ret λe h=>?_) h
 cases h
 simp only[seval,FMB,Tryz.results12,ag_42,sz_42]
 refine .skip (Mir.toK (.seqK (.bind λy4 hy10=>.region λe h=>?_)))
 simp only[seval,EMB,ag_71,sz_71]
 refine SpecS.by (sp_Expand_spec hy10) (by simp only[seval,FMB]) ?_
 simp only[seval,EMB]
 refine mU e (.seqK (.sR λe h=>?_)) h
 simp only[seval,EMB]
 refine mU e (.cond rfl (λhb12=>?_) (λhb12=>?_)) h
 refine .sR λe h=>?_
 simp only[seval,EMB,cq,pl_42,sz_42]
 refine mU e (.ret λe h=>?_) h
 cases h
 simp only[seval,FMB,Tryz.results12,ag_42,sz_42]
 refine .skip (Mir.toK (.seqK (.bind λy5 hy13=>.region λe h=>?_)))
 simp only[seval,EMB,ag_38,sz_38,ag_24,sz_24]
 refine SpecS.by (gB hy13) (by simp only[seval,FMB]) ?_
 simp only[seval,EMB,cq,sz_42]
 refine mU e (.seqK (.regionD [] (by kernel_rfl) λe h=>?_)) h
 simp only[seval,EMB,SB,ag_42,sz_42]
 refine mU e (.ret λe h=>?_) h
 cases h
 simp only[seval,FMB,Tryz.results12,ag_42,sz_42]
def gu :Option Bool:=bindO (po_Emit [fg.mk 2 [au.mk 2 (ag.mk 5 0 0) (aG.mk 0 0) 7]] (ag.mk 0 0 0) (ct.mk 55000 false 0 0)) λ(y1:(List UInt8)×Int)=>bindO (iI (ag.mk 100 0 0)) λ(y2:aw)=>bindO (inp_Run y1.1 (aw.mk y2.Work y2.Lengths) (ag.mk 100 0 12000)) λ(y3:(List ao)×aM×Int)=>bindO (if (y1.2==0)=true then if (y3.2.2==0)=true then if ((y3.2.1.Block==(-1))&&(y3.2.1.Code==0))=true then if ((y3.1.length:Int)==1)=true then bindO (gt y3.1 0) λ(e1:ao)=>if ((e1.From.X==100)&&((e1.From.Y==0)&&(e1.From.Z==12000)))=true then if ((e1.To.X==105)&&((e1.To.Y==0)&&(e1.To.Z==12000)))=true then if (e1.Rate==7)=true then some (e1.Tool==2)else some false else some false else some false else some false else some false else some false else some false) λ(v1:Bool)=>some v1
theorem dg {y:Bool}(h:gu=some y):Spec gP 7 [] (.d (.bool y)):=by
 refine aB Tryz.func7 rfl (by kernel_rfl) (by kernel_rfl) (λy:Bool=>.d (.bool y)) ?_ h
 unfold gu
 simp only[zB,zD,nS,nA,Tryz.ntmps7,SV]
 refine .sR λe h=>?_
 simp only[seval,EMB]
 refine mU e (.sR λe h=>?_) h
 simp only[seval,EMB,bl,pl_24,fD,pl_95,gS,sz_95,(oL 7),zero_106,pl_106,und_22,sz_106,(oL 2)]
 refine mU e (.seqK (.bind λy1 hy1=>.region λe h=>?_)) h
 simp only[seval,EMB,bl,pl_24,zero_33,pl_33]
 refine SpecS.by (po_Emit_spec hy1) (by simp only[seval,FMB]) ?_
 simp only[seval,EMB]
 refine mU e (.seqK (.bind λy2 hy2=>.bind λy3 hy3=>.region λe h=>?_)) h
 simp only[seval,EMB,bl,pl_24]
 refine SpecS.by (top_lengths53_spec hy2) (by simp only[seval,FMB]) ?_
 simp only[seval,EMB,bl,pl_24]
 refine SpecS.by (inp_Run_spec hy3) (by simp only[seval,FMB]) ?_
 simp only[seval,EMB,cq,sz_42]
 refine mU e (.seqK (Mir.joinO (λv1:Bool=>([.d (.bool v1)]++us 73)) (λv1=>⟨[(cO y3.2.1)],[]⟩) (λ_=>rfl) ?_ ?_)) h
 refine .ite (λhb4=>?_) (λhb4=>?_)
 refine .ite (λhb5=>?_) (λhb5=>?_)
 refine .ite (λhb6=>?_) (λhb6=>?_)
 refine .ite (λhb7=>?_) (λhb7=>?_)
 refine .bind λe1 q8=>?_
 replace q8:=gt_ok q8
 simp only[Int.reduceToNat,Int.reduceLT,Nat.sub_zero,dp0]at q8
 refine .ite (λhb9=>?_) (λhb9=>?_)
 refine .ite (λhb10=>?_) (λhb10=>?_)
 refine .ite (λhb11=>?_) (λhb11=>?_)
 refine .region λe h=>?_
 simp only[seval,EMB,ag_42,sz_42,cq,pl_42,gE_42,cW,sz_47,q8,fld_47_0,sz_24,ag_24,bl,pl_24,gE_24,fld_47_1,fld_47_2,sz_2,ag_2,fld_47_3,sz_3,ag_3,hb4,hb5,hb6,hb7,hb9,hb10,hb11]
 cases h
 simp only[seval,FMB,hb4,hb5,hb6,hb7,hb9,hb10,hb11]
 refine .region λe h=>?_
 simp only[seval,EMB,ag_42,sz_42,cq,pl_42,gE_42,cW,sz_47,q8,fld_47_0,sz_24,ag_24,bl,pl_24,gE_24,fld_47_1,fld_47_2,sz_2,ag_2,hb4,hb5,hb6,hb7,hb9,hb10,hb11]
 cases h
 simp only[seval,FMB,hb4,hb5,hb6,hb7,hb9,hb10,hb11]
 refine .region λe h=>?_
 simp only[seval,EMB,ag_42,sz_42,cq,pl_42,gE_42,cW,sz_47,q8,fld_47_0,sz_24,ag_24,bl,pl_24,gE_24,fld_47_1,hb4,hb5,hb6,hb7,hb9,hb10]
 cases h
 simp only[seval,FMB,hb4,hb5,hb6,hb7,hb9,hb10]
 refine .region λe h=>?_
 simp only[seval,EMB,ag_42,sz_42,cq,pl_42,gE_42,cW,sz_47,q8,fld_47_0,sz_24,ag_24,bl,pl_24,gE_24,hb4,hb5,hb6,hb7,hb9]
 cases h
 simp only[seval,FMB,hb4,hb5,hb6,hb7,hb9]
 refine .region λe h=>?_
 simp only[seval,EMB,ag_42,sz_42,cq,pl_42,gE_42,cW,hb4,hb5,hb6,hb7]
 cases h
 simp only[seval,FMB,hb4,hb5,hb6,hb7]
 refine .region λe h=>?_
 simp only[seval,EMB,ag_42,sz_42,cq,pl_42,gE_42,hb4,hb5,hb6]
 cases h
 simp only[seval,FMB,hb4,hb5,hb6]
 refine .region λe h=>?_
 simp only[seval,EMB,hb4,hb5]
 cases h
 simp only[seval,FMB,hb4,hb5]
 refine .region λe h=>?_
 simp only[seval,EMB,hb4]
 cases h
 simp only[seval,FMB,hb4]
 intro v1
 refine Mir.toK (.ret λe h=>?_)
 cases h
 simp only[seval,FMB,Tryz.results7]
end Go.Proofs.YtplhejpjnfjopaaGreatDoor
