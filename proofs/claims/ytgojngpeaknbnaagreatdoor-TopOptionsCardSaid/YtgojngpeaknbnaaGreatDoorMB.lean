import Derived.Test.YtgojngpeaknbnaaGreatDoorMBb
open List renaming map → zA,replicate → zB,length → zD
open Go.IntKind renaming i64 → zG
namespace Go.Proofs.YtgojngpeaknbnaaGreatDoor
open Go.RowKit
open Nat renaming reduceAdd → nA,reduceSub → nS,reduceMul → nM,reduceEqDiff → nE,reduceLeDiff → nL,reduceLT → nT,reduceBEq → nB
open Int renaming reduceLT → iT,reduceToNat → iN,reduceEq → iE
set_option linter.unusedVariables false
set_option linter.unusedSimpArgs false
set_option maxRecDepth 100000
set_option maxHeartbeats 8000000
def inp_arc(a0:ak)(a1:aa)(a2:ae)(a3:ae):Option ((List au)×Int):=bindO (gW a1 73) λ(y1:Int)=>bindO (gW a1 74) λ(y2:Int)=>bindO (if (a0.Motion==3000)=true then some 4 else some 3) λ(v1:Int)=>bindO (ip_Arc a2 (ay.mk v1 a3 (bw.mk (zG.wrap (a2.X+y1)) (zG.wrap (a2.Y+y2))) a0.Feed)) λ(y3:(List ae)×Int)=>bindO (az (okIdx y3.1) ( aI (λ(i1:Nat) (e1:ae) (v2:(List au))=>az (okLen (v2.length+1)) ( some (.go (v2++[au.mk e1 a0.Feed])))) (λ(v2:(List au))=>some v2) y3.1 0 [])) λ(v3:(List au))=>some (v3,y3.2)
theorem inp_arc_spec{a0:ak}{a1:aa}{a2:ae}{a3:ae}{y:(List au)×Int}(h:inp_arc a0 a1 a2 a3=some y):Spec gP 135 [.agg (cA a0),.agg (cG a1),.agg (cF a2),.agg (cF a3)] (.tuple [.d (.list (zA aY y.1)),.d (.int .i64 y.2)]):=by
 refine auB Tryz.func135 (λy:(List au)×Int=>.tuple [.d (.list (zA aY y.1)),.d (.int .i64 y.2)]) ?_ h
 unfold inp_arc
 refine .sB ?_
 refine .seqK (.bind λy1 hy1=>.bind λy2 hy2=>.regionD [] (by kernel_rfl) λe h=>?_)
 simp only[seval,EMB,SB]
 refine Spec.by (kg hy1) (by simp only[seval,FMB]) ?_
 simp only[seval,EMB,SB]
 refine Spec.by (kg hy2) (by simp only[seval,FMB]) ?_
 simp only[seval,EMB,SB]
 refine mU e (.seqK (.sB ?_)) h
 refine Mir.joinO (λv1:Int=>([U,U,U,U,.ptr 0 0,U,.ptr 2 0,U,U,U,.ptr 4 0]++us 46)) (λv1=>⟨[(cA a0),(cG a1),(cF a2),(cF a3),[.d (.int .i64 v1),.d (.int .i64 a3.X),.d (.int .i64 a3.Y),.d (.int .i64 a3.Z),.d (.int .i64 (zG.wrap (a2.X+y1))),.d (.int .i64 (zG.wrap (a2.Y+y2))),.d (.int .i64 a0.Feed)]],[]⟩) (λ_=>rfl) ?_ ?_
 refine .cond rfl (λ_=>.rB) (λ_=>.skip QB)
 intro v1
 refine Mir.toK (.seqK (.bind λy3 hy5=>.region λe h=>WB ?_))
 refine .byB (ip_Arc_spec hy5) (mB ?_ h)
 refine .sB ?_
 refine .seqK (.sB ?_)
 refine .gh [.slot 13 190] rfl (Mir.joinO (λv3:(List au)=>([U,U,U,U,U,U,U,U,U,U,U,U,.d (.int .i64 y3.2),.own 0 (zA aY v3)]++us 43)) (λv3=>⟨[(cA a0),(cG a1),(cF a2),(cF a3),[.d (.int .i64 v1),.d (.int .i64 a3.X),.d (.int .i64 a3.Y),.d (.int .i64 a3.Z),.d (.int .i64 (zG.wrap (a2.X+y1))),.d (.int .i64 (zG.wrap (a2.Y+y2))),.d (.int .i64 a0.Feed)]],[(190,v3.length)]⟩) (λ_=>rfl) ?_ ?_)
 refine .block (.guard λqg70=>Mir.range (λ(i1:Nat) (v2:(List au))=>([U,U,U,U,.ptr 0 0,U,U,U,U,U,U,U,.d (.int .i64 y3.2),.own 0 (zA aY v2),U,U,U,U,U,U,U,U,U,U,U,U,U,U,U,U,U,U,U,U,U,U,U,U,U,U,U,.d (.list (zA bt y3.1)),.d (.int .i64 (y3.1.length:Int)),.d (.int .i64 (i1:Int))]++us 13)) (λi1 v2=>⟨[(cA a0),(cG a1),(cF a2),(cF a3),[.d (.int .i64 v1),.d (.int .i64 a3.X),.d (.int .i64 a3.Y),.d (.int .i64 a3.Z),.d (.int .i64 (zG.wrap (a2.X+y1))),.d (.int .i64 (zG.wrap (a2.Y+y2))),.d (.int .i64 a0.Feed)]],[(190,v2.length)]⟩) qg70 (λ_ _=>rfl) (by simp only[seval,FMB,zNI]) (by simp only[seval,FMB,zNI]) ?_ ?_)
 intro i1 e1 v2 qr68
 refine .sR λe h=>?_
 simp only[seval,EMB,qr68]
 refine mU e (.seqK (.condT rfl (.skip (Mir.toK (.seqK (.block (.sR λe h=>?_))))))) h
 simp only[seval,EMB,qr68,Int.toNat_natCast]
 refine mU e (.guard λq72=>.region λe h=>?_) h
 simp only[seval,EMB,(oL 4),q72]
 refine mU e (.region λe h=>?_) h
 simp only[seval,EMB]
 cases h
 simp only[seval,FMB,qr68]
 intro v2 qd69
 refine .sR λe h=>?_
 simp only[seval,EMB,qd69]
 refine mU e (.seqK (.condF rfl (.exit QB))) h
 intro v3
 refine Mir.toK (.sB ?_)
 refine .ret QB
def ez(a0:ak)(a1:av)(a2:aa)(a3:ae):Option ((List au)×av×Int):=bindO (gX a0 (aa.mk a2.Skip a2.Words a2.Comment) a3) λ(y1:ae)=>if (a0.Motion==0)=true then some ([au.mk y1 0],av.mk 0 0 0 0 0 0 false,0)else if (a0.Motion==1000)=true then some ([au.mk y1 a0.Feed],av.mk 0 0 0 0 0 0 false,0)else bindO (dp a0.Motion) λ(y2:Bool)=>if y2=true then none else bindO (inp_arc (ak.mk a0.Motion a0.Distance a0.Work a0.Length a0.Return a0.Feed a0.Tool a0.Offset) (aa.mk a2.Skip a2.Words a2.Comment) a3 y1) λ(y3:(List au)×Int)=>some (y3.1,av.mk 0 0 0 0 0 0 false,y3.2)
theorem inp_positions_spec{a0:ak}{a1:av}{a2:aa}{a3:ae}{y:(List au)×av×Int}(h:ez a0 a1 a2 a3=some y):Spec gP 106 [.agg (cA a0),.agg (cC a1),.agg (cG a2),.agg (cF a3)] (.tuple [.d (.list (zA aY y.1)),.agg [.d (.int .i64 y.2.1.Code),.d (.int .i64 y.2.1.R),.d (.int .i64 y.2.1.Z),.d (.int .i64 y.2.1.Q),.d (.int .i64 y.2.1.Rate),.d (.int .i64 y.2.1.Initial),.d (.bool y.2.1.High)],.d (.int .i64 y.2.2)]):=by
 refine auB Tryz.func106 (λy:(List au)×av×Int=>.tuple [.d (.list (zA aY y.1)),.agg [.d (.int .i64 y.2.1.Code),.d (.int .i64 y.2.1.R),.d (.int .i64 y.2.1.Z),.d (.int .i64 y.2.1.Q),.d (.int .i64 y.2.1.Rate),.d (.int .i64 y.2.1.Initial),.d (.bool y.2.1.High)],.d (.int .i64 y.2.2)]) ?_ h
 unfold ez
 refine .sB ?_
 refine .seqK (.bind λy1 hy1=>.region λe h=>WB ?_)
 refine .byB (inp_target_spec hy1) (mB ?_ h)
 refine .seqK (.block (.sB ?_))
 refine .cond rfl (λhb10=>?_) (λhb10=>?_)
 refine .sR λe h=>?_
 simp only[seval,EMB,(oL 4)]
 refine mU e (.ret QB) h
 refine .sB ?_
 refine .cond rfl (λhb14=>?_) (λhb14=>?_)
 refine .sR λe h=>?_
 simp only[seval,EMB,(oL 4)]
 refine mU e (.ret QB) h
 refine .seqK (.bind λy2 hy15=>.region λe h=>WB ?_)
 refine .byB (cX hy15) (mB ?_ h)
 refine .cond rfl (λhb17=>?_) (λhb17=>?_)
 exact Mir.no
 refine .skip (Mir.toB (Mir.toK (.seqK (.bind λy3 hy18=>.region λe h=>WB ?_))))
 refine .byB (inp_arc_spec hy18) (mB ?_ h)
 refine .sB ?_
 refine .ret QB
def db(a0:aw)(a1:Int)(a2:Int)(a3:ae):Option (ae×Int):=bindO (eW a0 a1 a2) λ(y1:ae×Int)=>if (y1.2 != 0)=true then some (ae.mk 0 0 0,y1.2)else bindO (gA a3 y1.1 1) λ(y2:ae×Int)=>some (y2.1,y2.2)
theorem tb_Machine_spec{a0:aw}{a1:Int}{a2:Int}{a3:ae}{y:ae×Int}(h:db a0 a1 a2 a3=some y):Spec gP 107 [.agg (w6 a0.Work [.d (.list (zA ar a0.Lengths))]),.d (.int .i64 a1),.d (.int .i64 a2),.agg (cF a3)] (.tuple [.agg [.d (.int .i64 y.1.X),.d (.int .i64 y.1.Y),.d (.int .i64 y.1.Z)],.d (.int .i64 y.2)]):=by
 refine auB Tryz.func107 (λy:ae×Int=>.tuple [.agg [.d (.int .i64 y.1.X),.d (.int .i64 y.1.Y),.d (.int .i64 y.1.Z)],.d (.int .i64 y.2)]) ?_ h
 unfold db
 refine .sB ?_
 refine .seqK (.bind λy1 hy1=>.region λe h=>WB ?_)
 refine .byB (j9 hy1) (mB ?_ h)
 refine .seqK (.sB ?_)
 refine .cond rfl (λhb3=>?_) (λhb3=>?_)
 refine .sB ?_
 refine .ret QB
 refine .skip (Mir.toK (.seqK (.bind λy2 hy4=>.region λe h=>WB ?_)))
 refine .byB (tb_moved_spec hy4) (mB ?_ h)
 refine .ret QB
def fG(a0:ak)(a1:av)(a2:aa)(a3:aw)(a4:ae):Option ((List am)×ak×av×Int):=bindO (bK a3 a4) λ(y1:Int)=>if (y1 != 0)=true then bindO (some ()) λ(v1:Unit)=>some ([],ak.mk 0 0 0 0 0 0 0 0,av.mk 0 0 0 0 0 0 false,y1)else bindO (bindO (fI a2) λ(y2:Int)=>if (y2 != 0)=true then some true else bindO (iv a2) λ(y3:Int)=>if (y3 != 0)=true then some true else bindO (gY a2) λ(y4:Bool)=>some (!y4)) λ(v2:Bool)=>if v2=true then bindO (some ()) λ(v3:Unit)=>some ([],ak.mk 0 0 0 0 0 0 0 0,av.mk 0 0 0 0 0 0 false,1)else bindO (jR (ak.mk a0.Motion a0.Distance a0.Work a0.Length a0.Return a0.Feed a0.Tool a0.Offset) a2) λ(y5:ak×Int)=>if (y5.2 != 0)=true then bindO (some ()) λ(v4:Unit)=>some ([],ak.mk 0 0 0 0 0 0 0 0,av.mk 0 0 0 0 0 0 false,y5.2)else bindO (dp y5.1.Motion) λ(y6:Bool)=>bindO (if (!y6)=true then some (av.mk 0 0 0 0 0 0 false)else some a1) λ(v5:av)=>bindO (fm a2 [88,89,90,73,74,81,82]) λ(y7:Bool)=>if (!y7)=true then some ([],y5.1,v5,0)else bindO (bindO (fm a2 [73,74]) λ(y8:Bool)=>if y8=true then if (y5.1.Motion != 2000)=true then if (y5.1.Motion != 3000)=true then some true else bindO (fm a2 [81,82]) λ(y9:Bool)=>if y9=true then bindO (dp y5.1.Motion) λ(y10:Bool)=>some (!y10)else some false else bindO (fm a2 [81,82]) λ(y11:Bool)=>if y11=true then bindO (dp y5.1.Motion) λ(y12:Bool)=>some (!y12)else some false else bindO (fm a2 [81,82]) λ(y13:Bool)=>if y13=true then bindO (dp y5.1.Motion) λ(y14:Bool)=>some (!y14)else some false) λ(v6:Bool)=>if v6=true then bindO (some ()) λ(v7:Unit)=>some ([],ak.mk 0 0 0 0 0 0 0 0,av.mk 0 0 0 0 0 0 false,1)else if ((y5.1.Motion==80000)||((y5.1.Motion != 0)&&(decide (y5.1.Feed≤0))))=true then bindO (some ()) λ(v8:Unit)=>some ([],ak.mk 0 0 0 0 0 0 0 0,av.mk 0 0 0 0 0 0 false,13)else bindO (if (y5.1.Length==43000)=true then some (zG.wrap (Int.tdiv y5.1.Offset 1000))else some 0) λ(v9:Int)=>bindO (il (aw.mk a3.Work a3.Lengths) y5.1.Work v9 a4) λ(y15:ae×Int)=>if (y15.2 != 0)=true then bindO (some ()) λ(v10:Unit)=>some ([],ak.mk 0 0 0 0 0 0 0 0,av.mk 0 0 0 0 0 0 false,y15.2)else bindO (ez y5.1 v5 (aa.mk a2.Skip a2.Words a2.Comment) y15.1) λ(y16:(List au)×av×Int)=>if (y16.2.2 != 0)=true then bindO (some ()) λ(v11:Unit)=>some ([],ak.mk 0 0 0 0 0 0 0 0,av.mk 0 0 0 0 0 0 false,y16.2.2)else bindX (az (okIdx y16.1) ( aI (λ(i1:Nat) (e1:au) (v12:(List am)×ae)=>bindO (db (aw.mk a3.Work a3.Lengths) y5.1.Work v9 e1.at_) λ(y17:ae×Int)=>if (y17.2 != 0)=true then bindO (some ()) λ(v13:Unit)=>some (.ret (.ret ([],ak.mk 0 0 0 0 0 0 0 0,av.mk 0 0 0 0 0 0 false,y17.2)))else bindO (if (!((y17.1.X==v12.2.X)&&((y17.1.Y==v12.2.Y)&&(y17.1.Z==v12.2.Z))))=true then az (okLen (v12.1.length+1)) ( some (v12.1++[am.mk v12.2 y17.1 e1.rate (zG.wrap (Int.tdiv y5.1.Tool 1000)) 0]))else some v12.1) λ(v14:(List am))=>some (.go (v14,y17.1))) (λ(v12:(List am)×ae)=>some (.go (v12.1,v12.2))) y16.1 0 ([],a4))) λ(v15:(List am)×ae)=>some (v15.1,y5.1,y16.2.1,0)
theorem inp_Step_specX{a0:ak}{a1:av}{a2:aa}{a3:aw}{a4:ae}{y:(List am)×ak×av×Int}(h:fG a0 a1 a2 a3 a4=some y):SpecX gP 54 [.agg (cA a0),.agg (cC a1),.agg (cG a2),.agg (w6 a3.Work [.d (.list (zA ar a3.Lengths))]),.agg (cF a4)] 47 (zA aB y.1) [.agg [.d (.int .i64 y.2.1.Motion),.d (.int .i64 y.2.1.Distance),.d (.int .i64 y.2.1.Work),.d (.int .i64 y.2.1.Length),.d (.int .i64 y.2.1.Return),.d (.int .i64 y.2.1.Feed),.d (.int .i64 y.2.1.Tool),.d (.int .i64 y.2.1.Offset)],.agg [.d (.int .i64 y.2.2.1.Code),.d (.int .i64 y.2.2.1.R),.d (.int .i64 y.2.2.1.Z),.d (.int .i64 y.2.2.1.Q),.d (.int .i64 y.2.2.1.Rate),.d (.int .i64 y.2.2.1.Initial),.d (.bool y.2.2.1.High)],.d (.int .i64 y.2.2.2)]:=by
 refine specX_mir Tryz.func54 rfl (by kernel_rfl) (by kernel_rfl) (λy:(List am)×ak×av×Int=>zA aB y.1) (λy:(List am)×ak×av×Int=>[.agg [.d (.int .i64 y.2.1.Motion),.d (.int .i64 y.2.1.Distance),.d (.int .i64 y.2.1.Work),.d (.int .i64 y.2.1.Length),.d (.int .i64 y.2.1.Return),.d (.int .i64 y.2.1.Feed),.d (.int .i64 y.2.1.Tool),.d (.int .i64 y.2.1.Offset)],.agg [.d (.int .i64 y.2.2.1.Code),.d (.int .i64 y.2.2.1.R),.d (.int .i64 y.2.2.1.Z),.d (.int .i64 y.2.2.1.Q),.d (.int .i64 y.2.2.1.Rate),.d (.int .i64 y.2.2.1.Initial),.d (.bool y.2.2.1.High)],.d (.int .i64 y.2.2.2)]) (sc_map (λ_=>rfl) _) (by rw[show Tryz.prog.cellsOf 47=9 from (by kernel_rfl)];exact jF) rfl ?_ h
 unfold fG
 simp only[zB,zD,nS,nA,Tryz.ntmps54,SV]
 refine .sB ?_
 refine .seqK (.seqK (.bind λy1 hy1=>.region λe h=>WB ?_))
 refine .byB (fp hy1) (mB ?_ h)
 refine .sB ?_
 refine .cond rfl (λhb4=>?_) (λhb4=>?_)
 refine .seqK (.bind λv1 hv5=>.region λe h=>WB ?_)
 refine SpecS.inl Tryz.func100 rfl (by kernel_rfl) (by kernel_rfl) (λv1:Unit=>.tuple [.nil,.agg [.d (.int .i64 0),.d (.int .i64 0),.d (.int .i64 0),.d (.int .i64 0),.d (.int .i64 0),.d (.int .i64 0),.d (.int .i64 0),.d (.int .i64 0)],.agg [.d (.int .i64 0),.d (.int .i64 0),.d (.int .i64 0),.d (.int .i64 0),.d (.int .i64 0),.d (.int .i64 0),.d (.bool false)],.d (.int .i64 y1)]) (λv1=>⟨[(cA a0),(cC a1),(cG a2),(w6 a3.Work [.d (.list (zA ar a3.Lengths))]),(cF a4),[.d (.int .i64 0),.d (.int .i64 0),.d (.int .i64 0),.d (.int .i64 0),.d (.int .i64 0),.d (.int .i64 0),.d (.int .i64 0),.d (.int .i64 0)],[.d (.int .i64 0),.d (.int .i64 0),.d (.int .i64 0),.d (.int .i64 0),.d (.int .i64 0),.d (.int .i64 0),.d (.bool false)]],[]⟩) hv5 rfl ?_ ?_
 simp only[zB,zD,nS,nA,Tryz.ntmps100,SV]
 refine .sB ?_
 refine .sB ?_
 refine .ret QB
 simp only[seval,EMB]
 refine mU e (.ret λe h=>?_) h
 cases h
 simp only[seval,FMB,fx_r,fx_n,xr_o,xr_n,rowT]
 refine .skip (Mir.toK (.seqK (.seqK (Mir.joinO (λv2:Bool=>([U,U,U,U,U,.ptr 0 0,.ptr 1 0,.ptr 2 0,.ptr 3 0,.ptr 4 0,U,.ptr 5 0,.ptr 6 0,U,U,U,U,U,U,U,U,U,U,U,U,U,U,U,U,U,U,U,U,U,U,U,U,U,U,U,U,U,U,U,U,U,U,.d (.bool v2)]++us 157)) (λv2=>⟨[(cA a0),(cC a1),(cG a2),(w6 a3.Work [.d (.list (zA ar a3.Lengths))]),(cF a4),[.d (.int .i64 0),.d (.int .i64 0),.d (.int .i64 0),.d (.int .i64 0),.d (.int .i64 0),.d (.int .i64 0),.d (.int .i64 0),.d (.int .i64 0)],[.d (.int .i64 0),.d (.int .i64 0),.d (.int .i64 0),.d (.int .i64 0),.d (.int .i64 0),.d (.int .i64 0),.d (.bool false)]],[]⟩) (λ_=>rfl) ?_ ?_))))
 refine .bind λy2 hy6=>.ite (λhb7=>?_) (λhb7=>?_)
 refine .region λe h=>?_
 simp only[seval,EMB,hb7]
 refine SpecS.by (fH hy6) (by simp only[seval,FMB,hb7]) ?_
 simp only[seval,EMB,hb7]
 cases h
 simp only[seval,FMB,hb7]
 refine .bind λy3 hy8=>.ite (λhb9=>?_) (λhb9=>?_)
 refine .region λe h=>?_
 simp only[seval,EMB,hb7,hb9]
 refine SpecS.by (fH hy6) (by simp only[seval,FMB,hb7,hb9]) ?_
 simp only[seval,EMB,hb7,hb9]
 refine SpecS.by (iu hy8) (by simp only[seval,FMB,hb7,hb9]) ?_
 simp only[seval,EMB,hb7,hb9]
 cases h
 simp only[seval,FMB,hb7,hb9]
 refine .bind λy4 hy10=>.region λe h=>?_
 simp only[seval,EMB,hb7,hb9]
 refine SpecS.by (fH hy6) (by simp only[seval,FMB,hb7,hb9]) ?_
 simp only[seval,EMB,hb7,hb9]
 refine SpecS.by (iu hy8) (by simp only[seval,FMB,hb7,hb9]) ?_
 simp only[seval,EMB,hb7,hb9]
 refine SpecS.by (inp_known_spec hy10) (by simp only[seval,FMB,hb7,hb9]) ?_
 simp only[seval,EMB,hb7,hb9]
 cases h
 simp only[seval,FMB,hb7,hb9]
 intro v2
 refine Mir.toK (.cond rfl (λhb13=>?_) (λhb13=>?_))
 refine .seqK (.bind λv3 hv14=>.region λe h=>WB ?_)
 refine SpecS.inl Tryz.func100 rfl (by kernel_rfl) (by kernel_rfl) (λv3:Unit=>.tuple [.nil,.agg [.d (.int .i64 0),.d (.int .i64 0),.d (.int .i64 0),.d (.int .i64 0),.d (.int .i64 0),.d (.int .i64 0),.d (.int .i64 0),.d (.int .i64 0)],.agg [.d (.int .i64 0),.d (.int .i64 0),.d (.int .i64 0),.d (.int .i64 0),.d (.int .i64 0),.d (.int .i64 0),.d (.bool false)],.d (.int .i64 1)]) (λv3=>⟨[(cA a0),(cC a1),(cG a2),(w6 a3.Work [.d (.list (zA ar a3.Lengths))]),(cF a4),[.d (.int .i64 0),.d (.int .i64 0),.d (.int .i64 0),.d (.int .i64 0),.d (.int .i64 0),.d (.int .i64 0),.d (.int .i64 0),.d (.int .i64 0)],[.d (.int .i64 0),.d (.int .i64 0),.d (.int .i64 0),.d (.int .i64 0),.d (.int .i64 0),.d (.int .i64 0),.d (.bool false)]],[]⟩) hv14 rfl ?_ ?_
 simp only[zB,zD,nS,nA,Tryz.ntmps100,SV]
 refine .sB ?_
 refine .sB ?_
 refine .ret QB
 simp only[seval,EMB]
 refine mU e (.ret λe h=>?_) h
 cases h
 simp only[seval,FMB,fx_r,fx_n,xr_o,xr_n,rowT]
 refine .skip (Mir.toK (.seqK (.bind λy5 hy15=>.region λe h=>WB ?_)))
 refine .byB (md_Apply_spec hy15) (mB ?_ h)
 refine .seqK (.sB ?_)
 refine .cond rfl (λhb18=>?_) (λhb18=>?_)
 refine .seqK (.bind λv4 hv19=>.region λe h=>WB ?_)
 refine SpecS.inl Tryz.func100 rfl (by kernel_rfl) (by kernel_rfl) (λv4:Unit=>.tuple [.nil,.agg [.d (.int .i64 0),.d (.int .i64 0),.d (.int .i64 0),.d (.int .i64 0),.d (.int .i64 0),.d (.int .i64 0),.d (.int .i64 0),.d (.int .i64 0)],.agg [.d (.int .i64 0),.d (.int .i64 0),.d (.int .i64 0),.d (.int .i64 0),.d (.int .i64 0),.d (.int .i64 0),.d (.bool false)],.d (.int .i64 y5.2)]) (λv4=>⟨[(cA y5.1),(cC a1),(cG a2),(w6 a3.Work [.d (.list (zA ar a3.Lengths))]),(cF a4),[.d (.int .i64 0),.d (.int .i64 0),.d (.int .i64 0),.d (.int .i64 0),.d (.int .i64 0),.d (.int .i64 0),.d (.int .i64 0),.d (.int .i64 0)],[.d (.int .i64 0),.d (.int .i64 0),.d (.int .i64 0),.d (.int .i64 0),.d (.int .i64 0),.d (.int .i64 0),.d (.bool false)]],[]⟩) hv19 rfl ?_ ?_
 simp only[zB,zD,nS,nA,Tryz.ntmps100,SV]
 refine .sB ?_
 refine .sB ?_
 refine .ret QB
 simp only[seval,EMB]
 refine mU e (.ret λe h=>?_) h
 cases h
 simp only[seval,FMB,fx_r,fx_n,xr_o,xr_n,rowT]
 refine .skip (Mir.toK (.seqK (.seqK (.bind λy6 hy20=>.region λe h=>WB ?_))))
 refine .byB (cX hy20) (mB ?_ h)
 refine Mir.joinO (λv5:av=>([U,U,U,U,U,.ptr 0 0,.ptr 1 0,.ptr 2 0,.ptr 3 0,.ptr 4 0,U,.ptr 5 0,.ptr 6 0]++us 192)) (λv5=>⟨[(cA y5.1),(cC v5),(cG a2),(w6 a3.Work [.d (.list (zA ar a3.Lengths))]),(cF a4),[.d (.int .i64 0),.d (.int .i64 0),.d (.int .i64 0),.d (.int .i64 0),.d (.int .i64 0),.d (.int .i64 0),.d (.int .i64 0),.d (.int .i64 0)],[.d (.int .i64 0),.d (.int .i64 0),.d (.int .i64 0),.d (.int .i64 0),.d (.int .i64 0),.d (.int .i64 0),.d (.bool false)]],[]⟩) (λ_=>rfl) ?_ ?_
 refine .cond rfl (λ_=>.rB) (λ_=>.skip QB)
 intro v5
 refine Mir.toK (.seqK (.seqK (.bind λy7 hy23=>.region λe h=>WB ?_)))
 refine .byB (bv hy23) (mB ?_ h)
 refine .cond rfl (λhb25=>?_) (λhb25=>?_)
 refine .seqK (.regionD [(6,11)] (by kernel_rfl) λe h=>?_)
 simp only[seval,EMB,SB]
 refine mU e (.ret λe h=>?_) h
 cases h
 simp only[seval,FMB,fx_r,fx_n,xr_o,xr_n,rowT]
 refine .skip (Mir.toK (.seqK (.seqK (Mir.joinO (λv6:Bool=>([U,U,U,U,U,.ptr 0 0,.ptr 1 0,.ptr 2 0,.ptr 3 0,.ptr 4 0,U,.ptr 5 0,.ptr 6 0,U,U,U,U,U,U,U,U,U,U,U,U,U,U,U,U,U,U,U,U,U,U,U,U,U,U,U,U,U,U,U,U,U,U,U,U,U,U,U,U,U,U,U,U,U,U,U,U,U,U,U,U,U,U,U,U,U,U,U,U,U,U,U,U,U,U,U,U,U,U,U,U,U,U,U,U,U,U,U,U,U,U,U,U,U,.d (.bool v6)]++us 106)) (λv6=>⟨[(cA y5.1),(cC v5),(cG a2),(w6 a3.Work [.d (.list (zA ar a3.Lengths))]),(cF a4),[.d (.int .i64 0),.d (.int .i64 0),.d (.int .i64 0),.d (.int .i64 0),.d (.int .i64 0),.d (.int .i64 0),.d (.int .i64 0),.d (.int .i64 0)],[.d (.int .i64 0),.d (.int .i64 0),.d (.int .i64 0),.d (.int .i64 0),.d (.int .i64 0),.d (.int .i64 0),.d (.bool false)]],[]⟩) (λ_=>rfl) ?_ ?_))))
 refine .bind λy8 hy26=>.ite (λhb27=>?_) (λhb27=>?_)
 refine .ite (λhb28=>?_) (λhb28=>?_)
 refine .ite (λhb29=>?_) (λhb29=>?_)
 refine .region λe h=>?_
 simp only[seval,EMB,hb27,hb28,hb29]
 refine SpecS.by (bv hy26) (by simp only[seval,FMB,hb27,hb28,hb29]) ?_
 simp only[seval,EMB,hb27,hb28,hb29]
 cases h
 simp only[seval,FMB,hb27,hb28,hb29]
 refine .bind λy9 hy30=>.ite (λhb31=>?_) (λhb31=>?_)
 refine .bind λy10 hy32=>.region λe h=>?_
 simp only[seval,EMB,hb27,hb28,hb29,hb31]
 refine SpecS.by (bv hy26) (by simp only[seval,FMB,hb27,hb28,hb29,hb31]) ?_
 simp only[seval,EMB,hb27,hb28,hb29,hb31]
 refine SpecS.by (bv hy30) (by simp only[seval,FMB,hb27,hb28,hb29,hb31]) ?_
 simp only[seval,EMB,hb27,hb28,hb29,hb31]
 refine SpecS.by (cX hy32) (by simp only[seval,FMB,hb27,hb28,hb29,hb31]) ?_
 simp only[seval,EMB,hb27,hb28,hb29,hb31]
 cases h
 simp only[seval,FMB,hb27,hb28,hb29,hb31]
 refine .region λe h=>?_
 simp only[seval,EMB,hb27,hb28,hb29,hb31]
 refine SpecS.by (bv hy26) (by simp only[seval,FMB,hb27,hb28,hb29,hb31]) ?_
 simp only[seval,EMB,hb27,hb28,hb29,hb31]
 refine SpecS.by (bv hy30) (by simp only[seval,FMB,hb27,hb28,hb29,hb31]) ?_
 simp only[seval,EMB,hb27,hb28,hb29,hb31]
 cases h
 simp only[seval,FMB,hb27,hb28,hb29,hb31]
 refine .bind λy11 hy33=>.ite (λhb34=>?_) (λhb34=>?_)
 refine .bind λy12 hy35=>.region λe h=>?_
 simp only[seval,EMB,hb27,hb28,hb34]
 refine SpecS.by (bv hy26) (by simp only[seval,FMB,hb27,hb28,hb34]) ?_
 simp only[seval,EMB,hb27,hb28,hb34]
 refine SpecS.by (bv hy33) (by simp only[seval,FMB,hb27,hb28,hb34]) ?_
 simp only[seval,EMB,hb27,hb28,hb34]
 refine SpecS.by (cX hy35) (by simp only[seval,FMB,hb27,hb28,hb34]) ?_
 simp only[seval,EMB,hb27,hb28,hb34]
 cases h
 simp only[seval,FMB,hb27,hb28,hb34]
 refine .region λe h=>?_
 simp only[seval,EMB,hb27,hb28,hb34]
 refine SpecS.by (bv hy26) (by simp only[seval,FMB,hb27,hb28,hb34]) ?_
 simp only[seval,EMB,hb27,hb28,hb34]
 refine SpecS.by (bv hy33) (by simp only[seval,FMB,hb27,hb28,hb34]) ?_
 simp only[seval,EMB,hb27,hb28,hb34]
 cases h
 simp only[seval,FMB,hb27,hb28,hb34]
 refine .bind λy13 hy36=>.ite (λhb37=>?_) (λhb37=>?_)
 refine .bind λy14 hy38=>.region λe h=>?_
 simp only[seval,EMB,hb27,hb37]
 refine SpecS.by (bv hy26) (by simp only[seval,FMB,hb27,hb37]) ?_
 simp only[seval,EMB,hb27,hb37]
 refine SpecS.by (bv hy36) (by simp only[seval,FMB,hb27,hb37]) ?_
 simp only[seval,EMB,hb27,hb37]
 refine SpecS.by (cX hy38) (by simp only[seval,FMB,hb27,hb37]) ?_
 simp only[seval,EMB,hb27,hb37]
 cases h
 simp only[seval,FMB,hb27,hb37]
 refine .region λe h=>?_
 simp only[seval,EMB,hb27,hb37]
 refine SpecS.by (bv hy26) (by simp only[seval,FMB,hb27,hb37]) ?_
 simp only[seval,EMB,hb27,hb37]
 refine SpecS.by (bv hy36) (by simp only[seval,FMB,hb27,hb37]) ?_
 simp only[seval,EMB,hb27,hb37]
 cases h
 simp only[seval,FMB,hb27,hb37]
 intro v6
 refine Mir.toK (.cond rfl (λhb41=>?_) (λhb41=>?_))
 refine .seqK (.bind λv7 hv42=>.region λe h=>WB ?_)
 refine SpecS.inl Tryz.func100 rfl (by kernel_rfl) (by kernel_rfl) (λv7:Unit=>.tuple [.nil,.agg [.d (.int .i64 0),.d (.int .i64 0),.d (.int .i64 0),.d (.int .i64 0),.d (.int .i64 0),.d (.int .i64 0),.d (.int .i64 0),.d (.int .i64 0)],.agg [.d (.int .i64 0),.d (.int .i64 0),.d (.int .i64 0),.d (.int .i64 0),.d (.int .i64 0),.d (.int .i64 0),.d (.bool false)],.d (.int .i64 1)]) (λv7=>⟨[(cA y5.1),(cC v5),(cG a2),(w6 a3.Work [.d (.list (zA ar a3.Lengths))]),(cF a4),[.d (.int .i64 0),.d (.int .i64 0),.d (.int .i64 0),.d (.int .i64 0),.d (.int .i64 0),.d (.int .i64 0),.d (.int .i64 0),.d (.int .i64 0)],[.d (.int .i64 0),.d (.int .i64 0),.d (.int .i64 0),.d (.int .i64 0),.d (.int .i64 0),.d (.int .i64 0),.d (.bool false)]],[]⟩) hv42 rfl ?_ ?_
 simp only[zB,zD,nS,nA,Tryz.ntmps100,SV]
 refine .sB ?_
 refine .sB ?_
 refine .ret QB
 simp only[seval,EMB]
 refine mU e (.ret λe h=>?_) h
 cases h
 simp only[seval,FMB,fx_r,fx_n,xr_o,xr_n,rowT]
 refine .skip (Mir.toK (.seqK (.seqK (.joinV ([U,U,U,U,U,.ptr 0 0,.ptr 1 0,.ptr 2 0,.ptr 3 0,.ptr 4 0,U,.ptr 5 0,.ptr 6 0,U,U,U,U,U,U,U,U,U,U,U,U,U,U,U,U,U,U,U,U,U,U,U,U,U,U,U,U,U,U,U,U,U,U,U,U,U,U,U,U,U,U,U,U,U,U,U,U,U,U,U,U,U,U,U,U,U,U,U,U,U,U,U,U,U,U,U,U,U,U,U,U,U,U,U,U,U,U,U,U,U,U,U,U,U,U,U,U,U,U,U,U,U,U,U,U,U,U,U,U,U,U,U,.d (.bool ((y5.1.Motion==80000)||((y5.1.Motion != 0)&&(decide (y5.1.Feed≤0)))))]++us 88) ⟨[(cA y5.1),(cC v5),(cG a2),(w6 a3.Work [.d (.list (zA ar a3.Lengths))]),(cF a4),[.d (.int .i64 0),.d (.int .i64 0),.d (.int .i64 0),.d (.int .i64 0),.d (.int .i64 0),.d (.int .i64 0),.d (.int .i64 0),.d (.int .i64 0)],[.d (.int .i64 0),.d (.int .i64 0),.d (.int .i64 0),.d (.int .i64 0),.d (.int .i64 0),.d (.int .i64 0),.d (.bool false)]],[]⟩ rfl ?_ ?_))))
 refine SWs.region ?_
 rcases Bool.eq_false_or_eq_true (y5.1.Motion==80000)with hb43 | hb43
 simp only[seval,EMB,SL,PB,hb43]
 rcases Bool.eq_false_or_eq_true (y5.1.Motion != 0)with hb44 | hb44
 simp only[seval,EMB,SL,PB,hb43,hb44]
 simp only[seval,EMB,SL,PB,hb43,hb44]
 refine Mir.toK (.cond rfl (λhb47=>?_) (λhb47=>?_))
 refine .seqK (.bind λv8 hv48=>.region λe h=>WB ?_)
 refine SpecS.inl Tryz.func100 rfl (by kernel_rfl) (by kernel_rfl) (λv8:Unit=>.tuple [.nil,.agg [.d (.int .i64 0),.d (.int .i64 0),.d (.int .i64 0),.d (.int .i64 0),.d (.int .i64 0),.d (.int .i64 0),.d (.int .i64 0),.d (.int .i64 0)],.agg [.d (.int .i64 0),.d (.int .i64 0),.d (.int .i64 0),.d (.int .i64 0),.d (.int .i64 0),.d (.int .i64 0),.d (.bool false)],.d (.int .i64 13)]) (λv8=>⟨[(cA y5.1),(cC v5),(cG a2),(w6 a3.Work [.d (.list (zA ar a3.Lengths))]),(cF a4),[.d (.int .i64 0),.d (.int .i64 0),.d (.int .i64 0),.d (.int .i64 0),.d (.int .i64 0),.d (.int .i64 0),.d (.int .i64 0),.d (.int .i64 0)],[.d (.int .i64 0),.d (.int .i64 0),.d (.int .i64 0),.d (.int .i64 0),.d (.int .i64 0),.d (.int .i64 0),.d (.bool false)]],[]⟩) hv48 rfl ?_ ?_
 simp only[zB,zD,nS,nA,Tryz.ntmps100,SV]
 refine .sB ?_
 refine .sB ?_
 refine .ret QB
 simp only[seval,EMB]
 refine mU e (.ret λe h=>?_) h
 cases h
 simp only[seval,FMB,fx_r,fx_n,xr_o,xr_n,rowT]
 refine .skip (Mir.toK (.sB ?_))
 refine .seqK (.sB ?_)
 refine Mir.joinO (λv9:Int=>([U,U,U,U,U,.ptr 0 0,.ptr 1 0,.ptr 2 0,.ptr 3 0,.ptr 4 0,U,.ptr 5 0,.ptr 6 0,U,U,U,.d (.int .i64 v9)]++us 188)) (λv9=>⟨[(cA y5.1),(cC v5),(cG a2),(w6 a3.Work [.d (.list (zA ar a3.Lengths))]),(cF a4),[.d (.int .i64 0),.d (.int .i64 0),.d (.int .i64 0),.d (.int .i64 0),.d (.int .i64 0),.d (.int .i64 0),.d (.int .i64 0),.d (.int .i64 0)],[.d (.int .i64 0),.d (.int .i64 0),.d (.int .i64 0),.d (.int .i64 0),.d (.int .i64 0),.d (.int .i64 0),.d (.bool false)]],[]⟩) (λ_=>rfl) ?_ ?_
 refine .cond rfl (λ_=>.rB) (λ_=>.skip QB)
 intro v9
 refine Mir.toK (.seqK (.bind λy15 hy51=>.region λe h=>WB ?_))
 refine .byB (tb_Work_spec hy51) (mB ?_ h)
 refine .seqK (.sB ?_)
 refine .cond rfl (λhb54=>?_) (λhb54=>?_)
 refine .seqK (.bind λv10 hv55=>.region λe h=>WB ?_)
 refine SpecS.inl Tryz.func100 rfl (by kernel_rfl) (by kernel_rfl) (λv10:Unit=>.tuple [.nil,.agg [.d (.int .i64 0),.d (.int .i64 0),.d (.int .i64 0),.d (.int .i64 0),.d (.int .i64 0),.d (.int .i64 0),.d (.int .i64 0),.d (.int .i64 0)],.agg [.d (.int .i64 0),.d (.int .i64 0),.d (.int .i64 0),.d (.int .i64 0),.d (.int .i64 0),.d (.int .i64 0),.d (.bool false)],.d (.int .i64 y15.2)]) (λv10=>⟨[(cA y5.1),(cC v5),(cG a2),(w6 a3.Work [.d (.list (zA ar a3.Lengths))]),(cF a4),[.d (.int .i64 0),.d (.int .i64 0),.d (.int .i64 0),.d (.int .i64 0),.d (.int .i64 0),.d (.int .i64 0),.d (.int .i64 0),.d (.int .i64 0)],[.d (.int .i64 0),.d (.int .i64 0),.d (.int .i64 0),.d (.int .i64 0),.d (.int .i64 0),.d (.int .i64 0),.d (.bool false)],(cF y15.1)],[]⟩) hv55 rfl ?_ ?_
 simp only[zB,zD,nS,nA,Tryz.ntmps100,SV]
 refine .sB ?_
 refine .sB ?_
 refine .ret QB
 simp only[seval,EMB]
 refine mU e (.ret λe h=>?_) h
 cases h
 simp only[seval,FMB,fx_r,fx_n,xr_o,xr_n,rowT]
 refine .skip (Mir.toK (.seqK (.bind λy16 hy56=>.region λe h=>WB ?_)))
 refine .byB (inp_positions_spec hy56) (mB ?_ h)
 refine .seqK (.sB ?_)
 refine .cond rfl (λhb59=>?_) (λhb59=>?_)
 refine .seqK (.bind λv11 hv60=>.region λe h=>WB ?_)
 refine SpecS.inl Tryz.func100 rfl (by kernel_rfl) (by kernel_rfl) (λv11:Unit=>.tuple [.nil,.agg [.d (.int .i64 0),.d (.int .i64 0),.d (.int .i64 0),.d (.int .i64 0),.d (.int .i64 0),.d (.int .i64 0),.d (.int .i64 0),.d (.int .i64 0)],.agg [.d (.int .i64 0),.d (.int .i64 0),.d (.int .i64 0),.d (.int .i64 0),.d (.int .i64 0),.d (.int .i64 0),.d (.bool false)],.d (.int .i64 y16.2.2)]) (λv11=>⟨[(cA y5.1),(cC y16.2.1),(cG a2),(w6 a3.Work [.d (.list (zA ar a3.Lengths))]),(cF a4),[.d (.int .i64 0),.d (.int .i64 0),.d (.int .i64 0),.d (.int .i64 0),.d (.int .i64 0),.d (.int .i64 0),.d (.int .i64 0),.d (.int .i64 0)],[.d (.int .i64 0),.d (.int .i64 0),.d (.int .i64 0),.d (.int .i64 0),.d (.int .i64 0),.d (.int .i64 0),.d (.bool false)],(cF y15.1)],[]⟩) hv60 rfl ?_ ?_
 simp only[zB,zD,nS,nA,Tryz.ntmps100,SV]
 refine .sB ?_
 refine .sB ?_
 refine .ret QB
 simp only[seval,EMB]
 refine mU e (.ret λe h=>?_) h
 cases h
 simp only[seval,FMB,fx_r,fx_n,xr_o,xr_n,rowT]
 refine .skip (Mir.toK (.sB ?_))
 refine .seqK (.sB ?_)
 refine .gh [.slot 19 47] rfl (Mir.join (λv15:(List am)×ae=>([U,U,U,U,U,.ptr 0 0,.ptr 1 0,U,U,U,U,.ptr 5 0,.ptr 6 0,U,U,U,U,U,U,.own 0 (zA aB v15.1)]++us 185)) (λv15=>⟨[(cA y5.1),(cC y16.2.1),(cG a2),(w6 a3.Work [.d (.list (zA ar a3.Lengths))]),(cF v15.2),[.d (.int .i64 0),.d (.int .i64 0),.d (.int .i64 0),.d (.int .i64 0),.d (.int .i64 0),.d (.int .i64 0),.d (.int .i64 0),.d (.int .i64 0)],[.d (.int .i64 0),.d (.int .i64 0),.d (.int .i64 0),.d (.int .i64 0),.d (.int .i64 0),.d (.int .i64 0),.d (.bool false)],(cF y15.1)],[(47,v15.1.length)]⟩) (λ_=>rfl) ?_ ?_)
 refine .block (.guard λq1=>Mir.range (λ(i1:Nat) (v12:(List am)×ae)=>([U,U,U,U,U,.ptr 0 0,.ptr 1 0,U,.ptr 3 0,.ptr 4 0,U,.ptr 5 0,.ptr 6 0,U,U,U,.d (.int .i64 v9),U,U,.own 0 (zA aB v12.1),U,U,U,U,U,U,U,U,U,U,U,U,U,U,U,U,U,U,U,U,U,U,U,U,U,U,U,U,U,U,U,U,U,U,U,U,U,U,U,U,U,U,U,U,U,U,U,U,U,U,U,U,U,U,U,U,U,U,U,U,U,U,U,U,U,U,U,U,U,U,U,U,U,U,U,U,U,U,U,U,U,U,U,U,U,U,U,U,U,U,U,U,U,U,U,U,U,U,U,U,U,U,U,U,U,U,U,U,U,U,U,U,U,U,U,U,U,U,U,U,U,U,U,U,U,U,U,U,U,U,U,U,U,U,U,U,U,U,U,U,U,U,.d (.list (zA aY y16.1)),.d (.int .i64 (y16.1.length:Int)),.d (.int .i64 (i1:Int))]++us 40)) (λi1 v12=>⟨[(cA y5.1),(cC y16.2.1),(cG a2),(w6 a3.Work [.d (.list (zA ar a3.Lengths))]),(cF v12.2),[.d (.int .i64 0),.d (.int .i64 0),.d (.int .i64 0),.d (.int .i64 0),.d (.int .i64 0),.d (.int .i64 0),.d (.int .i64 0),.d (.int .i64 0)],[.d (.int .i64 0),.d (.int .i64 0),.d (.int .i64 0),.d (.int .i64 0),.d (.int .i64 0),.d (.int .i64 0),.d (.bool false)],(cF y15.1)],[(47,v12.1.length)]⟩) q1 (λ_ _=>rfl) (by simp only[seval,FMB,zNI]) (by simp only[seval,FMB,zNI]) ?_ ?_)
 intro i1 e1 v12 q2
 refine .sR λe h=>?_
 simp only[seval,EMB,q2]
 refine mU e (.seqK (.condT rfl (.skip (Mir.toK (.seqK (.block (.sR λe h=>?_))))))) h
 simp only[seval,EMB,q2,Int.toNat_natCast]
 refine mU e (.seqK (.bind λy17 h1=>.region λe h=>WB ?_)) h
 refine .byB (tb_Machine_spec h1) (mB ?_ h)
 refine .seqK (.sB ?_)
 refine .cond rfl (λh2=>?_) (λh2=>?_)
 refine .seqK (.bind λv13 h3=>.region λe h=>WB ?_)
 refine SpecS.inl Tryz.func100 rfl (by kernel_rfl) (by kernel_rfl) (λv13:Unit=>.tuple [.nil,.agg [.d (.int .i64 0),.d (.int .i64 0),.d (.int .i64 0),.d (.int .i64 0),.d (.int .i64 0),.d (.int .i64 0),.d (.int .i64 0),.d (.int .i64 0)],.agg [.d (.int .i64 0),.d (.int .i64 0),.d (.int .i64 0),.d (.int .i64 0),.d (.int .i64 0),.d (.int .i64 0),.d (.bool false)],.d (.int .i64 y17.2)]) (λv13=>⟨[(cA y5.1),(cC y16.2.1),(cG a2),(w6 a3.Work [.d (.list (zA ar a3.Lengths))]),(cF v12.2),[.d (.int .i64 0),.d (.int .i64 0),.d (.int .i64 0),.d (.int .i64 0),.d (.int .i64 0),.d (.int .i64 0),.d (.int .i64 0),.d (.int .i64 0)],[.d (.int .i64 0),.d (.int .i64 0),.d (.int .i64 0),.d (.int .i64 0),.d (.int .i64 0),.d (.int .i64 0),.d (.bool false)],(cF y15.1),[.d (.int .i64 e1.at_.X),.d (.int .i64 e1.at_.Y),.d (.int .i64 e1.at_.Z),.d (.int .i64 e1.rate)],(cF y17.1)],[(47,v12.1.length)]⟩) h3 rfl ?_ ?_
 simp only[zB,zD,nS,nA,Tryz.ntmps100,SV]
 refine .sB ?_
 refine .sB ?_
 refine .ret QB
 simp only[seval,EMB]
 refine mU e (.ret λe h=>?_) h
 cases h
 simp only[seval,FMB,fx_r,fx_n,xr_o,xr_n,rowT]
 refine .skip (Mir.toK (.seqK (.sR λe h=>?_)))
 simp only[seval,EMB,gE_24]
 refine mU e (Mir.joinO (λv14:(List am)=>([U,U,U,U,U,.ptr 0 0,.ptr 1 0,U,.ptr 3 0,.ptr 4 0,U,.ptr 5 0,.ptr 6 0,U,U,U,.d (.int .i64 v9),U,U,.own 0 (zA aB v14),U,U,.ptr 9 0,U,U,U,U,U,U,U,U,U,U,U,U,U,U,U,U,U,U,U,U,U,U,U,U,U,U,U,U,U,U,U,U,U,U,U,U,U,U,U,U,U,U,U,U,U,U,U,U,U,U,U,U,U,U,U,U,U,U,U,U,U,U,U,U,U,U,U,U,U,U,U,U,U,U,U,U,U,U,U,U,U,U,U,U,U,U,U,U,U,U,U,U,U,U,U,U,U,U,U,U,U,U,U,U,U,U,U,U,U,U,U,U,U,U,U,U,U,U,U,U,U,U,U,U,U,U,U,U,U,U,U,U,U,U,U,U,U,U,U,.d (.list (zA aY y16.1)),.d (.int .i64 (y16.1.length:Int)),.d (.int .i64 (i1:Int))]++us 40)) (λv14=>⟨[(cA y5.1),(cC y16.2.1),(cG a2),(w6 a3.Work [.d (.list (zA ar a3.Lengths))]),(cF v12.2),[.d (.int .i64 0),.d (.int .i64 0),.d (.int .i64 0),.d (.int .i64 0),.d (.int .i64 0),.d (.int .i64 0),.d (.int .i64 0),.d (.int .i64 0)],[.d (.int .i64 0),.d (.int .i64 0),.d (.int .i64 0),.d (.int .i64 0),.d (.int .i64 0),.d (.int .i64 0),.d (.bool false)],(cF y15.1),[.d (.int .i64 e1.at_.X),.d (.int .i64 e1.at_.Y),.d (.int .i64 e1.at_.Z),.d (.int .i64 e1.rate)],(cF y17.1)],[(47,v14.length)]⟩) (λ_=>rfl) ?_ ?_) h
 refine .cond rfl (λh4=>?_) (λh4=>?_)
 refine .guard λq3=>.region λe h=>?_
 simp only[seval,EMB,(oL 9),q3]
 cases h
 simp only[seval,FMB]
 refine .skip QB
 intro v14
 refine Mir.toK (.region λe h=>WB ?_)
 refine mU e (.region λe h=>?_) h
 simp only[seval,EMB]
 cases h
 simp only[seval,FMB,q2]
 intro v12 q4
 refine .sR λe h=>?_
 simp only[seval,EMB,q4]
 refine mU e (.seqK (.condF rfl (.exit QB))) h
 intro v15
 refine Mir.toK (.seqK (.regionD [(6,11)] (by kernel_rfl) λe h=>?_))
 simp only[seval,EMB,SB]
 refine mU e (.ret λe h=>?_) h
 cases h
 simp only[seval,FMB,fx_r,fx_n,xr_o,xr_n,rowT]
def kz(a0:ae)(a1:(List am)):Option ae:=if ((a1.length:Int)==0)=true then some a0 else bindO (gt a1 (zG.wrap ((a1.length:Int)-1))) λ(e1:am)=>some e1.To
theorem bM{a0:ae}{a1:(List am)}{y:ae}(h:kz a0 a1=some y):Spec gP 55 [.agg (cF a0),.d (.list (zA aB a1))] (.agg [.d (.int .i64 y.X),.d (.int .i64 y.Y),.d (.int .i64 y.Z)]):=by
 refine auB Tryz.func55 (λy:ae=>.agg [.d (.int .i64 y.X),.d (.int .i64 y.Y),.d (.int .i64 y.Z)]) ?_ h
 unfold kz
 refine .sB ?_
 refine .seqK (.sB ?_)
 refine .cond rfl (λhb2=>?_) (λhb2=>?_)
 refine .sB ?_
 refine .ret QB
 refine .skip (Mir.toK (.seqK (.bind λe1 q3=>?_)))
 replace q3:=gt_ok q3
 refine .region λe h=>?_
 simp only[seval,EMB,q3]
 refine mU e (.ret QB) h
def fN(a0:(List aa))(a1:aw)(a2:ae):Option ((List am)×aH):=bindO (bK a1 a2) λ(y1:Int)=>if (y1 != 0)=true then some ([],aH.mk (-1) y1)else bindO (md_New ) λ(y2:ak)=>bindX (az (okIdx a0) ( aI (λ(i1:Nat) (e1:aa) (v1:(List am)×ae×ak×av)=>bindX (bindO (fG v1.2.2.1 v1.2.2.2 e1 (aw.mk a1.Work a1.Lengths) v1.2.1) λ(y3:(List am)×ak×av×Int)=>bindO (if (y3.2.2.2==0)=true then some (decide ((zG.wrap ((v1.1.length:Int)+(y3.1.length:Int)))>20000))else some false) λ(v2:Bool)=>bindO (if v2=true then some 3 else some y3.2.2.2) λ(v3:Int)=>if (v3 != 0)=true then some (.ret (.ret (.ret (v1.1,aH.mk (i1:Int) v3))))else bindO (az (okIdx y3.1) ( aI (λ(i2:Nat) (e2:am) (v4:(List am))=>bindO (gt v4 (i2:Int)) λ(e3:am)=>some (.go (v4.set (Int.toNat (i2:Int)) (am.mk e3.From e3.To e3.Rate e3.Tool (i1:Int))))) (λ(v4:(List am))=>some v4) y3.1 0 y3.1)) λ(v5:(List am))=>az (okLen (v1.1.length+v5.length)) ( bindO (kz v1.2.1 v5) λ(y4:ae)=>bindO (cu e1 77) λ(y5:(List Int))=>bindO (aM y5 30000) λ(y6:Bool)=>if y6=true then some (.ret (.ret (.ret (v1.1++v5,aH.mk (-1) 0))))else some (.go (v1.1++v5,y4,y3.2.1,y3.2.2.1)))) λ(v6:(List am)×ae×ak×av)=>some (.go (v6.1,v6.2.1,v6.2.2.1,v6.2.2.2))) (λ(v1:(List am)×ae×ak×av)=>some (.go (v1.1,v1.2.1,v1.2.2.1,v1.2.2.2))) a0 0 ([],a2,y2,av.mk 0 0 0 0 0 0 false))) λ(v7:(List am)×ae×ak×av)=>some (v7.1,aH.mk (a0.length:Int) 13)
theorem inp_Blocks_spec{a0:(List aa)}{a1:aw}{a2:ae}{y:(List am)×aH}(h:fN a0 a1 a2=some y):Spec gP 20 [.d (.list (zA ac a0)),.agg (w6 a1.Work [.d (.list (zA ar a1.Lengths))]),.agg (cF a2)] (.tuple [.d (.list (zA aB y.1)),.agg [.d (.int .i64 y.2.Block),.d (.int .i64 y.2.Code)]]):=by
 refine auB Tryz.func20 (λy:(List am)×aH=>.tuple [.d (.list (zA aB y.1)),.agg [.d (.int .i64 y.2.Block),.d (.int .i64 y.2.Code)]]) ?_ h
 unfold fN
 refine .sR λe h=>?_
 simp only[seval,EMB,ag,spD]
 refine mU e (.seqK (.seqK (.bind λy1 hy1=>.region λe h=>?_))) h
 simp only[seval,EMB,ag,spD]
 refine SpecS.by (fp hy1) (by simp only[seval,FMB,ag,spD]) ?_
 simp only[seval,EMB,ag,spD]
 refine mU e (.sR λe h=>?_) h
 simp only[seval,EMB,ag,spD]
 refine mU e (.cond rfl (λhb3=>?_) (λhb3=>?_)) h
 refine .sB ?_
 refine .ret QB
 refine .skip (Mir.toK (.seqK (.bind λy2 hy4=>.region λe h=>?_)))
 simp only[seval,EMB,ag,spD]
 refine SpecS.by (md_New_spec hy4) (rfl) ?_
 simp only[seval,EMB,ag,spD]
 refine mU e (.sR λe h=>?_) h
 simp only[seval,EMB,ag,spD]
 refine mU e (.seqK (.sR λe h=>?_)) h
 simp only[seval,EMB,ag,spD]
 refine mU e (.gh [.slot 11 47] rfl (Mir.join (λv7:(List am)×ae×ak×av=>([.d (.list (zA ac a0)),U,U,U,U,U,U,.ptr 2 0,U,U,U,.own 0 (zA aB v7.1)]++us 79)) (λv7=>⟨[(w6 a1.Work [.d (.list (zA ar a1.Lengths))]),(cF v7.2.1),[.d (.int .i64 0),.d (.int .i64 0)],(cA v7.2.2.1),(cC v7.2.2.2)],[(47,v7.1.length)]⟩) (λ_=>rfl) ?_ ?_)) h
 refine .block (.guard λq1=>Mir.range (λ(i1:Nat) (v1:(List am)×ae×ak×av)=>([.d (.list (zA ac a0)),U,U,U,.ptr 0 0,.ptr 1 0,U,.ptr 2 0,U,.ptr 3 0,.ptr 4 0,.own 0 (zA aB v1.1),U,U,U,U,U,U,U,U,U,U,U,U,U,U,U,U,.d (.list (zA ac a0)),.d (.int .i64 (a0.length:Int)),.d (.int .i64 (i1:Int))]++us 60)) (λi1 v1=>⟨[(w6 a1.Work [.d (.list (zA ar a1.Lengths))]),(cF v1.2.1),[.d (.int .i64 0),.d (.int .i64 0)],(cA v1.2.2.1),(cC v1.2.2.2)],[(47,v1.1.length)]⟩) q1 (λ_ _=>rfl) (by simp only[seval,FMB,ag,spD,zNI]) (by simp only[seval,FMB,ag,spD,zNI]) ?_ ?_)
 intro i1 e1 v1 q2
 refine .sR λe h=>?_
 simp only[seval,EMB,q2,ag,spD]
 refine mU e (.seqK (.condT rfl (.skip (Mir.toK (.seqK (Mir.join (λv6:(List am)×ae×ak×av=>([.d (.list (zA ac a0)),U,U,U,.ptr 0 0,.ptr 1 0,U,.ptr 2 0,U,.ptr 3 0,.ptr 4 0,.own 0 (zA aB v6.1),U,U,U,U,U,U,U,U,U,U,U,U,U,U,U,U,.d (.list (zA ac a0)),.d (.int .i64 (a0.length:Int)),.d (.int .i64 (i1:Int))]++us 60)) (λv6=>⟨[(w6 a1.Work [.d (.list (zA ar a1.Lengths))]),(cF v6.2.1),[.d (.int .i64 0),.d (.int .i64 0)],(cA v6.2.2.1),(cC v6.2.2.2)],[(47,v6.1.length)]⟩) (λ_=>rfl) ?_ ?_)))))) h
 refine .block (.sR λe h=>?_)
 simp only[seval,EMB,q2,Int.toNat_natCast,ag,spD]
 refine mU e (.seqK (.bind λy3 h1=>.region λe h=>?_)) h
 simp only[seval,EMB,ag,spD]
 refine SpecX.toS (inp_Step_specX h1) (by simp only[seval,FMB,ag,spD]) ?_
 simp only[seval,EMB,ag,spD]
 refine mU e (.seqK (.seqK (Mir.joinO (λv2:Bool=>([.d (.list (zA ac a0)),U,U,U,.ptr 0 0,.ptr 1 0,U,.ptr 2 0,U,.ptr 3 0,.ptr 4 0,.own 0 (zA aB v1.1),.d (.int .i64 (i1:Int)),.ptr 5 0,.gr 6 0,.ptr 7 0,.ptr 8 0,.d (.int .i64 y3.2.2.2),U,U,U,U,U,U,U,U,U,U,.d (.list (zA ac a0)),.d (.int .i64 (a0.length:Int)),.d (.int .i64 (i1:Int)),U,U,U,U,U,U,U,U,U,U,U,U,U,U,U,U,U,U,U,U,U,U,U,U,.d (.bool v2)]++us 35)) (λv2=>⟨[(w6 a1.Work [.d (.list (zA ar a1.Lengths))]),(cF v1.2.1),[.d (.int .i64 0),.d (.int .i64 0)],(cA v1.2.2.1),(cC v1.2.2.2),(cG e1),[.rowc 47 0 (zA aB y3.1)],(cA y3.2.1),(cC y3.2.2.1)],[(47,v1.1.length)]⟩) (λ_=>rfl) ?_ ?_))) h
 refine .ite (λh2=>?_) (λh2=>?_)
 refine .regionW λe h=>regW.alt 6 rfl ?_
 simp only[seval,EMB,al,w_eq,ag,spD,h2]
 refine alt_lenR rfl rfl und_40 (regW.of ?_)
 simp only[seval,EMB,al,w_eq,ag,spD,h2]
 cases h
 simp only[seval,FMB,ag,spD,h2]
 refine .region λe h=>?_
 simp only[seval,EMB,ag,spD,h2]
 cases h
 simp only[seval,FMB,ag,spD,h2]
 intro v2
 refine Mir.toK (Mir.joinO (λv3:Int=>([.d (.list (zA ac a0)),U,U,U,.ptr 0 0,.ptr 1 0,U,.ptr 2 0,U,.ptr 3 0,.ptr 4 0,.own 0 (zA aB v1.1),.d (.int .i64 (i1:Int)),.ptr 5 0,.gr 6 0,.ptr 7 0,.ptr 8 0,.d (.int .i64 v3),U,U,U,U,U,U,U,U,U,U,.d (.list (zA ac a0)),.d (.int .i64 (a0.length:Int)),.d (.int .i64 (i1:Int))]++us 60)) (λv3=>⟨[(w6 a1.Work [.d (.list (zA ar a1.Lengths))]),(cF v1.2.1),[.d (.int .i64 0),.d (.int .i64 0)],(cA v1.2.2.1),(cC v1.2.2.2),(cG e1),[.rowc 47 0 (zA aB y3.1)],(cA y3.2.1),(cC y3.2.2.1)],[(47,v1.1.length)]⟩) (λ_=>rfl) ?_ ?_)
 refine .cond rfl (λh3=>?_) (λh3=>?_)
 refine .region λe h=>?_
 simp only[seval,EMB,ag,spD]
 cases h
 simp only[seval,FMB,ag,spD]
 refine .skip λe h=>?_
 cases h
 simp only[seval,FMB,ag,spD]
 intro v3
 refine Mir.toK (.seqK (.sR λe h=>?_))
 simp only[seval,EMB,ag,spD]
 refine mU e (.cond rfl (λh4=>?_) (λh4=>?_)) h
 refine .sR λe h=>?_
 simp only[seval,EMB,ag,spD]
 refine mU e (.ret λe h=>?_) h
 cases h
 simp only[seval,FMB,ag,spD]
 refine .skip (Mir.toK (.seqK (.seqK (.regionW λe h=>regW.alt 1 rfl ?_))))
 simp only[seval,EMB,al,w_eq,ag,spD]
 refine alt_lenR rfl rfl und_40 (regW.of ?_)
 simp only[seval,EMB,al,w_eq,ag,spD]
 refine mU e (Mir.joinO (λv5:(List am)=>([.d (.list (zA ac a0)),U,U,U,.ptr 0 0,.ptr 1 0,U,.ptr 2 0,U,.ptr 3 0,.ptr 4 0,.own 0 (zA aB v1.1),U,.ptr 5 0,.gr 6 0,.ptr 7 0,.ptr 8 0,U,U,U,U,U,U,U,U,U,U,U,.d (.list (zA ac a0)),.d (.int .i64 (a0.length:Int)),.d (.int .i64 (i1:Int))]++us 60)) (λv5=>⟨[(w6 a1.Work [.d (.list (zA ar a1.Lengths))]),(cF v1.2.1),[.d (.int .i64 0),.d (.int .i64 0)],(cA v1.2.2.1),(cC v1.2.2.2),(cG e1),[.rowc 47 0 (zA aB v5)],(cA y3.2.1),(cC y3.2.2.1)],[(47,v1.1.length)]⟩) (λ_=>rfl) ?_ ?_) h
 refine .block (.guard λq3=>Mir.range (λ(i2:Nat) (v4:(List am))=>([.d (.list (zA ac a0)),U,U,U,.ptr 0 0,.ptr 1 0,U,.ptr 2 0,U,.ptr 3 0,.ptr 4 0,.own 0 (zA aB v1.1),.d (.int .i64 (i1:Int)),.ptr 5 0,.gr 6 0,.ptr 7 0,.ptr 8 0,U,U,U,U,U,U,U,U,U,U,U,.d (.list (zA ac a0)),.d (.int .i64 (a0.length:Int)),.d (.int .i64 (i1:Int)),U,U,U,U,U,U,U,U,U,U,U,U,U,U,U,U,U,U,U,U,U,U,U,U,U,U,U,U,U,U,U,U,.d (.int .i64 (y3.1.length:Int)),.d (.int .i64 (i2:Int))]++us 26)) (λi2 v4=>⟨[(w6 a1.Work [.d (.list (zA ar a1.Lengths))]),(cF v1.2.1),[.d (.int .i64 0),.d (.int .i64 0)],(cA v1.2.2.1),(cC v1.2.2.2),(cG e1),[.rowc 47 0 (zA aB v4)],(cA y3.2.1),(cC y3.2.2.1)],[(47,v1.1.length)]⟩) q3 (λ_ _=>rfl) (by simp only[seval,FMB,ag,spD,zNI]) (by simp only[seval,FMB,ag,spD,zNI]) ?_ ?_)
 intro i2 e2 v4 q4
 refine .sR λe h=>?_
 simp only[seval,EMB,q4,ag,spD]
 refine mU e (.seqK (.condT rfl (.skip (Mir.toK (.seqK (.block (.sR λe h=>?_))))))) h
 simp only[seval,EMB,ag,spD]
 refine mU e (.bind λe3 q5=>?_) h
 replace q5:=gt_ok q5
 refine .regionW λe h=>regW.alt 3 rfl ?_
 simp only[seval,EMB,al,w_eq,ag,spD]
 refine ic rfl rfl rfl und_40 sz_47 (row_lo q5.1) (row_hi q5.2 q5.1) (regW.alt 0 rfl ?_)
 simp only[seval,EMB,al,w_eq,ag,spD]
 refine alt_fieldR rfl rfl fld_47_4 sz_3 (by decide) (regW.alt 0 rfl ?_)
 simp only[seval,EMB,al,w_eq,ag,spD]
 refine alt_storeR rfl rfl (row_at q5.2) rfl rfl sz_3 rfl (Nat.le_of_ble_eq_true rfl) (regW.of ?_)
 simp only[seval,EMB,al,w_eq,ag,spD]
 refine mU e (.region λe h=>?_) h
 simp only[seval,EMB,ag,spD]
 cases h
 simp only[seval,FMB,ag,spD,q4]
 intro v4 q6
 refine .sR λe h=>?_
 simp only[seval,EMB,q6,ag,spD]
 refine mU e (.seqK (.condF rfl (.exit λe h=>?_))) h
 cases h
 simp only[seval,FMB,ag,spD]
 intro v5
 refine Mir.toK (.seqK (.guard λq7=>.regionW λe h=>regW.alt 2 rfl ?_))
 simp only[seval,EMB,al,w_eq,ag,spD]
 refine alt_appOwnR rfl rfl rfl app_40 (by kernel_rfl) (by simp only[ge0,geS,lm,xMA,xLA]) jF (ok2 q7 (by simp only[lm]) (by simp only[lm])) (regW.of ?_)
 simp only[seval,EMB,al,w_eq,lm,ag,spD]
 refine mU e (.seqK (.bind λy4 h5=>Mir.regionA 0 [] ([.d (.list (zA ac a0)),U,U,U,.ptr 0 0,.ptr 1 0,U,.ptr 2 0,U,.ptr 3 0,.ptr 4 0,.own 0 (zA aB (v1.1++v5)),U,.ptr 5 0,.gr 6 0,.ptr 7 0,.ptr 8 0,U,U,U,U,U,U,U,U,U,U,U,.d (.list (zA ac a0)),.d (.int .i64 (a0.length:Int)),.d (.int .i64 (i1:Int)),U,U,U,U,U,U,U,U,U,U,U,U,U,U,U,U,U,U,U,U,U,U,U,U,U,U,U,U,U,U,U,U,U,U,U,U,U,U,U,U,U,U,.own 0 (zA aB v1.1),.gr 6 0,.own 0 (zA aB (v1.1++v5)),.agg (cA y3.2.1),.agg (cC y3.2.2.1),.agg (cF v1.2.1),.gr 6 0,.agg (cF y4)]++us 10) ⟨[(w6 a1.Work [.d (.list (zA ar a1.Lengths))]),(cF y4),[.d (.int .i64 0),.d (.int .i64 0)],(cA y3.2.1),(cC y3.2.2.1),(cG e1),[.rowc 47 0 (zA aB v5)],(cA y3.2.1),(cC y3.2.2.1)],[(47,(v1.1++v5).length)]⟩ (by kernel_rfl) (λe h=>?_) (λe h=>?_))) h
 simp only[seval,EMB,al,w_eq,SB,ag,spD]
 refine regA.moveB (j:=3) (by kernel_rfl) rfl rfl ?_
 simp only[seval,EMB,al,w_eq,ag,spD]
 refine regA.three (j:=0) (k:=1) (l:=2) (by kernel_rfl) rfl rfl rfl ?_ ?_ ?_
 refine regW.of ?_
 simp only[seval,EMB,al,w_eq,ag,spD]
 refine regA.two (j:=1) (k:=2) (by kernel_rfl) rfl rfl ?_ ?_
 refine regW.of ?_
 simp only[seval,EMB,al,w_eq,ag,spD]
 refine regA.one (j:=2) (by kernel_rfl) rfl (regW.of ?_)
 simp only[seval,EMB,al,w_eq,ag,spD]
 refine regA.one (j:=4) (by kernel_rfl) rfl (regW.of ?_)
 simp only[seval,EMB,al,w_eq,ag,spD]
 refine SpecS.byZ (bM h5) rfl rfl ?_
 simp only[seval,EMB,al,w_eq,ag,spD]
 refine regA.one (j:=5) (by kernel_rfl) rfl (regW.of ?_)
 simp only[seval,EMB,al,w_eq,ag,spD]
 refine regA.one (j:=6) (by kernel_rfl) rfl (regW.of ?_)
 simp only[seval,EMB,al,w_eq,ag,spD]
 refine regA.one (j:=7) (by kernel_rfl) rfl (regW.of ?_)
 simp only[seval,EMB,al,w_eq,ag,spD]
 exact regA.nil (by kernel_rfl) ⟨by first | rfl | simp only[seval,FMB,ag,spD,xMA,xLA],by first | rfl | simp only[seval,FMB,ag,spD,xMA,xLA]⟩
 refine regW.of ?_
 simp only[seval,EMB,al,w_eq,ag,spD]
 refine regA.two (j:=1) (k:=4) (by kernel_rfl) rfl rfl ?_ ?_
 refine regW.of ?_
 simp only[seval,EMB,al,w_eq,ag,spD]
 refine regA.one (j:=4) (by kernel_rfl) rfl (regW.of ?_)
 simp only[seval,EMB,al,w_eq,ag,spD]
 refine SpecS.byZ (bM h5) rfl rfl ?_
 simp only[seval,EMB,al,w_eq,ag,spD]
 refine regA.one (j:=5) (by kernel_rfl) rfl (regW.of ?_)
 simp only[seval,EMB,al,w_eq,ag,spD]
 refine regA.one (j:=6) (by kernel_rfl) rfl (regW.of ?_)
 simp only[seval,EMB,al,w_eq,ag,spD]
 refine regA.one (j:=7) (by kernel_rfl) rfl (regW.of ?_)
 simp only[seval,EMB,al,w_eq,ag,spD]
 exact regA.nil (by kernel_rfl) ⟨by first | rfl | simp only[seval,FMB,ag,spD,xMA,xLA],by first | rfl | simp only[seval,FMB,ag,spD,xMA,xLA]⟩
 refine regW.of ?_
 simp only[seval,EMB,al,w_eq,ag,spD]
 refine SpecS.byZ (bM h5) rfl rfl ?_
 simp only[seval,EMB,al,w_eq,ag,spD]
 refine regA.two (j:=1) (k:=5) (by kernel_rfl) rfl rfl ?_ ?_
 refine regW.of ?_
 simp only[seval,EMB,al,w_eq,ag,spD]
 refine regA.one (j:=5) (by kernel_rfl) rfl (regW.of ?_)
 simp only[seval,EMB,al,w_eq,ag,spD]
 refine regA.one (j:=6) (by kernel_rfl) rfl (regW.of ?_)
 simp only[seval,EMB,al,w_eq,ag,spD]
 refine regA.one (j:=7) (by kernel_rfl) rfl (regW.of ?_)
 simp only[seval,EMB,al,w_eq,ag,spD]
 exact regA.nil (by kernel_rfl) ⟨by first | rfl | simp only[seval,FMB,ag,spD,xMA,xLA],by first | rfl | simp only[seval,FMB,ag,spD,xMA,xLA]⟩
 refine regW.of ?_
 simp only[seval,EMB,al,w_eq,ag,spD]
 refine regA.one (j:=1) (by kernel_rfl) rfl (regW.of ?_)
 simp only[seval,EMB,al,w_eq,ag,spD]
 refine regA.one (j:=6) (by kernel_rfl) rfl (regW.of ?_)
 simp only[seval,EMB,al,w_eq,ag,spD]
 refine regA.one (j:=7) (by kernel_rfl) rfl (regW.of ?_)
 simp only[seval,EMB,al,w_eq,ag,spD]
 exact regA.nil (by kernel_rfl) ⟨by first | rfl | simp only[seval,FMB,ag,spD,xMA,xLA],by first | rfl | simp only[seval,FMB,ag,spD,xMA,xLA]⟩
 refine regW.of ?_
 simp only[seval,EMB,al,w_eq,ag,spD]
 refine regA.two (j:=0) (k:=2) (by kernel_rfl) rfl rfl ?_ ?_
 refine regW.of ?_
 simp only[seval,EMB,al,w_eq,ag,spD]
 refine regA.one (j:=2) (by kernel_rfl) rfl (regW.of ?_)
 simp only[seval,EMB,al,w_eq,ag,spD]
 refine regA.one (j:=4) (by kernel_rfl) rfl (regW.of ?_)
 simp only[seval,EMB,al,w_eq,ag,spD]
 refine SpecS.byZ (bM h5) rfl rfl ?_
 simp only[seval,EMB,al,w_eq,ag,spD]
 refine regA.one (j:=5) (by kernel_rfl) rfl (regW.of ?_)
 simp only[seval,EMB,al,w_eq,ag,spD]
 refine regA.one (j:=6) (by kernel_rfl) rfl (regW.of ?_)
 simp only[seval,EMB,al,w_eq,ag,spD]
 refine regA.one (j:=7) (by kernel_rfl) rfl (regW.of ?_)
 simp only[seval,EMB,al,w_eq,ag,spD]
 exact regA.nil (by kernel_rfl) ⟨by first | rfl | simp only[seval,FMB,ag,spD,xMA,xLA],by first | rfl | simp only[seval,FMB,ag,spD,xMA,xLA]⟩
 refine regW.of ?_
 simp only[seval,EMB,al,w_eq,ag,spD]
 refine regA.two (j:=0) (k:=4) (by kernel_rfl) rfl rfl ?_ ?_
 refine regW.of ?_
 simp only[seval,EMB,al,w_eq,ag,spD]
 refine regA.one (j:=4) (by kernel_rfl) rfl (regW.of ?_)
 simp only[seval,EMB,al,w_eq,ag,spD]
 refine SpecS.byZ (bM h5) rfl rfl ?_
 simp only[seval,EMB,al,w_eq,ag,spD]
 refine regA.one (j:=5) (by kernel_rfl) rfl (regW.of ?_)
 simp only[seval,EMB,al,w_eq,ag,spD]
 refine regA.one (j:=6) (by kernel_rfl) rfl (regW.of ?_)
 simp only[seval,EMB,al,w_eq,ag,spD]
 refine regA.one (j:=7) (by kernel_rfl) rfl (regW.of ?_)
 simp only[seval,EMB,al,w_eq,ag,spD]
 exact regA.nil (by kernel_rfl) ⟨by first | rfl | simp only[seval,FMB,ag,spD,xMA,xLA],by first | rfl | simp only[seval,FMB,ag,spD,xMA,xLA]⟩
 refine regW.of ?_
 simp only[seval,EMB,al,w_eq,ag,spD]
 refine SpecS.byZ (bM h5) rfl rfl ?_
 simp only[seval,EMB,al,w_eq,ag,spD]
 refine regA.one (j:=0) (by kernel_rfl) rfl (regW.of ?_)
 simp only[seval,EMB,al,w_eq,ag,spD]
 refine regA.one (j:=5) (by kernel_rfl) rfl (regW.of ?_)
 simp only[seval,EMB,al,w_eq,ag,spD]
 refine regA.one (j:=6) (by kernel_rfl) rfl (regW.of ?_)
 simp only[seval,EMB,al,w_eq,ag,spD]
 refine regA.one (j:=7) (by kernel_rfl) rfl (regW.of ?_)
 simp only[seval,EMB,al,w_eq,ag,spD]
 exact regA.nil (by kernel_rfl) ⟨by first | rfl | simp only[seval,FMB,ag,spD,xMA,xLA],by first | rfl | simp only[seval,FMB,ag,spD,xMA,xLA]⟩
 refine regW.of ?_
 simp only[seval,EMB,al,w_eq,ag,spD]
 refine regA.three (j:=0) (k:=1) (l:=4) (by kernel_rfl) rfl rfl rfl ?_ ?_ ?_
 refine regW.of ?_
 simp only[seval,EMB,al,w_eq,ag,spD]
 refine regA.two (j:=1) (k:=4) (by kernel_rfl) rfl rfl ?_ ?_
 refine regW.of ?_
 simp only[seval,EMB,al,w_eq,ag,spD]
 refine regA.one (j:=4) (by kernel_rfl) rfl (regW.of ?_)
 simp only[seval,EMB,al,w_eq,ag,spD]
 refine SpecS.byZ (bM h5) rfl rfl ?_
 simp only[seval,EMB,al,w_eq,ag,spD]
 refine regA.one (j:=5) (by kernel_rfl) rfl (regW.of ?_)
 simp only[seval,EMB,al,w_eq,ag,spD]
 refine regA.one (j:=6) (by kernel_rfl) rfl (regW.of ?_)
 simp only[seval,EMB,al,w_eq,ag,spD]
 refine regA.one (j:=7) (by kernel_rfl) rfl (regW.of ?_)
 simp only[seval,EMB,al,w_eq,ag,spD]
 exact regA.nil (by kernel_rfl) ⟨by first | rfl | simp only[seval,FMB,ag,spD,xMA,xLA],by first | rfl | simp only[seval,FMB,ag,spD,xMA,xLA]⟩
 refine regW.of ?_
 simp only[seval,EMB,al,w_eq,ag,spD]
 refine SpecS.byZ (bM h5) rfl rfl ?_
 simp only[seval,EMB,al,w_eq,ag,spD]
 refine regA.two (j:=1) (k:=5) (by kernel_rfl) rfl rfl ?_ ?_
 refine regW.of ?_
 simp only[seval,EMB,al,w_eq,ag,spD]
 refine regA.one (j:=5) (by kernel_rfl) rfl (regW.of ?_)
 simp only[seval,EMB,al,w_eq,ag,spD]
 refine regA.one (j:=6) (by kernel_rfl) rfl (regW.of ?_)
 simp only[seval,EMB,al,w_eq,ag,spD]
 refine regA.one (j:=7) (by kernel_rfl) rfl (regW.of ?_)
 simp only[seval,EMB,al,w_eq,ag,spD]
 exact regA.nil (by kernel_rfl) ⟨by first | rfl | simp only[seval,FMB,ag,spD,xMA,xLA],by first | rfl | simp only[seval,FMB,ag,spD,xMA,xLA]⟩
 refine regW.of ?_
 simp only[seval,EMB,al,w_eq,ag,spD]
 refine regA.one (j:=1) (by kernel_rfl) rfl (regW.of ?_)
 simp only[seval,EMB,al,w_eq,ag,spD]
 refine regA.one (j:=6) (by kernel_rfl) rfl (regW.of ?_)
 simp only[seval,EMB,al,w_eq,ag,spD]
 refine regA.one (j:=7) (by kernel_rfl) rfl (regW.of ?_)
 simp only[seval,EMB,al,w_eq,ag,spD]
 exact regA.nil (by kernel_rfl) ⟨by first | rfl | simp only[seval,FMB,ag,spD,xMA,xLA],by first | rfl | simp only[seval,FMB,ag,spD,xMA,xLA]⟩
 refine regW.of ?_
 simp only[seval,EMB,al,w_eq,ag,spD]
 refine regA.two (j:=0) (k:=4) (by kernel_rfl) rfl rfl ?_ ?_
 refine regW.of ?_
 simp only[seval,EMB,al,w_eq,ag,spD]
 refine regA.one (j:=4) (by kernel_rfl) rfl (regW.of ?_)
 simp only[seval,EMB,al,w_eq,ag,spD]
 refine SpecS.byZ (bM h5) rfl rfl ?_
 simp only[seval,EMB,al,w_eq,ag,spD]
 refine regA.one (j:=5) (by kernel_rfl) rfl (regW.of ?_)
 simp only[seval,EMB,al,w_eq,ag,spD]
 refine regA.one (j:=6) (by kernel_rfl) rfl (regW.of ?_)
 simp only[seval,EMB,al,w_eq,ag,spD]
 refine regA.one (j:=7) (by kernel_rfl) rfl (regW.of ?_)
 simp only[seval,EMB,al,w_eq,ag,spD]
 exact regA.nil (by kernel_rfl) ⟨by first | rfl | simp only[seval,FMB,ag,spD,xMA,xLA],by first | rfl | simp only[seval,FMB,ag,spD,xMA,xLA]⟩
 refine regW.of ?_
 simp only[seval,EMB,al,w_eq,ag,spD]
 refine SpecS.byZ (bM h5) rfl rfl ?_
 simp only[seval,EMB,al,w_eq,ag,spD]
 refine regA.one (j:=0) (by kernel_rfl) rfl (regW.of ?_)
 simp only[seval,EMB,al,w_eq,ag,spD]
 refine regA.one (j:=5) (by kernel_rfl) rfl (regW.of ?_)
 simp only[seval,EMB,al,w_eq,ag,spD]
 refine regA.one (j:=6) (by kernel_rfl) rfl (regW.of ?_)
 simp only[seval,EMB,al,w_eq,ag,spD]
 refine regA.one (j:=7) (by kernel_rfl) rfl (regW.of ?_)
 simp only[seval,EMB,al,w_eq,ag,spD]
 exact regA.nil (by kernel_rfl) ⟨by first | rfl | simp only[seval,FMB,ag,spD,xMA,xLA],by first | rfl | simp only[seval,FMB,ag,spD,xMA,xLA]⟩
 refine regW.of ?_
 simp only[seval,EMB,al,w_eq,ag,spD]
 refine SpecS.byZ (bM h5) rfl rfl ?_
 simp only[seval,EMB,al,w_eq,ag,spD]
 refine regA.two (j:=0) (k:=1) (by kernel_rfl) rfl rfl ?_ ?_
 refine regW.of ?_
 simp only[seval,EMB,al,w_eq,ag,spD]
 refine regA.two (j:=1) (k:=5) (by kernel_rfl) rfl rfl ?_ ?_
 refine regW.of ?_
 simp only[seval,EMB,al,w_eq,ag,spD]
 refine regA.one (j:=5) (by kernel_rfl) rfl (regW.of ?_)
 simp only[seval,EMB,al,w_eq,ag,spD]
 refine regA.one (j:=6) (by kernel_rfl) rfl (regW.of ?_)
 simp only[seval,EMB,al,w_eq,ag,spD]
 refine regA.one (j:=7) (by kernel_rfl) rfl (regW.of ?_)
 simp only[seval,EMB,al,w_eq,ag,spD]
 exact regA.nil (by kernel_rfl) ⟨by first | rfl | simp only[seval,FMB,ag,spD,xMA,xLA],by first | rfl | simp only[seval,FMB,ag,spD,xMA,xLA]⟩
 refine regW.of ?_
 simp only[seval,EMB,al,w_eq,ag,spD]
 refine regA.one (j:=1) (by kernel_rfl) rfl (regW.of ?_)
 simp only[seval,EMB,al,w_eq,ag,spD]
 refine regA.one (j:=6) (by kernel_rfl) rfl (regW.of ?_)
 simp only[seval,EMB,al,w_eq,ag,spD]
 refine regA.one (j:=7) (by kernel_rfl) rfl (regW.of ?_)
 simp only[seval,EMB,al,w_eq,ag,spD]
 exact regA.nil (by kernel_rfl) ⟨by first | rfl | simp only[seval,FMB,ag,spD,xMA,xLA],by first | rfl | simp only[seval,FMB,ag,spD,xMA,xLA]⟩
 refine regW.of ?_
 simp only[seval,EMB,al,w_eq,ag,spD]
 refine regA.one (j:=0) (by kernel_rfl) rfl (regW.of ?_)
 simp only[seval,EMB,al,w_eq,ag,spD]
 refine regA.one (j:=5) (by kernel_rfl) rfl (regW.of ?_)
 simp only[seval,EMB,al,w_eq,ag,spD]
 refine regA.one (j:=6) (by kernel_rfl) rfl (regW.of ?_)
 simp only[seval,EMB,al,w_eq,ag,spD]
 refine regA.one (j:=7) (by kernel_rfl) rfl (regW.of ?_)
 simp only[seval,EMB,al,w_eq,ag,spD]
 exact regA.nil (by kernel_rfl) ⟨by first | rfl | simp only[seval,FMB,ag,spD,xMA,xLA],by first | rfl | simp only[seval,FMB,ag,spD,xMA,xLA]⟩
 refine mU e (.seqK (.bind λy5 h6=>.bind λy6 h7=>.region λe h=>?_)) h
 simp only[seval,EMB,ag,spD]
 refine SpecS.by (bE h6) (by simp only[seval,FMB,ag,spD]) ?_
 simp only[seval,EMB,ag,spD]
 refine SpecS.by (bF h7) (by simp only[seval,FMB,ag,spD]) ?_
 simp only[seval,EMB,ag,spD]
 refine mU e (.cond rfl (λh8=>?_) (λh8=>?_)) h
 refine .sR λe h=>?_
 simp only[seval,EMB,ag,spD]
 refine mU e (.ret λe h=>?_) h
 cases h
 simp only[seval,FMB,ag,spD]
 refine .skip λe h=>?_
 cases h
 simp only[seval,FMB,ag,spD]
 intro v6
 refine Mir.toK (.region λe h=>?_)
 simp only[seval,EMB,ag,spD]
 cases h
 simp only[seval,FMB,ag,spD,q2]
 intro v1 q8
 refine .sR λe h=>?_
 simp only[seval,EMB,q8,ag,spD]
 refine mU e (.seqK (.condF rfl (.exit λe h=>?_))) h
 cases h
 simp only[seval,FMB,ag,spD]
 intro v7
 refine Mir.toK (.sR λe h=>?_)
 simp only[seval,EMB,ag,spD]
 refine mU e (.ret λe h=>?_) h
 cases h
 simp only[seval,FMB,ag,spD]
def ky(a0:(List UInt8))(a1:aw)(a2:ae):Option ((List am)×aH×Int):=bindO (bK (aw.mk a1.Work a1.Lengths) a2) λ(y1:Int)=>if (y1 != 0)=true then some ([],aH.mk 0 0,y1)else bindO (fO a0) λ(y2:(List aa)×Int×Int)=>if (y2.2.2 != 0)=true then some ([],aH.mk 0 0,y2.2.2)else bindO (eS y2.1) λ(y3:aA×Int)=>if (y3.2 != 0)=true then some ([],aH.mk 0 0,y3.2)else bindO (eg y3.1) λ(y4:(List aa)×Int)=>if (y4.2 != 0)=true then some ([],aH.mk 0 0,y4.2)else bindO (fN y4.1 (aw.mk a1.Work a1.Lengths) a2) λ(y5:(List am)×aH)=>some (y5.1,y5.2,0)
theorem ju{a0:(List UInt8)}{a1:aw}{a2:ae}{y:(List am)×aH×Int}(h:ky a0 a1 a2=some y):Spec gP 9 [.d (.str a0),.agg (w6 a1.Work [.d (.list (zA ar a1.Lengths))]),.agg (cF a2)] (.tuple [.d (.list (zA aB y.1)),.agg [.d (.int .i64 y.2.1.Block),.d (.int .i64 y.2.1.Code)],.d (.int .i64 y.2.2)]):=by
 refine auB Tryz.func9 (λy:(List am)×aH×Int=>.tuple [.d (.list (zA aB y.1)),.agg [.d (.int .i64 y.2.1.Block),.d (.int .i64 y.2.1.Code)],.d (.int .i64 y.2.2)]) ?_ h
 unfold ky
 refine .sB ?_
 refine .seqK (.seqK (.bind λy1 hy1=>.region λe h=>WB ?_))
 refine .byB (fp hy1) (mB ?_ h)
 refine .sB ?_
 refine .cond rfl (λhb3=>?_) (λhb3=>?_)
 refine .sB ?_
 refine .ret QB
 refine .skip (Mir.toK (.seqK (.bind λy2 hy4=>.region λe h=>WB ?_)))
 refine .byB (bk_Program_spec hy4) (mB ?_ h)
 refine .seqK (.sB ?_)
 refine .cond rfl (λhb6=>?_) (λhb6=>?_)
 refine .sB ?_
 refine .ret QB
 refine .skip (Mir.toK (.seqK (.bind λy3 hy7=>.region λe h=>WB ?_)))
 refine .byB (sp_Split_spec hy7) (mB ?_ h)
 refine .seqK (.sB ?_)
 refine .cond rfl (λhb9=>?_) (λhb9=>?_)
 refine .sB ?_
 refine .ret QB
 refine .skip (Mir.toK (.seqK (.bind λy4 hy10=>.region λe h=>WB ?_)))
 refine .byB (sp_Expand_spec hy10) (mB ?_ h)
 refine .seqK (.sB ?_)
 refine .cond rfl (λhb12=>?_) (λhb12=>?_)
 refine .sB ?_
 refine .ret QB
 refine .skip (Mir.toK (.seqK (.bind λy5 hy13=>.region λe h=>WB ?_)))
 refine .byB (inp_Blocks_spec hy13) (mB ?_ h)
 refine .seqK (.regionD [] (by kernel_rfl) λe h=>?_)
 simp only[seval,EMB,SB]
 refine mU e (.ret QB) h
def fR :Option Bool:=bindO (fY [aW.mk 2 [ay.mk 2 (ae.mk 5 0 0) (bw.mk 0 0) 7]] (ae.mk 0 0 0) (bo.mk 55000 false 0 0)) λ(y1:(List UInt8)×Int)=>bindO (ee (ae.mk 100 0 0)) λ(y2:aw)=>bindO (ky y1.1 (aw.mk y2.Work y2.Lengths) (ae.mk 100 0 12000)) λ(y3:(List am)×aH×Int)=>bindO (if (y1.2==0)=true then if (y3.2.2==0)=true then if ((y3.2.1.Block==(-1))&&(y3.2.1.Code==0))=true then if ((y3.1.length:Int)==1)=true then bindO (gt y3.1 0) λ(e1:am)=>if ((e1.From.X==100)&&((e1.From.Y==0)&&(e1.From.Z==12000)))=true then if ((e1.To.X==105)&&((e1.To.Y==0)&&(e1.To.Z==12000)))=true then if (e1.Rate==7)=true then some (e1.Tool==2)else some false else some false else some false else some false else some false else some false else some false) λ(v1:Bool)=>some v1
theorem fi {y:Bool}(h:fR=some y):Spec gP 4 [] (.d (.bool y)):=by
 refine auB Tryz.func4 (λy:Bool=>.d (.bool y)) ?_ h
 unfold fR
 refine .sB ?_
 refine .sR λe h=>?_
 simp only[seval,EMB,(oL 7),(oL 2)]
 refine mU e (.seqK (.bind λy1 hy1=>.region λe h=>WB ?_)) h
 refine .byB (jj hy1) (mB ?_ h)
 refine .seqK (.bind λy2 hy2=>.bind λy3 hy3=>.region λe h=>WB ?_)
 refine .byB (gz hy2) (WB ?_)
 refine .byB (ju hy3) (mB ?_ h)
 refine .seqK (Mir.joinO (λv1:Bool=>([.d (.bool v1)]++us 73)) (λv1=>⟨[(cM y3.2.1)],[]⟩) (λ_=>rfl) ?_ ?_)
 refine .ite (λhb4=>?_) (λhb4=>?_)
 refine .ite (λhb5=>?_) (λhb5=>?_)
 refine .ite (λhb6=>?_) (λhb6=>?_)
 refine .ite (λhb7=>?_) (λhb7=>?_)
 refine .bind λe1 q8=>?_
 replace q8:=gt_ok q8
 simp only[Int.reduceToNat,Int.reduceLT,Nat.sub_zero,dp0]at q8
 refine .ite (λhb9=>?_) (λhb9=>?_)
 refine .ite (λhb10=>?_) (λhb10=>?_)
 refine .ite (λhb11=>?_) (λhb11=>?_)
 refine .region λe h=>?_
 simp only[seval,EMB,gE_42,q8,gE_24,hb4,hb5,hb6,hb7,hb9,hb10,hb11]
 cases h
 simp only[seval,FMB,hb4,hb5,hb6,hb7,hb9,hb10,hb11]
 refine .region λe h=>?_
 simp only[seval,EMB,gE_42,q8,gE_24,hb4,hb5,hb6,hb7,hb9,hb10,hb11]
 cases h
 simp only[seval,FMB,hb4,hb5,hb6,hb7,hb9,hb10,hb11]
 refine .region λe h=>?_
 simp only[seval,EMB,gE_42,q8,gE_24,hb4,hb5,hb6,hb7,hb9,hb10]
 cases h
 simp only[seval,FMB,hb4,hb5,hb6,hb7,hb9,hb10]
 refine .region λe h=>?_
 simp only[seval,EMB,gE_42,q8,gE_24,hb4,hb5,hb6,hb7,hb9]
 cases h
 simp only[seval,FMB,hb4,hb5,hb6,hb7,hb9]
 refine .region λe h=>?_
 simp only[seval,EMB,gE_42,hb4,hb5,hb6,hb7]
 cases h
 simp only[seval,FMB,hb4,hb5,hb6,hb7]
 refine .region λe h=>?_
 simp only[seval,EMB,gE_42,hb4,hb5,hb6]
 cases h
 simp only[seval,FMB,hb4,hb5,hb6]
 refine .region λe h=>?_
 simp only[seval,EMB,hb4,hb5]
 cases h
 simp only[seval,FMB,hb4,hb5]
 refine .region λe h=>?_
 simp only[seval,EMB,hb4]
 cases h
 simp only[seval,FMB,hb4]
 intro v1
 refine Mir.toK (.ret QB)
end Go.Proofs.YtgojngpeaknbnaaGreatDoor
