import Derived.Test.YtjemmjpdmbenkaaGreatDoorMA
import Derived.Test.YtjemmjpdmbenkaaGreatDoorMBa
open List renaming map → zA
namespace Go.Proofs.YtjemmjpdmbenkaaGreatDoor
open Go.RowKit
open Nat renaming reduceAdd → nA,reduceSub → nS,reduceMul → nM,reduceEqDiff → nE,reduceLeDiff → nL,reduceLT → nT,reduceBEq → nB
open Int renaming reduceLT → iT,reduceToNat → iN,reduceEq → iE
set_option linter.unusedVariables false
set_option linter.unusedSimpArgs false
set_option maxRecDepth 100000
set_option maxHeartbeats 8000000
def ip(a0:aq)(a1:ao)(a2:aa)(a3:aC)(a4:ag):Option ((List al)×aq×ao×Int):=ah (bF a3 a4) λ(y1:Int)=>if (y1 != 0)=true then ah (iF 66 (λv1:Unit=>.tuple [.nil,.agg cX,.agg cY,dI y1]) (λv1:Unit=>⟨[(cA a0),(cB a1),(cC a2),(w6 a3.Work [dL au a3.Lengths]),(cE a4),cX,cY],[]⟩) (some ())) λ(v1:Unit)=>some ([],aq.mk 0 0 0 0 0 0 0 0,ao.mk 0 0 0 0 0 0 false,y1)else ah (ah (iu a2) λ(y2:Int)=>if (y2 != 0)=true then some true else ah (kM a2) λ(y3:Int)=>if (y3 != 0)=true then some true else ah (gL a2) λ(y4:Bool)=>some (!y4)) λ(v2:Bool)=>jR 4 ([U,U,U,U,U,.ptr 0 0,.ptr 1 0,.ptr 2 0,.ptr 3 0,.ptr 4 0,U,.ptr 5 0,.ptr 6 0]++us 34++[dB v2]++us 157) ⟨[(cA a0),(cB a1),(cC a2),(w6 a3.Work [dL au a3.Lengths]),(cE a4),cX,cY],[]⟩ ( if v2=true then ah (iF 66 (λv3:Unit=>.tuple [.nil,.agg cX,.agg cY,dI 1]) (λv3:Unit=>⟨[(cA a0),(cB a1),(cC a2),(w6 a3.Work [dL au a3.Lengths]),(cE a4),cX,cY],[]⟩) (some ())) λ(v3:Unit)=>some ([],aq.mk 0 0 0 0 0 0 0 0,ao.mk 0 0 0 0 0 0 false,1)else ah (md_Apply a0 a2) λ(y5:aq×Int)=>if (y5.2 != 0)=true then ah (iF 66 (λv4:Unit=>.tuple [.nil,.agg cX,.agg cY,dI y5.2]) (λv4:Unit=>⟨[(cA y5.1),(cB a1),(cC a2),(w6 a3.Work [dL au a3.Lengths]),(cE a4),cX,cY],[]⟩) (some ())) λ(v4:Unit)=>some ([],aq.mk 0 0 0 0 0 0 0 0,ao.mk 0 0 0 0 0 0 false,y5.2)else ah (dD y5.1.Motion) λ(y6:Bool)=>ah (if (!y6)=true then some (ao.mk 0 0 0 0 0 0 false)else some a1) λ(v5:ao)=>jC ([U,U,U,U,U,.ptr 0 0,.ptr 1 0,.ptr 2 0,.ptr 3 0,.ptr 4 0,U,.ptr 5 0,.ptr 6 0]++us 192) ⟨[(cA y5.1),(cB v5),(cC a2),(w6 a3.Work [dL au a3.Lengths]),(cE a4),cX,cY],[]⟩ ( ah (gX a2 [88,89,90,73,74,81,82]) λ(y7:Bool)=>if (!y7)=true then some ([],y5.1,v5,0)else ah (ah (gX a2 [73,74]) λ(y8:Bool)=>if y8=true then if (y5.1.Motion != 2000)=true then if (y5.1.Motion != 3000)=true then some true else ah (gX a2 [81,82]) λ(y9:Bool)=>if y9=true then ah (dD y5.1.Motion) λ(y10:Bool)=>some (!y10)else some false else ah (gX a2 [81,82]) λ(y11:Bool)=>if y11=true then ah (dD y5.1.Motion) λ(y12:Bool)=>some (!y12)else some false else ah (gX a2 [81,82]) λ(y13:Bool)=>if y13=true then ah (dD y5.1.Motion) λ(y14:Bool)=>some (!y14)else some false) λ(v6:Bool)=>jR 13 ([U,U,U,U,U,.ptr 0 0,.ptr 1 0,.ptr 2 0,.ptr 3 0,.ptr 4 0,U,.ptr 5 0,.ptr 6 0]++us 85++[dB v6]++us 106) ⟨[(cA y5.1),(cB v5),(cC a2),(w6 a3.Work [dL au a3.Lengths]),(cE a4),cX,cY],[]⟩ ( if v6=true then ah (iF 66 (λv7:Unit=>.tuple [.nil,.agg cX,.agg cY,dI 1]) (λv7:Unit=>⟨[(cA y5.1),(cB v5),(cC a2),(w6 a3.Work [dL au a3.Lengths]),(cE a4),cX,cY],[]⟩) (some ())) λ(v7:Unit)=>some ([],aq.mk 0 0 0 0 0 0 0 0,ao.mk 0 0 0 0 0 0 false,1)else jV 15 ([U,U,U,U,U,.ptr 0 0,.ptr 1 0,.ptr 2 0,.ptr 3 0,.ptr 4 0,U,.ptr 5 0,.ptr 6 0]++us 103++[dB ((y5.1.Motion==80000)||((y5.1.Motion != 0)&&(decide (y5.1.Feed≤0))))]++us 88) ⟨[(cA y5.1),(cB v5),(cC a2),(w6 a3.Work [dL au a3.Lengths]),(cE a4),cX,cY],[]⟩ ( if ((y5.1.Motion==80000)||((y5.1.Motion != 0)&&(decide (y5.1.Feed≤0))))=true then ah (iF 66 (λv8:Unit=>.tuple [.nil,.agg cX,.agg cY,dI 13]) (λv8:Unit=>⟨[(cA y5.1),(cB v5),(cC a2),(w6 a3.Work [dL au a3.Lengths]),(cE a4),cX,cY],[]⟩) (some ())) λ(v8:Unit)=>some ([],aq.mk 0 0 0 0 0 0 0 0,ao.mk 0 0 0 0 0 0 false,13)else ah (if (y5.1.Length==43000)=true then some (IntKind.i64.wrap (Int.tdiv y5.1.Offset 1000))else some 0) λ(v9:Int)=>jC ([U,U,U,U,U,.ptr 0 0,.ptr 1 0,.ptr 2 0,.ptr 3 0,.ptr 4 0,U,.ptr 5 0,.ptr 6 0,U,U,U,dI v9]++us 188) ⟨[(cA y5.1),(cB v5),(cC a2),(w6 a3.Work [dL au a3.Lengths]),(cE a4),cX,cY],[]⟩ ( ah (nv a3 y5.1.Work v9 a4) λ(y15:ag×Int)=>if (y15.2 != 0)=true then ah (iF 66 (λv10:Unit=>.tuple [.nil,.agg cX,.agg cY,dI y15.2]) (λv10:Unit=>⟨[(cA y5.1),(cB v5),(cC a2),(w6 a3.Work [dL au a3.Lengths]),(cE a4),cX,cY,(cE y15.1)],[]⟩) (some ())) λ(v10:Unit)=>some ([],aq.mk 0 0 0 0 0 0 0 0,ao.mk 0 0 0 0 0 0 false,y15.2)else ah (dq y5.1 v5 a2 y15.1) λ(y16:(List ap)×ao×Int)=>if (y16.2.2 != 0)=true then ah (iF 66 (λv11:Unit=>.tuple [.nil,.agg cX,.agg cY,dI y16.2.2]) (λv11:Unit=>⟨[(cA y5.1),(cB y16.2.1),(cC a2),(w6 a3.Work [dL au a3.Lengths]),(cE a4),cX,cY,(cE y15.1)],[]⟩) (some ())) λ(v11:Unit)=>some ([],aq.mk 0 0 0 0 0 0 0 0,ao.mk 0 0 0 0 0 0 false,y16.2.2)else gF [.slot 19 55] ( bindX (av (be y16.1) ( az (λ(i1:Nat) (e1:ap) (v12:(List al)×ag)=>rF ([U,U,U,U,U,.ptr 0 0,.ptr 1 0,U,.ptr 3 0,.ptr 4 0,U,.ptr 5 0,.ptr 6 0,U,U,U,dI v9,U,U,.own 0 (zA aE v12.1)]++us 142++[dL aX y16.1,dI (y16.1.length:Int),dI (i1:Int)]++us 40) ⟨[(cA y5.1),(cB y16.2.1),(cC a2),(w6 a3.Work [dL au a3.Lengths]),(cE v12.2),cX,cY,(cE y15.1)],[(55,v12.1.length)]⟩ ( ah (d7 a3 y5.1.Work v9 e1.at_) λ(y17:ag×Int)=>if (y17.2 != 0)=true then ah (iF 66 (λv13:Unit=>.tuple [.nil,.agg cX,.agg cY,dI y17.2]) (λv13:Unit=>⟨[(cA y5.1),(cB y16.2.1),(cC a2),(w6 a3.Work [dL au a3.Lengths]),(cE v12.2),cX,cY,(cE y15.1),(cG e1),(cE y17.1)],[(55,v12.1.length)]⟩) (some ())) λ(v13:Unit)=>some (.ret (.ret ([],aq.mk 0 0 0 0 0 0 0 0,ao.mk 0 0 0 0 0 0 false,y17.2)))else ah (if (!((y17.1.X==v12.2.X)&&((y17.1.Y==v12.2.Y)&&(y17.1.Z==v12.2.Z))))=true then av (bo (v12.1.length+1)) ( some (v12.1++[al.mk v12.2 y17.1 e1.rate (IntKind.i64.wrap (Int.tdiv y5.1.Tool 1000)) 0]))else some v12.1) λ(v14:(List al))=>jC ([U,U,U,U,U,.ptr 0 0,.ptr 1 0,U,.ptr 3 0,.ptr 4 0,U,.ptr 5 0,.ptr 6 0,U,U,U,dI v9,U,U,.own 0 (zA aE v14),U,U,.ptr 9 0]++us 139++[dL aX y16.1,dI (y16.1.length:Int),dI (i1:Int)]++us 40) ⟨[(cA y5.1),(cB y16.2.1),(cC a2),(w6 a3.Work [dL au a3.Lengths]),(cE v12.2),cX,cY,(cE y15.1),(cG e1),(cE y17.1)],[(55,v14.length)]⟩ ( some (.go (v14,y17.1))))) (λ(v12:(List al)×ag)=>some (.go (v12.1,v12.2))) y16.1 0 ([],a4))) λ(v15:(List al)×ag)=>jB 0 ([U,U,U,U,U,.ptr 0 0,.ptr 1 0,U,U,U,U,.ptr 5 0,.ptr 6 0]++us 6++[.own 0 (zA aE v15.1)]++us 185) ⟨[(cA y5.1),(cB y16.2.1),(cC a2),(w6 a3.Work [dL au a3.Lengths]),(cE v15.2),cX,cY,(cE y15.1)],[(55,v15.1.length)]⟩ ( some (v15.1,y5.1,y16.2.1,0))))))))
theorem inp_Step_specX{a0:aq}{a1:ao}{a2:aa}{a3:aC}{a4:ag}{y:(List al)×aq×ao×Int}(h:ip a0 a1 a2 a3 a4=some y):SpecX gP 27 [.agg (cA a0),.agg (cB a1),.agg (cC a2),.agg (w6 a3.Work [.d (.list (zA au a3.Lengths))]),.agg (cE a4)] 55 (zA aE y.1) [.agg [dI y.2.1.Motion,dI y.2.1.Distance,dI y.2.1.Work,dI y.2.1.Length,dI y.2.1.Return,dI y.2.1.Feed,dI y.2.1.Tool,dI y.2.1.Offset],.agg [dI y.2.2.1.Code,dI y.2.2.1.R,dI y.2.2.1.Z,dI y.2.2.1.Q,dI y.2.2.1.Rate,dI y.2.2.1.Initial,dB y.2.2.1.High],dI y.2.2.2]:=by
 refine specX_mir Tryz.func27 rfl (by kernel_rfl) (by kernel_rfl) (λy:(List al)×aq×ao×Int=>zA aE y.1) (λy:(List al)×aq×ao×Int=>[.agg [dI y.2.1.Motion,dI y.2.1.Distance,dI y.2.1.Work,dI y.2.1.Length,dI y.2.1.Return,dI y.2.1.Feed,dI y.2.1.Tool,dI y.2.1.Offset],.agg [dI y.2.2.1.Code,dI y.2.2.1.R,dI y.2.2.1.Z,dI y.2.2.1.Q,dI y.2.2.1.Rate,dI y.2.2.1.Initial,dB y.2.2.1.High],dI y.2.2.2]) (sc_map (λ_=>rfl) _) (by rw[show Tryz.prog.cellsOf 55=9 from (by kernel_rfl)];exact me) rfl ?_ h
 unfold ip
 simp only[List.replicate,List.length,nS,nA,Tryz.ntmps27,SV]
 refine .sA ?_
 refine .seqK (.seqK (.bind λy1 hy1=>.region λe h=>WA ?_))
 refine .byA (la.1 _ hy1) (mA ?_ h)
 refine .sA ?_
 refine .cond rfl (λhb4=>?_) (λhb4=>?_)
 refine .seqK (.bind λv1 hv5=>.region λe h=>WA ?_)
 refine aY.inlA hv5 ?_ ?_
 exact zzA
 simp only[seval,EMA]
 refine mU e (.ret λe h=>?_) h
 cases h
 simp only[seval,FMA,fx_r,fx_n,xr_o,xr_n,rowT]
 refine .skip (Mir.toK (.seqK (.seqK (Mir.jOR (λ_=>rfl) ?_ ?_))))
 exact zzA
 intro v2
 refine Mir.toK (.cond rfl (λhb13=>?_) (λhb13=>?_))
 refine .seqK (.bind λv3 hv14=>.region λe h=>WA ?_)
 refine aY.inlA hv14 ?_ ?_
 exact zzA
 simp only[seval,EMA]
 refine mU e (.ret λe h=>?_) h
 cases h
 simp only[seval,FMA,fx_r,fx_n,xr_o,xr_n,rowT]
 refine .skip (Mir.toK (.seqK (.bind λy5 hy15=>.region λe h=>WA ?_)))
 refine .byA (md_Apply_spec.1 _ hy15) (mA ?_ h)
 refine .seqK (.sA ?_)
 refine .cond rfl (λhb18=>?_) (λhb18=>?_)
 refine .seqK (.bind λv4 hv19=>.region λe h=>WA ?_)
 refine aY.inlA hv19 ?_ ?_
 exact zzA
 simp only[seval,EMA]
 refine mU e (.ret λe h=>?_) h
 cases h
 simp only[seval,FMA,fx_r,fx_n,xr_o,xr_n,rowT]
 refine .skip (Mir.toK (.seqK (.seqK (.bind λy6 hy20=>.region λe h=>WA ?_))))
 refine .byA (inp_cycles_spec.1 _ hy20) (mA ?_ h)
 refine Mir.jOC (λ_=>rfl) ?_ ?_
 exact zzA
 intro v5
 refine Mir.toK (.seqK (.seqK (.bind λy7 hy23=>.region λe h=>WA ?_)))
 refine .byA (inp_has_spec.1 _ hy23) (mA ?_ h)
 refine .cond rfl (λhb25=>?_) (λhb25=>?_)
 refine .seqK (.regionD [(6,11)] (by kernel_rfl) λe h=>?_)
 simp only[seval,EMA,SB]
 refine mU e (.ret λe h=>?_) h
 cases h
 simp only[seval,FMA,fx_r,fx_n,xr_o,xr_n,rowT]
 refine .skip (Mir.toK (.seqK (.seqK (Mir.jOR (λ_=>rfl) ?_ ?_))))
 refine .bind λy8 hy26=>.ite (λhb27=>?_) (λhb27=>?_)
 refine .ite (λhb28=>?_) (λhb28=>?_)
 refine .ite (λhb29=>?_) (λhb29=>?_)
 exact zzA
 exact zzA
 exact zzA
 exact zzA
 intro v6
 refine Mir.toK (.cond rfl (λhb41=>?_) (λhb41=>?_))
 refine .seqK (.bind λv7 hv42=>.region λe h=>WA ?_)
 refine aY.inlA hv42 ?_ ?_
 exact zzA
 simp only[seval,EMA]
 refine mU e (.ret λe h=>?_) h
 cases h
 simp only[seval,FMA,fx_r,fx_n,xr_o,xr_n,rowT]
 refine .skip (Mir.toK (.seqK (.seqK (Mir.jV rfl ?_ ?_))))
 refine SWs.region ?_
 rcases Bool.eq_false_or_eq_true (y5.1.Motion==80000)with hb43 | hb43
 simp only[seval,EMA,SL,PB,hb43]
 rcases Bool.eq_false_or_eq_true (y5.1.Motion != 0)with hb44 | hb44
 simp only[seval,EMA,SL,PB,hb43,hb44]
 simp only[seval,EMA,SL,PB,hb43,hb44]
 refine Mir.toK (.cond rfl (λhb47=>?_) (λhb47=>?_))
 refine .seqK (.bind λv8 hv48=>.region λe h=>WA ?_)
 refine aY.inlA hv48 ?_ ?_
 exact zzA
 simp only[seval,EMA]
 refine mU e (.ret λe h=>?_) h
 cases h
 simp only[seval,FMA,fx_r,fx_n,xr_o,xr_n,rowT]
 refine .skip (Mir.toK (.sA ?_))
 refine .seqK (.sA ?_)
 refine Mir.jOC (λ_=>rfl) ?_ ?_
 exact zzA
 intro v9
 refine Mir.toK (.seqK (.bind λy15 hy51=>.region λe h=>WA ?_))
 refine .byA (tb_Work_spec.1 _ hy51) (mA ?_ h)
 refine .seqK (.sA ?_)
 refine .cond rfl (λhb54=>?_) (λhb54=>?_)
 refine .seqK (.bind λv10 hv55=>.region λe h=>WA ?_)
 refine aY.inlA hv55 ?_ ?_
 exact zzA
 simp only[seval,EMA]
 refine mU e (.ret λe h=>?_) h
 cases h
 simp only[seval,FMA,fx_r,fx_n,xr_o,xr_n,rowT]
 refine .skip (Mir.toK (.seqK (.bind λy16 hy56=>.region λe h=>WA ?_)))
 refine .byA (inp_positions_spec.1 _ hy56) (mA ?_ h)
 refine .seqK (.sA ?_)
 refine .cond rfl (λhb59=>?_) (λhb59=>?_)
 refine .seqK (.bind λv11 hv60=>.region λe h=>WA ?_)
 refine aY.inlA hv60 ?_ ?_
 exact zzA
 simp only[seval,EMA]
 refine mU e (.ret λe h=>?_) h
 cases h
 simp only[seval,FMA,fx_r,fx_n,xr_o,xr_n,rowT]
 refine .skip (Mir.toK (.sA ?_))
 refine .seqK (.sA ?_)
 refine Mir.gF rfl (Mir.jXB (λ_=>rfl) ?_ ?_)
 refine .block (.guard λq1=>Mir.rF q1 (λ_ _=>rfl) (by simp only[seval,FMA,zNI]) (by simp only[seval,FMA,zNI]) ?_ ?_)
 intro i1 e1 v12 q2
 refine .sR λe h=>?_
 simp only[seval,EMA,q2]
 refine mU e (.seqK (.condT rfl (.skip (Mir.toK (.seqK (.block (.sR λe h=>?_))))))) h
 simp only[seval,EMA,q2,Int.toNat_natCast]
 refine mU e (.seqK (.bind λy17 h1=>.region λe h=>WA ?_)) h
 refine .byA (tb_Machine_spec.1 _ h1) (mA ?_ h)
 refine .seqK (.sA ?_)
 refine .cond rfl (λh2=>?_) (λh2=>?_)
 refine .seqK (.bind λv13 h3=>.region λe h=>WA ?_)
 refine aY.inlA h3 ?_ ?_
 exact zzA
 simp only[seval,EMA]
 refine mU e (.ret λe h=>?_) h
 cases h
 simp only[seval,FMA,fx_r,fx_n,xr_o,xr_n,rowT]
 refine .skip (Mir.toK (.seqK (.sA ?_)))
 refine Mir.jOC (λ_=>rfl) ?_ ?_
 exact zzA
 exact zzA
 exact zzA
 intro v15
 refine Mir.toK (.seqK (.regionD [(6,11)] (by kernel_rfl) λe h=>?_))
 simp only[seval,EMA,SB]
 refine mU e (.ret λe h=>?_) h
 cases h
 simp only[seval,FMA,fx_r,fx_n,xr_o,xr_n,rowT]
def inp_End(a0:ag)(a1:(List al)):Option ag:=if ((a1.length:Int)==0)=true then some a0 else ah (gt a1 (IntKind.i64.wrap ((a1.length:Int)-1))) λ(e1:al)=>some e1.To
instance bU:Sp 28 (∀{a0:ag} {a1:(List al)},Ct 28 [.agg (cE a0),.d (.list (zA aE a1))] (λy:ag=>.agg [.d (.int .i64 y.X),.d (.int .i64 y.Y),.d (.int .i64 y.Z)]) (inp_End a0 a1)):=⟨zzF Tryz.func28 (inp_End.eq_1 ..)⟩
def gk(a0:aa)(a1:Int):Option (List Int):=gF [.slot 5 2] ( ah (av (be a0.Words) ( az (λ(i1:Nat) (e1:ay) (v1:(List Int))=>rF ([U,.d (.int .u8 a1),U,U,U,.own 0 (zA (eInt .i64) v1),U,U,U,dL aw a0.Words,dI (a0.Words.length:Int),dI (i1:Int)]++us 14) ⟨[(cC a0)],[(2,v1.length)]⟩ ( ah (if (e1.Letter==a1)=true then av (bo (v1.length+1)) ( some (v1++[e1.Value]))else some v1) λ(v2:(List Int))=>jB 1 ([U,.d (.int .u8 a1),U,U,U,.own 0 (zA (eInt .i64) v2),U,U,U,dL aw a0.Words,dI (a0.Words.length:Int),dI (i1:Int)]++us 14) ⟨[(cC a0)],[(2,v2.length)]⟩ ( some (.go v2)))) (λ(v1:(List Int))=>some v1) a0.Words 0 [])) λ(v3:(List Int))=>jB 0 ([U,U,U,U,U,.own 0 (zA (eInt .i64) v3)]++us 20) ⟨[(cC a0)],[(2,v3.length)]⟩ ( some v3))
instance bk_Codes_spec:Sp 30 (∀{a0:aa} {a1:Int},Ct 30 [.agg (cC a0),.d (.int .u8 a1)] (λy:(List Int)=>.d (.list (zA (eInt .i64) y))) (gk a0 a1)):=⟨zzF Tryz.func30 (gk.eq_1 ..)⟩
def fi(a0:(List aa))(a1:aC)(a2:ag):Option ((List al)×aL):=ah (bF a1 a2) λ(y1:Int)=>if (y1 != 0)=true then some ([],aL.mk (-1) y1)else ah (md_New ) λ(y2:aq)=>gF [.slot 11 55] ( bindX (av (be a0) ( az (λ(i1:Nat) (e1:aa) (v1:(List al)×ag×aq×ao)=>rF ([dL ac a0,U,U,U,.ptr 0 0,.ptr 1 0,U,.ptr 2 0,U,.ptr 3 0,.ptr 4 0,.own 0 (zA aE v1.1)]++us 16++[dL ac a0,dI (a0.length:Int),dI (i1:Int)]++us 60) ⟨[(w6 a1.Work [dL au a1.Lengths]),(cE v1.2.1),cZ,(cA v1.2.2.1),(cB v1.2.2.2)],[(55,v1.1.length)]⟩ ( bindX (ah (ip v1.2.2.1 v1.2.2.2 e1 (aC.mk a1.Work a1.Lengths) v1.2.1) λ(y3:(List al)×aq×ao×Int)=>ah (if (y3.2.2.2==0)=true then some (decide ((IntKind.i64.wrap ((v1.1.length:Int)+(y3.1.length:Int)))>20000))else some false) λ(v2:Bool)=>jR 10 ([dL ac a0,U,U,U,.ptr 0 0,.ptr 1 0,U,.ptr 2 0,U,.ptr 3 0,.ptr 4 0,.own 0 (zA aE v1.1),dI (i1:Int),.ptr 5 0,.gr 6 0,.ptr 7 0,.ptr 8 0,dI y3.2.2.2]++us 10++[dL ac a0,dI (a0.length:Int),dI (i1:Int)]++us 24++[dB v2]++us 35) ⟨[(w6 a1.Work [dL au a1.Lengths]),(cE v1.2.1),cZ,(cA v1.2.2.1),(cB v1.2.2.2),(cC e1),[.rowc 55 0 (zA aE y3.1)],(cA y3.2.1),(cB y3.2.2.1)],[(55,v1.1.length)]⟩ ( ah (if v2=true then some 3 else some y3.2.2.2) λ(v3:Int)=>jC ([dL ac a0,U,U,U,.ptr 0 0,.ptr 1 0,U,.ptr 2 0,U,.ptr 3 0,.ptr 4 0,.own 0 (zA aE v1.1),dI (i1:Int),.ptr 5 0,.gr 6 0,.ptr 7 0,.ptr 8 0,dI v3]++us 10++[dL ac a0,dI (a0.length:Int),dI (i1:Int)]++us 60) ⟨[(w6 a1.Work [dL au a1.Lengths]),(cE v1.2.1),cZ,(cA v1.2.2.1),(cB v1.2.2.2),(cC e1),[.rowc 55 0 (zA aE y3.1)],(cA y3.2.1),(cB y3.2.2.1)],[(55,v1.1.length)]⟩ ( if (v3 != 0)=true then some (.ret (.ret (.ret (v1.1,aL.mk (i1:Int) v3))))else ah (av (be y3.1) ( az (λ(i2:Nat) (e2:al) (v4:(List al))=>rF ([dL ac a0,U,U,U,.ptr 0 0,.ptr 1 0,U,.ptr 2 0,U,.ptr 3 0,.ptr 4 0,.own 0 (zA aE v1.1),dI (i1:Int),.ptr 5 0,.gr 6 0,.ptr 7 0,.ptr 8 0]++us 11++[dL ac a0,dI (a0.length:Int),dI (i1:Int)]++us 32++[dI (y3.1.length:Int),dI (i2:Int)]++us 26) ⟨[(w6 a1.Work [dL au a1.Lengths]),(cE v1.2.1),cZ,(cA v1.2.2.1),(cB v1.2.2.2),(cC e1),[.rowc 55 0 (zA aE v4)],(cA y3.2.1),(cB y3.2.2.1)],[(55,v1.1.length)]⟩ ( ah (gt v4 (i2:Int)) λ(e3:al)=>some (.go (v4.set (Int.toNat (i2:Int)) (al.mk e3.From e3.To e3.Rate e3.Tool (i1:Int)))))) (λ(v4:(List al))=>some v4) y3.1 0 y3.1)) λ(v5:(List al))=>jB 2 ([dL ac a0,U,U,U,.ptr 0 0,.ptr 1 0,U,.ptr 2 0,U,.ptr 3 0,.ptr 4 0,.own 0 (zA aE v1.1),U,.ptr 5 0,.gr 6 0,.ptr 7 0,.ptr 8 0]++us 11++[dL ac a0,dI (a0.length:Int),dI (i1:Int)]++us 60) ⟨[(w6 a1.Work [dL au a1.Lengths]),(cE v1.2.1),cZ,(cA v1.2.2.1),(cB v1.2.2.2),(cC e1),[.rowc 55 0 (zA aE v5)],(cA y3.2.1),(cB y3.2.2.1)],[(55,v1.1.length)]⟩ ( av (bo (v1.1.length+v5.length)) ( ah (inp_End v1.2.1 v5) λ(y4:ag)=>ah (gk e1 77) λ(y5:(List Int))=>ah (aU y5 30000) λ(y6:Bool)=>if y6=true then some (.ret (.ret (.ret (v1.1++v5,aL.mk (-1) 0))))else some (.go (v1.1++v5,y4,y3.2.1,y3.2.2.1))))))) λ(v6:(List al)×ag×aq×ao)=>jB 1 ([dL ac a0,U,U,U,.ptr 0 0,.ptr 1 0,U,.ptr 2 0,U,.ptr 3 0,.ptr 4 0,.own 0 (zA aE v6.1)]++us 16++[dL ac a0,dI (a0.length:Int),dI (i1:Int)]++us 60) ⟨[(w6 a1.Work [dL au a1.Lengths]),(cE v6.2.1),cZ,(cA v6.2.2.1),(cB v6.2.2.2)],[(55,v6.1.length)]⟩ ( some (.go (v6.1,v6.2.1,v6.2.2.1,v6.2.2.2))))) (λ(v1:(List al)×ag×aq×ao)=>some (.go (v1.1,v1.2.1,v1.2.2.1,v1.2.2.2))) a0 0 ([],ag.mk a2.X a2.Y a2.Z,y2,ao.mk 0 0 0 0 0 0 false))) λ(v7:(List al)×ag×aq×ao)=>jB 0 ([dL ac a0]++us 6++[.ptr 2 0,U,U,U,.own 0 (zA aE v7.1)]++us 79) ⟨[(w6 a1.Work [dL au a1.Lengths]),(cE v7.2.1),cZ,(cA v7.2.2.1),(cB v7.2.2.2)],[(55,v7.1.length)]⟩ ( some (v7.1,aL.mk (a0.length:Int) 13)))
theorem fF{a0:(List aa)}{a1:aC}{a2:ag}{y:(List al)×aL}(h:fi a0 a1 a2=some y):Spec gP 11 [.d (.list (zA ac a0)),.agg (w6 a1.Work [.d (.list (zA au a1.Lengths))]),.agg (cE a2)] (.tuple [.d (.list (zA aE y.1)),.agg [.d (.int .i64 y.2.Block),.d (.int .i64 y.2.Code)]]):=by
 refine auA Tryz.func11 (λy:(List al)×aL=>.tuple [.d (.list (zA aE y.1)),.agg [.d (.int .i64 y.2.Block),.d (.int .i64 y.2.Code)]]) ?_ h
 unfold fi
 refine .sA ?_
 refine .seqK (.seqK (.bind λy1 hy1=>.region λe h=>WA ?_))
 refine .byA (la.1 _ hy1) (mA ?_ h)
 refine .sA ?_
 refine .cond rfl (λhb3=>?_) (λhb3=>?_)
 exact zzA
 refine .skip (Mir.toK (.seqK (.bind λy2 hy4=>.region λe h=>WA ?_)))
 refine aY.by (md_New_spec.1 _ hy4) (rfl) ?_
 simp only[seval,EMA]
 refine mU e (.sA ?_) h
 refine .seqK (.sA ?_)
 refine Mir.gF rfl (Mir.jXB (λ_=>rfl) ?_ ?_)
 refine .block (.guard λq1=>Mir.rF q1 (λ_ _=>rfl) (by simp only[seval,FMA,zNI]) (by simp only[seval,FMA,zNI]) ?_ ?_)
 intro i1 e1 v1 q2
 refine .sR λe h=>?_
 simp only[seval,EMA,q2]
 refine mU e (.seqK (.condT rfl (.skip (Mir.toK (.seqK (Mir.jXB (λ_=>rfl) ?_ ?_)))))) h
 refine .block (.sR λe h=>?_)
 simp only[seval,EMA,q2,Int.toNat_natCast]
 refine mU e (.seqK (.bind λy3 h1=>.region λe h=>WA ?_)) h
 refine SpecX.toS (inp_Step_specX h1) (by simp only[seval,FMA]) ?_
 simp only[seval,EMA]
 refine mU e (.seqK (.seqK (Mir.jOR (λ_=>rfl) ?_ ?_))) h
 refine .ite (λh2=>?_) (λh2=>?_)
 refine .regionW λe h=>regW.alt 6 rfl ?_
 simp only[seval,EMA,h2]
 refine alt_lenR rfl rfl und_36 (regW.of ?_)
 exact zzA
 exact zzA
 intro v2
 refine Mir.toK (Mir.jOC (λ_=>rfl) ?_ ?_)
 exact zzA
 intro v3
 refine Mir.toK (.seqK (.sA ?_))
 refine .cond rfl (λh4=>?_) (λh4=>?_)
 exact zzA
 refine .skip (Mir.toK (.seqK (.seqK (.regionW λe h=>regW.alt 1 rfl ?_))))
 simp only[seval,EMA]
 refine alt_lenR rfl rfl und_36 (regW.of ?_)
 simp only[seval,EMA]
 refine mU e (Mir.jOB (λ_=>rfl) ?_ ?_) h
 refine .block (.guard λq3=>Mir.rF q3 (λ_ _=>rfl) (by simp only[seval,FMA,zNI]) (by simp only[seval,FMA,zNI]) ?_ ?_)
 intro i2 e2 v4 q4
 refine .sR λe h=>?_
 simp only[seval,EMA,q4]
 refine mU e (.seqK (.condT rfl (.skip (Mir.toK (.seqK (.block (.sA ?_))))))) h
 refine .bind λe3 q5=>?_
 replace q5:=gM q5
 refine .regionW λe h=>regW.alt 3 rfl ?_
 simp only[seval,EMA]
 refine bJ rfl rfl rfl und_36 sz_55 (gB q5.1) (gY q5.2 q5.1) (regW.alt 0 rfl ?_)
 simp only[seval,EMA]
 refine alt_fieldR rfl rfl fld_55_4 sz_3 (by decide) (regW.alt 0 rfl ?_)
 simp only[seval,EMA]
 refine iC rfl rfl (gZ q5.2) rfl rfl sz_3 rfl (Nat.le_of_ble_eq_true rfl) (regW.of ?_)
 exact zzA
 exact zzA
 intro v5
 refine Mir.toK (.seqK (.guard λq7=>.regionW λe h=>regW.alt 2 rfl ?_))
 simp only[seval,EMA]
 refine alt_appOwnR rfl rfl rfl app_36 (by kernel_rfl) (by simp only[ge0,geS,lm,xMA,xLA]) me (ok2 q7 (by simp only[lm]) (by simp only[lm])) (regW.of ?_)
 simp only[seval,EMA,lm]
 refine mU e (.seqK (.bind λy4 h5=>Mir.regionA 0 [] ([dL ac a0,U,U,U,.ptr 0 0,.ptr 1 0,U,.ptr 2 0,U,.ptr 3 0,.ptr 4 0,.own 0 (zA aE (v1.1++v5)),U,.ptr 5 0,.gr 6 0,.ptr 7 0,.ptr 8 0]++us 11++[dL ac a0,dI (a0.length:Int),dI (i1:Int)]++us 42++[.own 0 (zA aE v1.1),.gr 6 0,.own 0 (zA aE (v1.1++v5)),.agg (cA y3.2.1),.agg (cB y3.2.2.1),.agg (cE v1.2.1),.gr 6 0,.agg (cE y4)]++us 10) ⟨[(w6 a1.Work [dL au a1.Lengths]),(cE y4),cZ,(cA y3.2.1),(cB y3.2.2.1),(cC e1),[.rowc 55 0 (zA aE v5)],(cA y3.2.1),(cB y3.2.2.1)],[(55,(v1.1++v5).length)]⟩ (by kernel_rfl) (λe h=>?_) (λe h=>?_))) h
 simp only[seval,EMA,SB]
 refine regA.moveB (j:=3) (by kernel_rfl) rfl rfl ?_
 simp only[seval,EMA]
 refine regA.three (j:=0) (k:=1) (l:=2) (by kernel_rfl) rfl rfl rfl ?_ ?_ ?_
 refine regW.of ?_
 simp only[seval,EMA]
 refine regA.two (j:=1) (k:=2) (by kernel_rfl) rfl rfl ?_ ?_
 refine regW.of ?_
 simp only[seval,EMA]
 refine regA.one (j:=2) (by kernel_rfl) rfl (regW.of ?_)
 simp only[seval,EMA]
 refine regA.one (j:=4) (by kernel_rfl) rfl (regW.of ?_)
 simp only[seval,EMA]
 refine aY.byZ (bU.1 _ h5) rfl rfl ?_
 simp only[seval,EMA]
 refine regA.one (j:=5) (by kernel_rfl) rfl (regW.of ?_)
 simp only[seval,EMA]
 refine regA.one (j:=6) (by kernel_rfl) rfl (regW.of ?_)
 simp only[seval,EMA]
 refine regA.one (j:=7) (by kernel_rfl) rfl (regW.of ?_)
 simp only[seval,EMA]
 exact regA.nil (by kernel_rfl) ⟨by first | rfl | simp only[seval,FMA,RMX],by first | rfl | simp only[seval,FMA,RMX]⟩
 refine regW.of ?_
 simp only[seval,EMA]
 refine regA.two (j:=1) (k:=4) (by kernel_rfl) rfl rfl ?_ ?_
 refine regW.of ?_
 simp only[seval,EMA]
 refine regA.one (j:=4) (by kernel_rfl) rfl (regW.of ?_)
 simp only[seval,EMA]
 refine aY.byZ (bU.1 _ h5) rfl rfl ?_
 simp only[seval,EMA]
 refine regA.one (j:=5) (by kernel_rfl) rfl (regW.of ?_)
 simp only[seval,EMA]
 refine regA.one (j:=6) (by kernel_rfl) rfl (regW.of ?_)
 simp only[seval,EMA]
 refine regA.one (j:=7) (by kernel_rfl) rfl (regW.of ?_)
 simp only[seval,EMA]
 exact regA.nil (by kernel_rfl) ⟨by first | rfl | simp only[seval,FMA,RMX],by first | rfl | simp only[seval,FMA,RMX]⟩
 refine regW.of ?_
 simp only[seval,EMA]
 refine aY.byZ (bU.1 _ h5) rfl rfl ?_
 simp only[seval,EMA]
 refine regA.two (j:=1) (k:=5) (by kernel_rfl) rfl rfl ?_ ?_
 refine regW.of ?_
 simp only[seval,EMA]
 refine regA.one (j:=5) (by kernel_rfl) rfl (regW.of ?_)
 simp only[seval,EMA]
 refine regA.one (j:=6) (by kernel_rfl) rfl (regW.of ?_)
 simp only[seval,EMA]
 refine regA.one (j:=7) (by kernel_rfl) rfl (regW.of ?_)
 simp only[seval,EMA]
 exact regA.nil (by kernel_rfl) ⟨by first | rfl | simp only[seval,FMA,RMX],by first | rfl | simp only[seval,FMA,RMX]⟩
 refine regW.of ?_
 simp only[seval,EMA]
 refine regA.one (j:=1) (by kernel_rfl) rfl (regW.of ?_)
 simp only[seval,EMA]
 refine regA.one (j:=6) (by kernel_rfl) rfl (regW.of ?_)
 simp only[seval,EMA]
 refine regA.one (j:=7) (by kernel_rfl) rfl (regW.of ?_)
 simp only[seval,EMA]
 exact regA.nil (by kernel_rfl) ⟨by first | rfl | simp only[seval,FMA,RMX],by first | rfl | simp only[seval,FMA,RMX]⟩
 refine regW.of ?_
 simp only[seval,EMA]
 refine regA.two (j:=0) (k:=2) (by kernel_rfl) rfl rfl ?_ ?_
 refine regW.of ?_
 simp only[seval,EMA]
 refine regA.one (j:=2) (by kernel_rfl) rfl (regW.of ?_)
 simp only[seval,EMA]
 refine regA.one (j:=4) (by kernel_rfl) rfl (regW.of ?_)
 simp only[seval,EMA]
 refine aY.byZ (bU.1 _ h5) rfl rfl ?_
 simp only[seval,EMA]
 refine regA.one (j:=5) (by kernel_rfl) rfl (regW.of ?_)
 simp only[seval,EMA]
 refine regA.one (j:=6) (by kernel_rfl) rfl (regW.of ?_)
 simp only[seval,EMA]
 refine regA.one (j:=7) (by kernel_rfl) rfl (regW.of ?_)
 simp only[seval,EMA]
 exact regA.nil (by kernel_rfl) ⟨by first | rfl | simp only[seval,FMA,RMX],by first | rfl | simp only[seval,FMA,RMX]⟩
 refine regW.of ?_
 simp only[seval,EMA]
 refine regA.two (j:=0) (k:=4) (by kernel_rfl) rfl rfl ?_ ?_
 refine regW.of ?_
 simp only[seval,EMA]
 refine regA.one (j:=4) (by kernel_rfl) rfl (regW.of ?_)
 simp only[seval,EMA]
 refine aY.byZ (bU.1 _ h5) rfl rfl ?_
 simp only[seval,EMA]
 refine regA.one (j:=5) (by kernel_rfl) rfl (regW.of ?_)
 simp only[seval,EMA]
 refine regA.one (j:=6) (by kernel_rfl) rfl (regW.of ?_)
 simp only[seval,EMA]
 refine regA.one (j:=7) (by kernel_rfl) rfl (regW.of ?_)
 simp only[seval,EMA]
 exact regA.nil (by kernel_rfl) ⟨by first | rfl | simp only[seval,FMA,RMX],by first | rfl | simp only[seval,FMA,RMX]⟩
 refine regW.of ?_
 simp only[seval,EMA]
 refine aY.byZ (bU.1 _ h5) rfl rfl ?_
 simp only[seval,EMA]
 refine regA.one (j:=0) (by kernel_rfl) rfl (regW.of ?_)
 simp only[seval,EMA]
 refine regA.one (j:=5) (by kernel_rfl) rfl (regW.of ?_)
 simp only[seval,EMA]
 refine regA.one (j:=6) (by kernel_rfl) rfl (regW.of ?_)
 simp only[seval,EMA]
 refine regA.one (j:=7) (by kernel_rfl) rfl (regW.of ?_)
 simp only[seval,EMA]
 exact regA.nil (by kernel_rfl) ⟨by first | rfl | simp only[seval,FMA,RMX],by first | rfl | simp only[seval,FMA,RMX]⟩
 refine regW.of ?_
 simp only[seval,EMA]
 refine regA.three (j:=0) (k:=1) (l:=4) (by kernel_rfl) rfl rfl rfl ?_ ?_ ?_
 refine regW.of ?_
 simp only[seval,EMA]
 refine regA.two (j:=1) (k:=4) (by kernel_rfl) rfl rfl ?_ ?_
 refine regW.of ?_
 simp only[seval,EMA]
 refine regA.one (j:=4) (by kernel_rfl) rfl (regW.of ?_)
 simp only[seval,EMA]
 refine aY.byZ (bU.1 _ h5) rfl rfl ?_
 simp only[seval,EMA]
 refine regA.one (j:=5) (by kernel_rfl) rfl (regW.of ?_)
 simp only[seval,EMA]
 refine regA.one (j:=6) (by kernel_rfl) rfl (regW.of ?_)
 simp only[seval,EMA]
 refine regA.one (j:=7) (by kernel_rfl) rfl (regW.of ?_)
 simp only[seval,EMA]
 exact regA.nil (by kernel_rfl) ⟨by first | rfl | simp only[seval,FMA,RMX],by first | rfl | simp only[seval,FMA,RMX]⟩
 refine regW.of ?_
 simp only[seval,EMA]
 refine aY.byZ (bU.1 _ h5) rfl rfl ?_
 simp only[seval,EMA]
 refine regA.two (j:=1) (k:=5) (by kernel_rfl) rfl rfl ?_ ?_
 refine regW.of ?_
 simp only[seval,EMA]
 refine regA.one (j:=5) (by kernel_rfl) rfl (regW.of ?_)
 simp only[seval,EMA]
 refine regA.one (j:=6) (by kernel_rfl) rfl (regW.of ?_)
 simp only[seval,EMA]
 refine regA.one (j:=7) (by kernel_rfl) rfl (regW.of ?_)
 simp only[seval,EMA]
 exact regA.nil (by kernel_rfl) ⟨by first | rfl | simp only[seval,FMA,RMX],by first | rfl | simp only[seval,FMA,RMX]⟩
 refine regW.of ?_
 simp only[seval,EMA]
 refine regA.one (j:=1) (by kernel_rfl) rfl (regW.of ?_)
 simp only[seval,EMA]
 refine regA.one (j:=6) (by kernel_rfl) rfl (regW.of ?_)
 simp only[seval,EMA]
 refine regA.one (j:=7) (by kernel_rfl) rfl (regW.of ?_)
 simp only[seval,EMA]
 exact regA.nil (by kernel_rfl) ⟨by first | rfl | simp only[seval,FMA,RMX],by first | rfl | simp only[seval,FMA,RMX]⟩
 refine regW.of ?_
 simp only[seval,EMA]
 refine regA.two (j:=0) (k:=4) (by kernel_rfl) rfl rfl ?_ ?_
 refine regW.of ?_
 simp only[seval,EMA]
 refine regA.one (j:=4) (by kernel_rfl) rfl (regW.of ?_)
 simp only[seval,EMA]
 refine aY.byZ (bU.1 _ h5) rfl rfl ?_
 simp only[seval,EMA]
 refine regA.one (j:=5) (by kernel_rfl) rfl (regW.of ?_)
 simp only[seval,EMA]
 refine regA.one (j:=6) (by kernel_rfl) rfl (regW.of ?_)
 simp only[seval,EMA]
 refine regA.one (j:=7) (by kernel_rfl) rfl (regW.of ?_)
 simp only[seval,EMA]
 exact regA.nil (by kernel_rfl) ⟨by first | rfl | simp only[seval,FMA,RMX],by first | rfl | simp only[seval,FMA,RMX]⟩
 refine regW.of ?_
 simp only[seval,EMA]
 refine aY.byZ (bU.1 _ h5) rfl rfl ?_
 simp only[seval,EMA]
 refine regA.one (j:=0) (by kernel_rfl) rfl (regW.of ?_)
 simp only[seval,EMA]
 refine regA.one (j:=5) (by kernel_rfl) rfl (regW.of ?_)
 simp only[seval,EMA]
 refine regA.one (j:=6) (by kernel_rfl) rfl (regW.of ?_)
 simp only[seval,EMA]
 refine regA.one (j:=7) (by kernel_rfl) rfl (regW.of ?_)
 simp only[seval,EMA]
 exact regA.nil (by kernel_rfl) ⟨by first | rfl | simp only[seval,FMA,RMX],by first | rfl | simp only[seval,FMA,RMX]⟩
 refine regW.of ?_
 simp only[seval,EMA]
 refine aY.byZ (bU.1 _ h5) rfl rfl ?_
 simp only[seval,EMA]
 refine regA.two (j:=0) (k:=1) (by kernel_rfl) rfl rfl ?_ ?_
 refine regW.of ?_
 simp only[seval,EMA]
 refine regA.two (j:=1) (k:=5) (by kernel_rfl) rfl rfl ?_ ?_
 refine regW.of ?_
 simp only[seval,EMA]
 refine regA.one (j:=5) (by kernel_rfl) rfl (regW.of ?_)
 simp only[seval,EMA]
 refine regA.one (j:=6) (by kernel_rfl) rfl (regW.of ?_)
 simp only[seval,EMA]
 refine regA.one (j:=7) (by kernel_rfl) rfl (regW.of ?_)
 simp only[seval,EMA]
 exact regA.nil (by kernel_rfl) ⟨by first | rfl | simp only[seval,FMA,RMX],by first | rfl | simp only[seval,FMA,RMX]⟩
 refine regW.of ?_
 simp only[seval,EMA]
 refine regA.one (j:=1) (by kernel_rfl) rfl (regW.of ?_)
 simp only[seval,EMA]
 refine regA.one (j:=6) (by kernel_rfl) rfl (regW.of ?_)
 simp only[seval,EMA]
 refine regA.one (j:=7) (by kernel_rfl) rfl (regW.of ?_)
 simp only[seval,EMA]
 exact regA.nil (by kernel_rfl) ⟨by first | rfl | simp only[seval,FMA,RMX],by first | rfl | simp only[seval,FMA,RMX]⟩
 refine regW.of ?_
 simp only[seval,EMA]
 refine regA.one (j:=0) (by kernel_rfl) rfl (regW.of ?_)
 simp only[seval,EMA]
 refine regA.one (j:=5) (by kernel_rfl) rfl (regW.of ?_)
 simp only[seval,EMA]
 refine regA.one (j:=6) (by kernel_rfl) rfl (regW.of ?_)
 simp only[seval,EMA]
 refine regA.one (j:=7) (by kernel_rfl) rfl (regW.of ?_)
 simp only[seval,EMA]
 exact regA.nil (by kernel_rfl) ⟨by first | rfl | simp only[seval,FMA,RMX],by first | rfl | simp only[seval,FMA,RMX]⟩
 exact zzA
 exact zzA
 exact zzA
 exact zzA
instance:Sp 11 (type_of% @fF):=⟨@fF⟩
def lS :Option Bool:=ah (kO true) λ(y1:(List aa))=>ah (r47_Table ) λ(y2:bg)=>ah (fX y2) λ(y3:aC)=>ah (fi y1 y3 (ag.mk 0 0 0)) λ(y4:(List al)×aL)=>ah (kO false) λ(y5:(List aa))=>ah (r47_Table ) λ(y6:bg)=>ah (fX y6) λ(y7:aC)=>ah (fi y5 y7 (ag.mk 0 0 0)) λ(y8:(List al)×aL)=>ah (if ((y4.1.length:Int)==2)=true then ah (gt y4.1 0) λ(e1:al)=>if ((e1.From.X==0)&&((e1.From.Y==0)&&((e1.From.Z==0)&&((e1.To.X==1000)&&((e1.To.Y==2000)&&((e1.To.Z==74500)&&((e1.Rate==0)&&((e1.Tool==3)&&(e1.Block==1)))))))))=true then ah (gt y4.1 1) λ(e2:al)=>if ((e2.From.X==1000)&&((e2.From.Y==2000)&&((e2.From.Z==74500)&&((e2.To.X==2000)&&((e2.To.Y==2000)&&((e2.To.Z==74500)&&((e2.Rate==10000)&&((e2.Tool==3)&&(e2.Block==2)))))))))=true then if ((y4.2.Block==(-1))&&(y4.2.Code==0))=true then some ((y8.2.Block==2)&&(y8.2.Code==13))else some false else some false else some false else some false) λ(v1:Bool)=>jR 4 ([dB v1]++us 52) ⟨[(cH y4.2),(cH y8.2),[dI 1000,dI 2000,dI 74500]],[]⟩ ( some v1)
theorem nc {y:Bool}(h:lS=some y):Spec gP 4 [] (.d (.bool y)):=by
 refine auA Tryz.func4 (λy:Bool=>.d (.bool y)) ?_ h
 unfold lS
 refine .sA ?_
 refine .seqK (.bind λy1 hy1=>.bind λy2 hy2=>.bind λy3 hy3=>.bind λy4 hy4=>.region λe h=>WA ?_)
 refine .byA (k9.1 _ hy1) (WA ?_)
 refine aY.by (m8.1 _ hy2) (rfl) ?_
 simp only[seval,EMA]
 refine .byA (lR.1 _ hy3) (WA ?_)
 refine .byA (fF hy4) (mA ?_ h)
 refine .seqK (.bind λy5 hy5=>.bind λy6 hy6=>.bind λy7 hy7=>.bind λy8 hy8=>.region λe h=>WA ?_)
 refine .byA (k9.1 _ hy5) (WA ?_)
 refine aY.by (m8.1 _ hy6) (rfl) ?_
 simp only[seval,EMA]
 refine .byA (lR.1 _ hy7) (WA ?_)
 refine .byA (fF hy8) (mA ?_ h)
 refine .sA ?_
 refine .seqK (Mir.jOR (λ_=>rfl) ?_ ?_)
 refine .ite (λhb9=>?_) (λhb9=>?_)
 refine .bind λe1 q10=>?_
 replace q10:=gM q10
 simp only[Int.reduceToNat,Int.reduceLT,Nat.sub_zero,dp0]at q10
 exact zzA
 exact zzA
 exact zzA
instance:Sp 4 (type_of% @nc):=⟨@nc⟩
end Go.Proofs.YtjemmjpdmbenkaaGreatDoor
