import Derived.Test.YtplhejpjnfjopaaGreatDoorGx
import Derived.Test.YtplhejpjnfjopaaGreatDoorTy
import Derived.Test.YtplhejpjnfjopaaGreatDoorGog
import Derived.Test.YtplhejpjnfjopaaGreatDoorMB
import Derived.Test.YtplhejpjnfjopaaGreatDoorMH
import Derived.Test.YtplhejpjnfjopaaGreatDoorMwe
open List renaming map → zA
open And renaming intro → zB
open Nat renaming le_refl → zD
namespace Go.Proofs.YtplhejpjnfjopaaGreatDoor
open Go.RowKit
open Nat renaming reduceAdd → nA,reduceSub → nS,reduceMul → nM,reduceEqDiff → nE,reduceLeDiff → nL,reduceLT → nT,reduceBEq → nB
open Int renaming reduceLT → iT,reduceToNat → iN,reduceEq → iE
set_option linter.unusedVariables false
set_option linter.unusedSimpArgs false
set_option maxRecDepth 100000
set_option maxHeartbeats 8000000
theorem aq:type_of% (zB @SE<|zB @ENMB<|@ENMH):=zB @SE<|zB @ENMB<|@ENMH
theorem az:type_of% (zB @SF<|zB @ENMB<|@ENMH):=zB @SF<|zB @ENMB<|@ENMH
def ez(a0:(List aa))(a1:fc)(a2:Int):Option Bool:=bindO (bindO (fY ) λ(y1:Bool)=>if y1=true then bindO (r47_Few a0 30) λ(y2:Bool)=>if y2=true then if (decide ((a1.Lengths.length:Int)>20))=true then some true else bindO (f9 a1) λ(y3:Int)=>some (y3 != 0)else some true else some true) λ(v1:Bool)=>if v1=true then bindO (fY ) λ(y4:Bool)=>some y4 else bindX (aE (okIdx a0) ( aU (λ(i1:Nat) (e1:aa) (v2:Unit)=>bindO (fM e1) λ(y5:Int)=>if (y5 != 0)=true then some (.ret (.ret true))else bindO (dl e1) λ(y6:Int×Int×Bool×Int)=>bindO (eN e1 77) λ(y7:Int×Bool)=>bindO (eN e1 79) λ(y8:Int×Bool)=>bindO (if y8.2=true then some true else if (y6.2.1 != 0)=true then some true else if y7.2=true then if (y7.1==98000)=true then some true else if (y7.1==99000)=true then some true else bindO (dQ e1 77) λ(y9:(List Int))=>if (decide ((y9.length:Int)>1))=true then some true else some (!((y7.1==30000)==((i1:Int)==(IntKind.i64.wrap ((a0.length:Int)-1)))))else bindO (dQ e1 77) λ(y10:(List Int))=>if (decide ((y10.length:Int)>1))=true then some true else some (!(false==((i1:Int)==(IntKind.i64.wrap ((a0.length:Int)-1)))))) λ(v3:Bool)=>if v3=true then some (.ret (.ret true))else some (.go ())) (λ(v2:Unit)=>some (.go ())) a0 0 ())) λ(v4:Unit)=>if ((a0.length:Int)==0)=true then some true else bindO (aE (okIdx a1.Lengths) ( aU (λ(i2:Nat) (e2:cP) (v5:(List aJ))=>aE (okLen (v5.length+1)) ( some (.go (v5++[aJ.mk e2.Number e2.Length])))) (λ(v5:(List aJ))=>some v5) a1.Lengths 0 [])) λ(v6:(List aJ))=>bindO (aD a0) λ(y11:(List aa))=>bindO (jp y11 77 (IntKind.i64.wrap (1+(IntKind.i64.wrap (Int.tmod a2 6))))) λ(y12:aA×Int)=>bindO (kG y12.1) λ(y13:(List aa))=>bindO (iQ y13) λ(y14:(List UInt8)×Int)=>if ((y12.2 != 0)||(y14.2 != 0))=true then some false else bindO (aD a0) λ(y15:(List aa))=>bindO (fQ y15 (aF.mk a1.Work v6) (ah.mk 0 0 0)) λ(y16:(List ax)×aK)=>bindO (inp_Run y14.1 (aF.mk a1.Work v6) (ah.mk 0 0 0)) λ(y17:(List ax)×aK×Int)=>bindO (if (y17.2.2==0)=true then if ((y16.2.Block==y17.2.1.Block)&&(y16.2.Code==y17.2.1.Code))=true then bindO (bh y16.1 y17.1) λ(y18:Bool)=>some y18 else some false else some false) λ(v7:Bool)=>some v7
theorem top_TopFolded_spec{a0:(List aa)}{a1:fc}{a2:Int}{y:Bool}(h:ez a0 a1 a2=some y):Spec gP 4 [.d (.list (zA ac a0)),.agg (w6 a1.Work [.d (.list (zA bg a1.Lengths))]),.d (.int .u8 a2)] (.d (.bool y)):=by
 refine au Tryz.func4 rfl (by kernel_rfl) (by kernel_rfl) (λy:Bool=>.d (.bool y)) ?_ h
 unfold ez
 simp only[List.replicate,List.length,nS,nA,Tryz.ntmps4,SV]
 refine .sR λe h=>?_
 simp only[seval,aq]
 refine mU e (.seqK (.seqK (Mir.joinO (λv1:Bool=>([.d (.list (zA ac a0)),U,.d (.int .u8 a2),U,.ptr 0 0,U,U,U,U,U,U,U,U,U,U,U,U,U,U,U,U,U,U,U,U,U,U,U,U,U,U,U,U,U,U,U,U,U,U,U,U,U,U,U,U,U,.d (.bool v1)]++us 138)) (λv1=>⟨[(w6 a1.Work [.d (.list (zA bg a1.Lengths))])],[]⟩) (λ_=>rfl) ?_ ?_))) h
 refine .bind λy1 hy1=>.ite (λhb2=>?_) (λhb2=>?_)
 refine .bind λy2 hy3=>.ite (λhb4=>?_) (λhb4=>?_)
 refine .ite (λhb5=>?_) (λhb5=>?_)
 refine .region λe h=>?_
 simp only[seval,aq,hb2,hb4,hb5]
 refine SpecS.by (dg hy1) (rfl) ?_
 simp only[seval,aq,hb2,hb4,hb5]
 refine SpecS.by (jr hy3) (by simp only[seval,az,hb2,hb4,hb5]) ?_
 simp only[seval,aq,fL,sz_51,ag_51,kh,hb2,hb4,hb5]
 cases h
 simp only[seval,az,hb2,hb4,hb5]
 refine .bind λy3 hy6=>.region λe h=>?_
 simp only[seval,aq,hb2,hb4,hb5]
 refine SpecS.by (dg hy1) (rfl) ?_
 simp only[seval,aq,hb2,hb4,hb5]
 refine SpecS.by (jr hy3) (by simp only[seval,az,hb2,hb4,hb5]) ?_
 simp only[seval,aq,fL,sz_51,ag_51,kh,ag_53,sz_53,hb2,hb4,hb5]
 refine SpecS.by (r45_Valid_spec hy6) (by simp only[seval,az,hb2,hb4,hb5]) ?_
 simp only[seval,aq,hb2,hb4,hb5]
 cases h
 simp only[seval,az,hb2,hb4,hb5]
 refine .region λe h=>?_
 simp only[seval,aq,hb2,hb4]
 refine SpecS.by (dg hy1) (rfl) ?_
 simp only[seval,aq,hb2,hb4]
 refine SpecS.by (jr hy3) (by simp only[seval,az,hb2,hb4]) ?_
 simp only[seval,aq,hb2,hb4]
 cases h
 simp only[seval,az,hb2,hb4]
 refine .region λe h=>?_
 simp only[seval,aq,hb2]
 refine SpecS.by (dg hy1) (rfl) ?_
 simp only[seval,aq,hb2]
 cases h
 simp only[seval,az,hb2]
 intro v1
 refine Mir.toK (.cond rfl (λhb9=>?_) (λhb9=>?_))
 refine .seqK (.bind λy4 hy10=>.region λe h=>?_)
 simp only[seval,aq]
 refine SpecS.by (dg hy10) (rfl) ?_
 simp only[seval,aq]
 refine mU e (.ret λe h=>?_) h
 cases h
 simp only[seval,az,Tryz.results4]
 refine .skip (Mir.toK (.seqK (.sR λe h=>?_)))
 simp only[seval,aq,aR]
 refine mU e (Mir.join (λv4:Unit=>([.d (.list (zA ac a0)),U,.d (.int .u8 a2),U,.ptr 0 0]++us 180)) (λv4=>⟨[(w6 a1.Work [.d (.list (zA bg a1.Lengths))])],[]⟩) (λ_=>rfl) ?_ ?_) h
 refine .block (.guard λq1=>Mir.range (λ(i1:Nat) (v2:Unit)=>([.d (.list (zA ac a0)),U,.d (.int .u8 a2),U,.ptr 0 0,U,U,U,U,U,U,U,U,U,U,U,U,U,U,U,U,U,U,U,U,U,U,U,U,U,U,U,U,U,U,U,U,U,U,U,U,U,U,U,U,U,U,U,.d (.list (zA ac a0)),.d (.int .i64 (a0.length:Int)),.d (.int .i64 (i1:Int))]++us 134)) (λi1 v2=>⟨[(w6 a1.Work [.d (.list (zA bg a1.Lengths))])],[]⟩) q1 (λ_ _=>rfl) (by simp only[seval,az,zNI]) (by simp only[seval,az,zNI]) ?_ ?_)
 intro i1 e1 v2 q2
 refine .sR λe h=>?_
 simp only[seval,aq,q2]
 refine mU e (.seqK (.condT rfl (.skip (Mir.toK (.seqK (.block (.sR λe h=>?_))))))) h
 simp only[seval,aq,aR,sz_58,q2,Int.toNat_natCast,ag_58,bo]
 refine mU e (.seqK (.seqK (.bind λy5 h1=>.region λe h=>?_))) h
 simp only[seval,aq,ag_58,sz_58]
 refine SpecS.by (eM h1) (by simp only[seval,az]) ?_
 simp only[seval,aq]
 refine mU e (.cond rfl (λh2=>?_) (λh2=>?_)) h
 refine .sR λe h=>?_
 simp only[seval,aq]
 refine mU e (.ret λe h=>?_) h
 cases h
 simp only[seval,az,Tryz.results4]
 refine .skip (Mir.toK (.seqK (.bind λy6 h3=>.region λe h=>?_)))
 simp only[seval,aq,ag_58,sz_58]
 refine SpecS.by (dx h3) (by simp only[seval,az]) ?_
 simp only[seval,aq]
 refine mU e (.seqK (.bind λy7 h4=>.region λe h=>?_)) h
 simp only[seval,aq,ag_58,sz_58]
 refine SpecS.by (cY h4) (by simp only[seval,az]) ?_
 simp only[seval,aq]
 refine mU e (.seqK (.bind λy8 h5=>.region λe h=>?_)) h
 simp only[seval,aq,ag_58,sz_58]
 refine SpecS.by (cY h5) (by simp only[seval,az]) ?_
 simp only[seval,aq]
 refine mU e (.seqK (Mir.joinO (λv3:Bool=>([.d (.list (zA ac a0)),U,.d (.int .u8 a2),U,.ptr 0 0,U,U,U,U,U,U,U,U,U,U,U,U,U,U,U,U,U,U,U,U,U,U,U,U,U,U,U,U,U,U,U,U,U,U,U,U,U,U,U,U,U,U,U,.d (.list (zA ac a0)),.d (.int .i64 (a0.length:Int)),.d (.int .i64 (i1:Int)),U,U,U,U,U,U,U,U,U,U,U,U,U,U,U,U,U,U,U,U,U,U,U,U,U,U,U,U,U,U,U,U,U,U,U,U,U,U,U,U,U,U,U,U,U,U,U,U,U,U,U,U,U,U,U,U,U,U,.d (.bool v3)]++us 75)) (λv3=>⟨[(w6 a1.Work [.d (.list (zA bg a1.Lengths))]),(cF e1)],[]⟩) (λ_=>rfl) ?_ ?_)) h
 refine .ite (λh6=>?_) (λh6=>?_)
 refine .region λe h=>?_
 simp only[seval,aq,h6]
 cases h
 simp only[seval,az,h6]
 refine .ite (λh7=>?_) (λh7=>?_)
 refine .region λe h=>?_
 simp only[seval,aq,h6,h7]
 cases h
 simp only[seval,az,h6,h7]
 refine .ite (λh8=>?_) (λh8=>?_)
 refine .ite (λh9=>?_) (λh9=>?_)
 refine .region λe h=>?_
 simp only[seval,aq,h6,h7,h8,h9]
 cases h
 simp only[seval,az,h6,h7,h8,h9]
 refine .ite (λh10=>?_) (λh10=>?_)
 refine .region λe h=>?_
 simp only[seval,aq,h6,h7,h8,h9,h10]
 cases h
 simp only[seval,az,h6,h7,h8,h9,h10]
 refine .bind λy9 h11=>.ite (λh12=>?_) (λh12=>?_)
 refine .region λe h=>?_
 simp only[seval,aq,ag_58,sz_58,h6,h7,h8,h9,h10,h12]
 refine SpecS.by (bF h11) (by simp only[seval,az,h6,h7,h8,h9,h10,h12]) ?_
 simp only[seval,aq,cd,h6,h7,h8,h9,h10,h12]
 cases h
 simp only[seval,az,h6,h7,h8,h9,h10,h12]
 refine .region λe h=>?_
 simp only[seval,aq,ag_58,sz_58,h6,h7,h8,h9,h10,h12]
 refine SpecS.by (bF h11) (by simp only[seval,az,h6,h7,h8,h9,h10,h12]) ?_
 simp only[seval,aq,cd,aR,und_4,h6,h7,h8,h9,h10,h12]
 cases h
 simp only[seval,az,h6,h7,h8,h9,h10,h12]
 refine .bind λy10 h13=>.ite (λh14=>?_) (λh14=>?_)
 refine .region λe h=>?_
 simp only[seval,aq,ag_58,sz_58,h6,h7,h8,h14]
 refine SpecS.by (bF h13) (by simp only[seval,az,h6,h7,h8,h14]) ?_
 simp only[seval,aq,cd,h6,h7,h8,h14]
 cases h
 simp only[seval,az,h6,h7,h8,h14]
 refine .region λe h=>?_
 simp only[seval,aq,ag_58,sz_58,h6,h7,h8,h14]
 refine SpecS.by (bF h13) (by simp only[seval,az,h6,h7,h8,h14]) ?_
 simp only[seval,aq,cd,aR,und_4,h6,h7,h8,h14]
 cases h
 simp only[seval,az,h6,h7,h8,h14]
 intro v3
 refine Mir.toK (.cond rfl (λh15=>?_) (λh15=>?_))
 refine .sR λe h=>?_
 simp only[seval,aq]
 refine mU e (.ret λe h=>?_) h
 cases h
 simp only[seval,az,Tryz.results4]
 refine .skip (Mir.toB (Mir.toK (.region λe h=>?_)))
 simp only[seval,aq]
 cases h
 simp only[seval,az,Tryz.results4,q2]
 intro v2 q3
 refine .sR λe h=>?_
 simp only[seval,aq,q3]
 refine mU e (.seqK (.condF rfl (.exit λe h=>?_))) h
 cases h
 simp only[seval,az,Tryz.results4]
 intro v4
 refine Mir.toK (.seqK (.sR λe h=>?_))
 simp only[seval,aq,aR]
 refine mU e (.cond rfl (λh16=>?_) (λh16=>?_)) h
 refine .sR λe h=>?_
 simp only[seval,aq]
 refine mU e (.ret λe h=>?_) h
 cases h
 simp only[seval,az,Tryz.results4]
 refine .skip (Mir.toK (.sR λe h=>?_))
 simp only[seval,aq,iK,sz_35,ag_35,zero_38,pl_38,sz_38]
 refine mU e (.seqK (.sR λe h=>?_)) h
 simp only[seval,aq,fL,sz_51,ag_51,kh]
 refine mU e (.gh [.cell 1 18 68] rfl (Mir.joinO (λv6:(List aJ)=>([.d (.list (zA ac a0)),U,.d (.int .u8 a2),U,U,U,U,U,U,U,U,U,U,U,U,U,U,.ptr 1 0]++us 167)) (λv6=>⟨[(w6 a1.Work [.d (.list (zA bg a1.Lengths))]),(w6 a1.Work [.own 0 (zA am v6)])],[(68,v6.length)]⟩) (λ_=>rfl) ?_ ?_)) h
 refine .block (.guard λq4=>Mir.range (λ(i2:Nat) (v5:(List aJ))=>([.d (.list (zA ac a0)),U,.d (.int .u8 a2),U,U,U,U,U,U,U,U,U,U,U,U,U,U,.ptr 1 0,U,U,U,U,U,U,U,U,U,U,U,U,U,U,U,U,U,U,U,U,U,U,U,U,U,U,U,U,U,U,U,U,U,U,U,U,U,U,U,U,U,U,U,U,U,U,U,U,U,U,U,U,U,U,U,U,U,U,U,U,U,U,U,U,U,U,U,U,U,U,U,U,U,U,U,U,U,U,U,U,U,U,U,U,U,U,U,U,U,U,U,U,U,U,U,U,U,U,U,U,.d (.list (zA bg a1.Lengths)),.d (.int .i64 (a1.Lengths.length:Int)),.d (.int .i64 (i2:Int))]++us 64)) (λi2 v5=>⟨[(w6 a1.Work [.d (.list (zA bg a1.Lengths))]),(w6 a1.Work [.own 0 (zA am v5)])],[(68,v5.length)]⟩) q4 (λ_ _=>rfl) (by simp only[seval,az,zNI]) (by simp only[seval,az,zNI]) ?_ ?_)
 intro i2 e2 v5 q5
 refine .sR λe h=>?_
 simp only[seval,aq,q5]
 refine mU e (.seqK (.condT rfl (.skip (Mir.toK (.seqK (.block (.sR λe h=>?_))))))) h
 simp only[seval,aq,kh,sz_67,q5,Int.toNat_natCast,ag_67,zero_67]
 refine mU e (.guard λq6=>.region λe h=>?_) h
 simp only[seval,aq,dn,sz_36,ag_36,j5,sz_2,ag_2,fld_67_1,fV,pl_68,fg,sz_68,(oL 2),kC,bU,q6]
 refine mU e (.region λe h=>?_) h
 simp only[seval,aq]
 cases h
 simp only[seval,az,Tryz.results4,q5]
 intro v5 q7
 refine .sR λe h=>?_
 simp only[seval,aq,q7]
 refine mU e (.seqK (.condF rfl (.exit λe h=>?_))) h
 cases h
 simp only[seval,az,Tryz.results4]
 intro v6
 refine Mir.toK (.seqK (.bind λy11 h17=>.bind λy12 h18=>.region λe h=>?_))
 simp only[seval,aq]
 refine SpecS.by (ba h17) (by simp only[seval,az]) ?_
 simp only[seval,aq,und_5,und_3]
 refine SpecS.by (sp_Fold_spec h18) (by simp only[seval,az]) ?_
 simp only[seval,aq,eU,sz_71]
 refine mU e (.seqK (.bind λy13 h19=>.bind λy14 h20=>.region λe h=>?_)) h
 simp only[seval,aq,ag_71,sz_71]
 refine SpecS.by (sp_Join_spec h19) (by simp only[seval,az]) ?_
 simp only[seval,aq]
 refine SpecS.by (bk_Print_spec h20) (by simp only[seval,az]) ?_
 simp only[seval,aq]
 refine mU e (.seqK (.seqK (.joinV ([.d (.list (zA ac a0)),U,U,U,U,U,U,U,U,U,U,U,U,U,U,U,U,.ptr 1 0,U,U,U,U,.d (.str y14.1),U,U,U,U,U,U,U,U,U,U,U,U,U,U,U,U,U,U,U,U,U,U,U,U,U,U,U,U,U,U,U,U,U,U,U,U,U,U,U,U,U,U,U,U,U,U,U,U,U,U,U,U,U,U,U,U,U,U,U,U,U,U,U,U,U,U,U,U,U,U,U,U,U,U,U,U,U,U,U,U,U,U,U,U,U,U,U,U,U,U,U,U,U,U,U,U,U,U,U,U,U,U,U,U,U,U,U,U,U,U,U,U,U,U,U,U,U,U,U,U,U,U,U,U,U,U,U,U,U,U,U,U,U,.d (.bool ((y12.2 != 0)||(y14.2 != 0)))]++us 28) ⟨[(w6 a1.Work [.d (.list (zA bg a1.Lengths))]),(w6 a1.Work [.own 0 (zA am v6)]),(cJ y12.1)],[(68,v6.length)]⟩ rfl ?_ ?_))) h
 refine SWs.region ?_
 rcases Bool.eq_false_or_eq_true (y12.2 != 0)with h21 | h21
 simp only[seval,aq,SL,PB,h21]
 simp only[seval,aq,SL,PB,h21]
 refine Mir.toK (.cond rfl (λh22=>?_) (λh22=>?_))
 refine .sR λe h=>?_
 simp only[seval,aq]
 refine mU e (.ret λe h=>?_) h
 cases h
 simp only[seval,az,Tryz.results4]
 refine .skip (Mir.toK (.seqK (.bind λy15 h23=>.bind λy16 h24=>.regionD [] (by kernel_rfl) λe h=>?_)))
 simp only[seval,aq,SB]
 refine Spec.by (ba h23) (by simp only[seval,az]) ?_
 simp only[seval,aq,SB,ag_38,sz_38,bp,pl_24]
 refine Spec.by (jA h24) (by simp only[seval,az]) ?_
 simp only[seval,aq,SB,cS,sz_42]
 refine mU e (.seqK (.bind λy17 h25=>.region λe h=>?_)) h
 simp only[seval,aq,ag_38,sz_38,bp,pl_24]
 refine SpecS.by (inp_Run_spec h25) (by simp only[seval,az]) ?_
 simp only[seval,aq,cS,sz_42]
 refine mU e (.seqK (Mir.joinO (λv7:Bool=>([U,U,U,U,U,U,.d (.bool v7)]++us 178)) (λv7=>⟨[(w6 a1.Work [.d (.list (zA bg a1.Lengths))]),(w6 a1.Work [.own 0 (zA am v6)]),(cJ y12.1),(cL y16.2),(cL y17.2.1)],[(68,v6.length)]⟩) (λ_=>rfl) ?_ ?_)) h
 refine .ite (λh26=>?_) (λh26=>?_)
 refine .ite (λh27=>?_) (λh27=>?_)
 refine .bind λy18 h28=>.region λe h=>?_
 simp only[seval,aq,ag_42,sz_42,gE_42,h26,h27]
 refine SpecS.by (dy h28) (by simp only[seval,az,h26,h27]) ?_
 simp only[seval,aq,h26,h27]
 cases h
 simp only[seval,az,h26,h27]
 refine .region λe h=>?_
 simp only[seval,aq,ag_42,sz_42,gE_42,h26,h27]
 cases h
 simp only[seval,az,h26,h27]
 refine .region λe h=>?_
 simp only[seval,aq,h26]
 cases h
 simp only[seval,az,h26]
 intro v7
 refine Mir.toK (.ret λe h=>?_)
 cases h
 simp only[seval,az,Tryz.results4]
theorem co_4:Tryz.prog.cellsOf 4=1:=by kernel_rfl
theorem opn_4:Opn Tryz.prog 4 eBool inBool:=Opn.bool Tryz.underlying4
theorem co_5:Tryz.prog.cellsOf 5=1:=by kernel_rfl
theorem opn_5:Opn Tryz.prog 5 (eInt .u8) (inInt .u8):=Opn.int Tryz.underlying5
theorem co_2:Tryz.prog.cellsOf 2=1:=by kernel_rfl
theorem opn_2:Opn Tryz.prog 2 (eInt .i64) (inInt .i64):=Opn.int Tryz.underlying2
def inApiWord(x:aw):Prop:=(inInt .u8) x.Letter∧(inInt .i64) x.Value
theorem co_101:Tryz.prog.cellsOf 101=2:=by kernel_rfl
theorem opn_101:Opn Tryz.prog 101 ap inApiWord:=by
 intro w H enc fuel cs x h
 obtain⟨xs,n,_,_,hl,hxl,hf⟩:=DataW.trod_struct Tryz.underlying101 h
 have hxl':xs.length=2:=hxl
 obtain⟨s0,r0,o0⟩:=Opn.field hf 0 5 0 1 rfl co_5 (by omega) opn_5
 obtain⟨s1,r1,o1⟩:=Opn.field hf 1 2 1 1 rfl co_2 (by omega) opn_2
 refine⟨⟨s0,s1⟩,?_,o0,o1⟩
 exact (RelC.cut 0 1 r0 rfl (RelC.cut 1 1 r1 rfl (RelC.nil (n:=2) (by rw[hl,co_101];exact zD _))))
theorem co_56:Tryz.prog.cellsOf 56=1:=by kernel_rfl
theorem opn_56:Opn Tryz.prog 56 (eList ap) (inList inApiWord):=Opn.slice Tryz.underlying56 opn_101 (λ_=>(rfl:_=2).trans co_101.symm) (by rw[co_101];decide)
theorem co_9:Tryz.prog.cellsOf 9=1:=by kernel_rfl
theorem opn_9:Opn Tryz.prog 9 eStr inStr:=Opn.str Tryz.underlying9
def inApiBlock(x:aa):Prop:=inBool x.Skip∧(inList inApiWord) x.Words∧inStr x.Comment
theorem co_58:Tryz.prog.cellsOf 58=3:=by kernel_rfl
theorem opn_58:Opn Tryz.prog 58 ac inApiBlock:=by
 intro w H enc fuel cs x h
 obtain⟨xs,n,_,_,hl,hxl,hf⟩:=DataW.trod_struct Tryz.underlying58 h
 have hxl':xs.length=3:=hxl
 obtain⟨s0,r0,o0⟩:=Opn.field hf 0 4 0 1 rfl co_4 (by omega) opn_4
 obtain⟨s1,r1,o1⟩:=Opn.field hf 1 56 1 1 rfl co_56 (by omega) opn_56
 obtain⟨s2,r2,o2⟩:=Opn.field hf 2 9 2 1 rfl co_9 (by omega) opn_9
 refine⟨⟨s0,s1,s2⟩,?_,o0,o1,o2⟩
 exact (RelC.cut 0 1 r0 rfl (RelC.cut 1 1 r1 rfl (RelC.cut 2 1 r2 rfl (RelC.nil (n:=3) (by rw[hl,co_58];exact zD _)))))
theorem opn_50:Opn Tryz.prog 50 (eList ac) (inList inApiBlock):=Opn.slice Tryz.underlying50 opn_58 (λ_=>(rfl:_=3).trans co_58.symm) (by rw[co_58];decide)
def iH(x:ah):Prop:=(inInt .i64) x.X∧(inInt .i64) x.Y∧(inInt .i64) x.Z
theorem co_24:Tryz.prog.cellsOf 24=3:=by kernel_rfl
theorem opn_24:Opn Tryz.prog 24 cV iH:=by
 intro w H enc fuel cs x h
 obtain⟨xs,n,_,_,hl,hxl,hf⟩:=DataW.trod_struct Tryz.underlying24 h
 have hxl':xs.length=3:=hxl
 obtain⟨s0,r0,o0⟩:=Opn.field hf 0 2 0 1 rfl co_2 (by omega) opn_2
 obtain⟨s1,r1,o1⟩:=Opn.field hf 1 2 1 1 rfl co_2 (by omega) opn_2
 obtain⟨s2,r2,o2⟩:=Opn.field hf 2 2 2 1 rfl co_2 (by omega) opn_2
 refine⟨⟨s0,s1,s2⟩,?_,o0,o1,o2⟩
 exact (RelC.cut 0 1 r0 rfl (RelC.cut 1 1 r1 rfl (RelC.cut 2 1 r2 rfl (RelC.nil (n:=3) (by rw[hl,co_24];exact zD _)))))
def inArr6ApiPos(x:fU):Prop:=iH x.e0∧iH x.e1∧iH x.e2∧iH x.e3∧iH x.e4∧iH x.e5
theorem co_35:Tryz.prog.cellsOf 35=18:=by kernel_rfl
theorem opn_35:Opn Tryz.prog 35 iO inArr6ApiPos:=by
 intro w H enc fuel cs x h
 obtain⟨xs,n,_,_,hl,hxl,hf⟩:=DataW.trod_array Tryz.underlying35 h
 obtain⟨s0,r0,o0⟩:=Opn.elem hf 0 3 co_24 (by omega) hxl opn_24
 obtain⟨s1,r1,o1⟩:=Opn.elem hf 1 3 co_24 (by omega) hxl opn_24
 obtain⟨s2,r2,o2⟩:=Opn.elem hf 2 3 co_24 (by omega) hxl opn_24
 obtain⟨s3,r3,o3⟩:=Opn.elem hf 3 3 co_24 (by omega) hxl opn_24
 obtain⟨s4,r4,o4⟩:=Opn.elem hf 4 3 co_24 (by omega) hxl opn_24
 obtain⟨s5,r5,o5⟩:=Opn.elem hf 5 3 co_24 (by omega) hxl opn_24
 refine⟨⟨s0,s1,s2,s3,s4,s5⟩,?_,o0,o1,o2,o3,o4,o5⟩
 exact (RelC.cut 0 3 r0 rfl (RelC.cut 3 3 r1 rfl (RelC.cut 6 3 r2 rfl (RelC.cut 9 3 r3 rfl (RelC.cut 12 3 r4 rfl (RelC.cut 15 3 r5 rfl (RelC.nil (n:=18) (by rw[hl,co_35];exact zD _))))))))
def kJ(x:cP):Prop:=(inInt .i64) x.Number∧(inInt .i64) x.Length
theorem co_67:Tryz.prog.cellsOf 67=2:=by kernel_rfl
theorem opn_67:Opn Tryz.prog 67 bg kJ:=by
 intro w H enc fuel cs x h
 obtain⟨xs,n,_,_,hl,hxl,hf⟩:=DataW.trod_struct Tryz.underlying67 h
 have hxl':xs.length=2:=hxl
 obtain⟨s0,r0,o0⟩:=Opn.field hf 0 2 0 1 rfl co_2 (by omega) opn_2
 obtain⟨s1,r1,o1⟩:=Opn.field hf 1 2 1 1 rfl co_2 (by omega) opn_2
 refine⟨⟨s0,s1⟩,?_,o0,o1⟩
 exact (RelC.cut 0 1 r0 rfl (RelC.cut 1 1 r1 rfl (RelC.nil (n:=2) (by rw[hl,co_67];exact zD _))))
theorem co_51:Tryz.prog.cellsOf 51=1:=by kernel_rfl
theorem opn_51:Opn Tryz.prog 51 (eList bg) (inList kJ):=Opn.slice Tryz.underlying51 opn_67 (λ_=>(rfl:_=2).trans co_67.symm) (by rw[co_67];decide)
def inR45Table(x:fc):Prop:=inArr6ApiPos x.Work∧(inList kJ) x.Lengths
theorem co_53:Tryz.prog.cellsOf 53=19:=by kernel_rfl
theorem opn_53:Opn Tryz.prog 53 kK inR45Table:=by
 intro w H enc fuel cs x h
 obtain⟨xs,n,_,_,hl,hxl,hf⟩:=DataW.trod_struct Tryz.underlying53 h
 have hxl':xs.length=2:=hxl
 obtain⟨s0,r0,o0⟩:=Opn.field hf 0 35 0 18 rfl co_35 (by omega) opn_35
 obtain⟨s1,r1,o1⟩:=Opn.field hf 1 51 18 1 rfl co_51 (by omega) opn_51
 refine⟨⟨s0,s1⟩,?_,o0,o1⟩
 exact (RelC.cut 0 18 r0 rfl (RelC.cut 18 1 r1 rfl (RelC.nil (n:=19) (by rw[hl,co_53];exact zD _))))
end Go.Proofs.YtplhejpjnfjopaaGreatDoor
