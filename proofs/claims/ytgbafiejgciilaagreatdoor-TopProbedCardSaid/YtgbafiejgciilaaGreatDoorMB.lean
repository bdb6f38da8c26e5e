import Derived.Test.YtgbafiejgciilaaGreatDoorMBa
open List renaming map → zA
namespace Go.Proofs.YtgbafiejgciilaaGreatDoor
open Go.RowKit
open Nat renaming reduceAdd → nA,reduceSub → nS,reduceMul → nM,reduceEqDiff → nE,reduceLeDiff → nL,reduceLT → nT,reduceBEq → nB
open Int renaming reduceLT → iT,reduceToNat → iN,reduceEq → iE
set_option linter.unusedVariables false
set_option linter.unusedSimpArgs false
set_option maxRecDepth 100000
set_option maxHeartbeats 8000000
def fM(a0:(List au))(a1:al)(a2:aa):Option ((List ah)×aW):=bindO (bU (al.mk a1.Work a1.Lengths) a2) λ(y1:Int)=>if (y1 != 0)=true then some ([],aW.mk (-1) y1)else bindO (md_New ) λ(y2:am)=>bindX (aB (okIdx a0) ( aS (λ(i1:Nat) (e1:au) (v1:(List ah)×aa×am×ap)=>bindX (bindO (fG v1.2.2.1 v1.2.2.2 e1 (al.mk a1.Work a1.Lengths) v1.2.1) λ(y3:(List ah)×am×ap×Int)=>bindO (if (y3.2.2.2==0)=true then some (decide ((IntKind.i64.wrap ((v1.1.length:Int)+(y3.1.length:Int)))>20000))else some false) λ(v2:Bool)=>bindO (if v2=true then some 3 else some y3.2.2.2) λ(v3:Int)=>if (v3 != 0)=true then some (.ret (.ret (.ret (v1.1,aW.mk (i1:Int) v3))))else bindO (aB (okIdx y3.1) ( aS (λ(i2:Nat) (e2:ah) (v4:(List ah))=>bindO (gt v4 (i2:Int)) λ(e3:ah)=>some (.go (v4.set (Int.toNat (i2:Int)) (ah.mk e3.From e3.To e3.Rate e3.Tool (i1:Int))))) (λ(v4:(List ah))=>some v4) y3.1 0 y3.1)) λ(v5:(List ah))=>aB (okLen (v1.1.length+v5.length)) ( bindO (k7 v1.2.1 v5) λ(y4:aa)=>bindO (gH e1 77) λ(y5:(List Int))=>bindO (aM y5 30000) λ(y6:Bool)=>if y6=true then some (.ret (.ret (.ret (v1.1++v5,aW.mk (-1) 0))))else some (.go (v1.1++v5,y4,y3.2.1,y3.2.2.1)))) λ(v6:(List ah)×aa×am×ap)=>some (.go (v6.1,v6.2.1,v6.2.2.1,v6.2.2.2))) (λ(v1:(List ah)×aa×am×ap)=>some (.go (v1.1,v1.2.1,v1.2.2.1,v1.2.2.2))) a0 0 ([],a2,y2,ap.mk 0 0 0 0 0 0 false))) λ(v7:(List ah)×aa×am×ap)=>some (v7.1,aW.mk (a0.length:Int) 13)
theorem inp_Blocks_spec{a0:(List au)}{a1:al}{a2:aa}{y:(List ah)×aW}(h:fM a0 a1 a2=some y):Spec gP 12 [.d (.list (zA aU a0)),.agg (w6 a1.Work [.d (.list (zA ag a1.Lengths))]),.agg (cH a2)] (.tuple [.d (.list (zA ac y.1)),.agg [.d (.int .i64 y.2.Block),.d (.int .i64 y.2.Code)]]):=by
 refine auB Tryz.func12 (λy:(List ah)×aW=>.tuple [.d (.list (zA ac y.1)),.agg [.d (.int .i64 y.2.Block),.d (.int .i64 y.2.Code)]]) ?_ h
 unfold fM
 refine .sB ?_
 refine .seqK (.seqK (.bind λy1 hy1=>.region λe h=>WB ?_))
 refine .byB (je hy1) (mB ?_ h)
 refine .sB ?_
 refine .cond rfl (λhb3=>?_) (λhb3=>?_)
 refine .sB ?_
 refine .ret QB
 refine .skip (Mir.toK (.seqK (.bind λy2 hy4=>.region λe h=>WB ?_)))
 refine SpecS.by (md_New_spec hy4) (rfl) ?_
 simp only[seval,EMB]
 refine mU e (.sB ?_) h
 refine .seqK (.sB ?_)
 refine .gh [.slot 11 69] rfl (Mir.join (λv7:(List ah)×aa×am×ap=>([.d (.list (zA aU a0)),U,U,U,U,U,U,.ptr 2 0,U,U,U,.own 0 (zA ac v7.1)]++us 79)) (λv7=>⟨[(w6 a1.Work [.d (.list (zA ag a1.Lengths))]),(cH v7.2.1),[.d (.int .i64 0),.d (.int .i64 0)],(cB v7.2.2.1),(cC v7.2.2.2)],[(69,v7.1.length)]⟩) (λ_=>rfl) ?_ ?_)
 refine .block (.guard λq1=>Mir.range (λ(i1:Nat) (v1:(List ah)×aa×am×ap)=>([.d (.list (zA aU a0)),U,U,U,.ptr 0 0,.ptr 1 0,U,.ptr 2 0,U,.ptr 3 0,.ptr 4 0,.own 0 (zA ac v1.1),U,U,U,U,U,U,U,U,U,U,U,U,U,U,U,U,.d (.list (zA aU a0)),.d (.int .i64 (a0.length:Int)),.d (.int .i64 (i1:Int))]++us 60)) (λi1 v1=>⟨[(w6 a1.Work [.d (.list (zA ag a1.Lengths))]),(cH v1.2.1),[.d (.int .i64 0),.d (.int .i64 0)],(cB v1.2.2.1),(cC v1.2.2.2)],[(69,v1.1.length)]⟩) q1 (λ_ _=>rfl) (by simp only[seval,FMB,zNI]) (by simp only[seval,FMB,zNI]) ?_ ?_)
 intro i1 e1 v1 q2
 refine .sR λe h=>?_
 simp only[seval,EMB,q2]
 refine mU e (.seqK (.condT rfl (.skip (Mir.toK (.seqK (Mir.join (λv6:(List ah)×aa×am×ap=>([.d (.list (zA aU a0)),U,U,U,.ptr 0 0,.ptr 1 0,U,.ptr 2 0,U,.ptr 3 0,.ptr 4 0,.own 0 (zA ac v6.1),U,U,U,U,U,U,U,U,U,U,U,U,U,U,U,U,.d (.list (zA aU a0)),.d (.int .i64 (a0.length:Int)),.d (.int .i64 (i1:Int))]++us 60)) (λv6=>⟨[(w6 a1.Work [.d (.list (zA ag a1.Lengths))]),(cH v6.2.1),[.d (.int .i64 0),.d (.int .i64 0)],(cB v6.2.2.1),(cC v6.2.2.2)],[(69,v6.1.length)]⟩) (λ_=>rfl) ?_ ?_)))))) h
 refine .block (.sR λe h=>?_)
 simp only[seval,EMB,q2,Int.toNat_natCast]
 refine mU e (.seqK (.bind λy3 h1=>.region λe h=>WB ?_)) h
 refine SpecX.toS (inp_Step_specX h1) (by simp only[seval,FMB]) ?_
 simp only[seval,EMB]
 refine mU e (.seqK (.seqK (Mir.joinO (λv2:Bool=>([.d (.list (zA aU a0)),U,U,U,.ptr 0 0,.ptr 1 0,U,.ptr 2 0,U,.ptr 3 0,.ptr 4 0,.own 0 (zA ac v1.1),.d (.int .i64 (i1:Int)),.ptr 5 0,.gr 6 0,.ptr 7 0,.ptr 8 0,.d (.int .i64 y3.2.2.2),U,U,U,U,U,U,U,U,U,U,.d (.list (zA aU a0)),.d (.int .i64 (a0.length:Int)),.d (.int .i64 (i1:Int)),U,U,U,U,U,U,U,U,U,U,U,U,U,U,U,U,U,U,U,U,U,U,U,U,.d (.bool v2)]++us 35)) (λv2=>⟨[(w6 a1.Work [.d (.list (zA ag a1.Lengths))]),(cH v1.2.1),[.d (.int .i64 0),.d (.int .i64 0)],(cB v1.2.2.1),(cC v1.2.2.2),(cG e1),[.rowc 69 0 (zA ac y3.1)],(cB y3.2.1),(cC y3.2.2.1)],[(69,v1.1.length)]⟩) (λ_=>rfl) ?_ ?_))) h
 refine .ite (λh2=>?_) (λh2=>?_)
 refine .regionW λe h=>regW.alt 6 rfl ?_
 simp only[seval,EMB,h2]
 refine alt_lenR rfl rfl und_63 (regW.of ?_)
 simp only[seval,EMB,h2]
 cases h
 simp only[seval,FMB,h2]
 refine .region λe h=>?_
 simp only[seval,EMB,h2]
 cases h
 simp only[seval,FMB,h2]
 intro v2
 refine Mir.toK (Mir.joinO (λv3:Int=>([.d (.list (zA aU a0)),U,U,U,.ptr 0 0,.ptr 1 0,U,.ptr 2 0,U,.ptr 3 0,.ptr 4 0,.own 0 (zA ac v1.1),.d (.int .i64 (i1:Int)),.ptr 5 0,.gr 6 0,.ptr 7 0,.ptr 8 0,.d (.int .i64 v3),U,U,U,U,U,U,U,U,U,U,.d (.list (zA aU a0)),.d (.int .i64 (a0.length:Int)),.d (.int .i64 (i1:Int))]++us 60)) (λv3=>⟨[(w6 a1.Work [.d (.list (zA ag a1.Lengths))]),(cH v1.2.1),[.d (.int .i64 0),.d (.int .i64 0)],(cB v1.2.2.1),(cC v1.2.2.2),(cG e1),[.rowc 69 0 (zA ac y3.1)],(cB y3.2.1),(cC y3.2.2.1)],[(69,v1.1.length)]⟩) (λ_=>rfl) ?_ ?_)
 refine .cond rfl (λ_=>.rB) (λ_=>.skip QB)
 intro v3
 refine Mir.toK (.seqK (.sB ?_))
 refine .cond rfl (λh4=>?_) (λh4=>?_)
 refine .sB ?_
 refine .ret QB
 refine .skip (Mir.toK (.seqK (.seqK (.regionW λe h=>regW.alt 1 rfl ?_))))
 simp only[seval,EMB]
 refine alt_lenR rfl rfl und_63 (regW.of ?_)
 simp only[seval,EMB]
 refine mU e (Mir.joinO (λv5:(List ah)=>([.d (.list (zA aU a0)),U,U,U,.ptr 0 0,.ptr 1 0,U,.ptr 2 0,U,.ptr 3 0,.ptr 4 0,.own 0 (zA ac v1.1),U,.ptr 5 0,.gr 6 0,.ptr 7 0,.ptr 8 0,U,U,U,U,U,U,U,U,U,U,U,.d (.list (zA aU a0)),.d (.int .i64 (a0.length:Int)),.d (.int .i64 (i1:Int))]++us 60)) (λv5=>⟨[(w6 a1.Work [.d (.list (zA ag a1.Lengths))]),(cH v1.2.1),[.d (.int .i64 0),.d (.int .i64 0)],(cB v1.2.2.1),(cC v1.2.2.2),(cG e1),[.rowc 69 0 (zA ac v5)],(cB y3.2.1),(cC y3.2.2.1)],[(69,v1.1.length)]⟩) (λ_=>rfl) ?_ ?_) h
 refine .block (.guard λq3=>Mir.range (λ(i2:Nat) (v4:(List ah))=>([.d (.list (zA aU a0)),U,U,U,.ptr 0 0,.ptr 1 0,U,.ptr 2 0,U,.ptr 3 0,.ptr 4 0,.own 0 (zA ac v1.1),.d (.int .i64 (i1:Int)),.ptr 5 0,.gr 6 0,.ptr 7 0,.ptr 8 0,U,U,U,U,U,U,U,U,U,U,U,.d (.list (zA aU a0)),.d (.int .i64 (a0.length:Int)),.d (.int .i64 (i1:Int)),U,U,U,U,U,U,U,U,U,U,U,U,U,U,U,U,U,U,U,U,U,U,U,U,U,U,U,U,U,U,U,U,.d (.int .i64 (y3.1.length:Int)),.d (.int .i64 (i2:Int))]++us 26)) (λi2 v4=>⟨[(w6 a1.Work [.d (.list (zA ag a1.Lengths))]),(cH v1.2.1),[.d (.int .i64 0),.d (.int .i64 0)],(cB v1.2.2.1),(cC v1.2.2.2),(cG e1),[.rowc 69 0 (zA ac v4)],(cB y3.2.1),(cC y3.2.2.1)],[(69,v1.1.length)]⟩) q3 (λ_ _=>rfl) (by simp only[seval,FMB,zNI]) (by simp only[seval,FMB,zNI]) ?_ ?_)
 intro i2 e2 v4 q4
 refine .sR λe h=>?_
 simp only[seval,EMB,q4]
 refine mU e (.seqK (.condT rfl (.skip (Mir.toK (.seqK (.block (.sB ?_))))))) h
 refine .bind λe3 q5=>?_
 replace q5:=gt_ok q5
 refine .regionW λe h=>regW.alt 3 rfl ?_
 simp only[seval,EMB]
 refine bD rfl rfl rfl und_63 sz_69 (dP q5.1) (ee q5.2 q5.1) (regW.alt 0 rfl ?_)
 simp only[seval,EMB]
 refine alt_fieldR rfl rfl fld_69_4 sz_3 (by decide) (regW.alt 0 rfl ?_)
 simp only[seval,EMB]
 refine bv rfl rfl (cl q5.2) rfl rfl sz_3 rfl (Nat.le_of_ble_eq_true rfl) (regW.of ?_)
 simp only[seval,EMB]
 refine mU e (.region λe h=>?_) h
 simp only[seval,EMB]
 cases h
 simp only[seval,FMB,q4]
 intro v4 q6
 refine .sR λe h=>?_
 simp only[seval,EMB,q6]
 refine mU e (.seqK (.condF rfl (.exit QB))) h
 intro v5
 refine Mir.toK (.seqK (.guard λq7=>.regionW λe h=>regW.alt 2 rfl ?_))
 simp only[seval,EMB]
 refine alt_appOwnR rfl rfl rfl app_63 (by kernel_rfl) (by simp only[ge0,geS,lm,xMA,xLA]) jI (ok2 q7 (by simp only[lm]) (by simp only[lm])) (regW.of ?_)
 simp only[seval,EMB,lm]
 refine mU e (.seqK (.bind λy4 h5=>Mir.regionA 0 [] ([.d (.list (zA aU a0)),U,U,U,.ptr 0 0,.ptr 1 0,U,.ptr 2 0,U,.ptr 3 0,.ptr 4 0,.own 0 (zA ac (v1.1++v5)),U,.ptr 5 0,.gr 6 0,.ptr 7 0,.ptr 8 0,U,U,U,U,U,U,U,U,U,U,U,.d (.list (zA aU a0)),.d (.int .i64 (a0.length:Int)),.d (.int .i64 (i1:Int)),U,U,U,U,U,U,U,U,U,U,U,U,U,U,U,U,U,U,U,U,U,U,U,U,U,U,U,U,U,U,U,U,U,U,U,U,U,U,U,U,U,U,.own 0 (zA ac v1.1),.gr 6 0,.own 0 (zA ac (v1.1++v5)),.agg (cB y3.2.1),.agg (cC y3.2.2.1),.agg (cH v1.2.1),.gr 6 0,.agg (cH y4)]++us 10) ⟨[(w6 a1.Work [.d (.list (zA ag a1.Lengths))]),(cH y4),[.d (.int .i64 0),.d (.int .i64 0)],(cB y3.2.1),(cC y3.2.2.1),(cG e1),[.rowc 69 0 (zA ac v5)],(cB y3.2.1),(cC y3.2.2.1)],[(69,(v1.1++v5).length)]⟩ (by kernel_rfl) (λe h=>?_) (λe h=>?_))) h
 simp only[seval,EMB,SB]
 refine regA.moveB (j:=3) (by kernel_rfl) rfl rfl ?_
 simp only[seval,EMB]
 refine regA.three (j:=0) (k:=1) (l:=2) (by kernel_rfl) rfl rfl rfl ?_ ?_ ?_
 refine regW.of ?_
 simp only[seval,EMB]
 refine regA.two (j:=1) (k:=2) (by kernel_rfl) rfl rfl ?_ ?_
 refine regW.of ?_
 simp only[seval,EMB]
 refine regA.one (j:=2) (by kernel_rfl) rfl (regW.of ?_)
 simp only[seval,EMB]
 refine regA.one (j:=4) (by kernel_rfl) rfl (regW.of ?_)
 simp only[seval,EMB]
 refine SpecS.byZ (bO h5) rfl rfl ?_
 simp only[seval,EMB]
 refine regA.one (j:=5) (by kernel_rfl) rfl (regW.of ?_)
 simp only[seval,EMB]
 refine regA.one (j:=6) (by kernel_rfl) rfl (regW.of ?_)
 simp only[seval,EMB]
 refine regA.one (j:=7) (by kernel_rfl) rfl (regW.of ?_)
 simp only[seval,EMB]
 exact regA.nil (by kernel_rfl) ⟨by first | rfl | simp only[seval,FMB,aI,spD,xMA,xLA],by first | rfl | simp only[seval,FMB,aI,spD,xMA,xLA]⟩
 refine regW.of ?_
 simp only[seval,EMB]
 refine regA.two (j:=1) (k:=4) (by kernel_rfl) rfl rfl ?_ ?_
 refine regW.of ?_
 simp only[seval,EMB]
 refine regA.one (j:=4) (by kernel_rfl) rfl (regW.of ?_)
 simp only[seval,EMB]
 refine SpecS.byZ (bO h5) rfl rfl ?_
 simp only[seval,EMB]
 refine regA.one (j:=5) (by kernel_rfl) rfl (regW.of ?_)
 simp only[seval,EMB]
 refine regA.one (j:=6) (by kernel_rfl) rfl (regW.of ?_)
 simp only[seval,EMB]
 refine regA.one (j:=7) (by kernel_rfl) rfl (regW.of ?_)
 simp only[seval,EMB]
 exact regA.nil (by kernel_rfl) ⟨by first | rfl | simp only[seval,FMB,aI,spD,xMA,xLA],by first | rfl | simp only[seval,FMB,aI,spD,xMA,xLA]⟩
 refine regW.of ?_
 simp only[seval,EMB]
 refine SpecS.byZ (bO h5) rfl rfl ?_
 simp only[seval,EMB]
 refine regA.two (j:=1) (k:=5) (by kernel_rfl) rfl rfl ?_ ?_
 refine regW.of ?_
 simp only[seval,EMB]
 refine regA.one (j:=5) (by kernel_rfl) rfl (regW.of ?_)
 simp only[seval,EMB]
 refine regA.one (j:=6) (by kernel_rfl) rfl (regW.of ?_)
 simp only[seval,EMB]
 refine regA.one (j:=7) (by kernel_rfl) rfl (regW.of ?_)
 simp only[seval,EMB]
 exact regA.nil (by kernel_rfl) ⟨by first | rfl | simp only[seval,FMB,aI,spD,xMA,xLA],by first | rfl | simp only[seval,FMB,aI,spD,xMA,xLA]⟩
 refine regW.of ?_
 simp only[seval,EMB]
 refine regA.one (j:=1) (by kernel_rfl) rfl (regW.of ?_)
 simp only[seval,EMB]
 refine regA.one (j:=6) (by kernel_rfl) rfl (regW.of ?_)
 simp only[seval,EMB]
 refine regA.one (j:=7) (by kernel_rfl) rfl (regW.of ?_)
 simp only[seval,EMB]
 exact regA.nil (by kernel_rfl) ⟨by first | rfl | simp only[seval,FMB,aI,spD,xMA,xLA],by first | rfl | simp only[seval,FMB,aI,spD,xMA,xLA]⟩
 refine regW.of ?_
 simp only[seval,EMB]
 refine regA.two (j:=0) (k:=2) (by kernel_rfl) rfl rfl ?_ ?_
 refine regW.of ?_
 simp only[seval,EMB]
 refine regA.one (j:=2) (by kernel_rfl) rfl (regW.of ?_)
 simp only[seval,EMB]
 refine regA.one (j:=4) (by kernel_rfl) rfl (regW.of ?_)
 simp only[seval,EMB]
 refine SpecS.byZ (bO h5) rfl rfl ?_
 simp only[seval,EMB]
 refine regA.one (j:=5) (by kernel_rfl) rfl (regW.of ?_)
 simp only[seval,EMB]
 refine regA.one (j:=6) (by kernel_rfl) rfl (regW.of ?_)
 simp only[seval,EMB]
 refine regA.one (j:=7) (by kernel_rfl) rfl (regW.of ?_)
 simp only[seval,EMB]
 exact regA.nil (by kernel_rfl) ⟨by first | rfl | simp only[seval,FMB,aI,spD,xMA,xLA],by first | rfl | simp only[seval,FMB,aI,spD,xMA,xLA]⟩
 refine regW.of ?_
 simp only[seval,EMB]
 refine regA.two (j:=0) (k:=4) (by kernel_rfl) rfl rfl ?_ ?_
 refine regW.of ?_
 simp only[seval,EMB]
 refine regA.one (j:=4) (by kernel_rfl) rfl (regW.of ?_)
 simp only[seval,EMB]
 refine SpecS.byZ (bO h5) rfl rfl ?_
 simp only[seval,EMB]
 refine regA.one (j:=5) (by kernel_rfl) rfl (regW.of ?_)
 simp only[seval,EMB]
 refine regA.one (j:=6) (by kernel_rfl) rfl (regW.of ?_)
 simp only[seval,EMB]
 refine regA.one (j:=7) (by kernel_rfl) rfl (regW.of ?_)
 simp only[seval,EMB]
 exact regA.nil (by kernel_rfl) ⟨by first | rfl | simp only[seval,FMB,aI,spD,xMA,xLA],by first | rfl | simp only[seval,FMB,aI,spD,xMA,xLA]⟩
 refine regW.of ?_
 simp only[seval,EMB]
 refine SpecS.byZ (bO h5) rfl rfl ?_
 simp only[seval,EMB]
 refine regA.one (j:=0) (by kernel_rfl) rfl (regW.of ?_)
 simp only[seval,EMB]
 refine regA.one (j:=5) (by kernel_rfl) rfl (regW.of ?_)
 simp only[seval,EMB]
 refine regA.one (j:=6) (by kernel_rfl) rfl (regW.of ?_)
 simp only[seval,EMB]
 refine regA.one (j:=7) (by kernel_rfl) rfl (regW.of ?_)
 simp only[seval,EMB]
 exact regA.nil (by kernel_rfl) ⟨by first | rfl | simp only[seval,FMB,aI,spD,xMA,xLA],by first | rfl | simp only[seval,FMB,aI,spD,xMA,xLA]⟩
 refine regW.of ?_
 simp only[seval,EMB]
 refine regA.three (j:=0) (k:=1) (l:=4) (by kernel_rfl) rfl rfl rfl ?_ ?_ ?_
 refine regW.of ?_
 simp only[seval,EMB]
 refine regA.two (j:=1) (k:=4) (by kernel_rfl) rfl rfl ?_ ?_
 refine regW.of ?_
 simp only[seval,EMB]
 refine regA.one (j:=4) (by kernel_rfl) rfl (regW.of ?_)
 simp only[seval,EMB]
 refine SpecS.byZ (bO h5) rfl rfl ?_
 simp only[seval,EMB]
 refine regA.one (j:=5) (by kernel_rfl) rfl (regW.of ?_)
 simp only[seval,EMB]
 refine regA.one (j:=6) (by kernel_rfl) rfl (regW.of ?_)
 simp only[seval,EMB]
 refine regA.one (j:=7) (by kernel_rfl) rfl (regW.of ?_)
 simp only[seval,EMB]
 exact regA.nil (by kernel_rfl) ⟨by first | rfl | simp only[seval,FMB,aI,spD,xMA,xLA],by first | rfl | simp only[seval,FMB,aI,spD,xMA,xLA]⟩
 refine regW.of ?_
 simp only[seval,EMB]
 refine SpecS.byZ (bO h5) rfl rfl ?_
 simp only[seval,EMB]
 refine regA.two (j:=1) (k:=5) (by kernel_rfl) rfl rfl ?_ ?_
 refine regW.of ?_
 simp only[seval,EMB]
 refine regA.one (j:=5) (by kernel_rfl) rfl (regW.of ?_)
 simp only[seval,EMB]
 refine regA.one (j:=6) (by kernel_rfl) rfl (regW.of ?_)
 simp only[seval,EMB]
 refine regA.one (j:=7) (by kernel_rfl) rfl (regW.of ?_)
 simp only[seval,EMB]
 exact regA.nil (by kernel_rfl) ⟨by first | rfl | simp only[seval,FMB,aI,spD,xMA,xLA],by first | rfl | simp only[seval,FMB,aI,spD,xMA,xLA]⟩
 refine regW.of ?_
 simp only[seval,EMB]
 refine regA.one (j:=1) (by kernel_rfl) rfl (regW.of ?_)
 simp only[seval,EMB]
 refine regA.one (j:=6) (by kernel_rfl) rfl (regW.of ?_)
 simp only[seval,EMB]
 refine regA.one (j:=7) (by kernel_rfl) rfl (regW.of ?_)
 simp only[seval,EMB]
 exact regA.nil (by kernel_rfl) ⟨by first | rfl | simp only[seval,FMB,aI,spD,xMA,xLA],by first | rfl | simp only[seval,FMB,aI,spD,xMA,xLA]⟩
 refine regW.of ?_
 simp only[seval,EMB]
 refine regA.two (j:=0) (k:=4) (by kernel_rfl) rfl rfl ?_ ?_
 refine regW.of ?_
 simp only[seval,EMB]
 refine regA.one (j:=4) (by kernel_rfl) rfl (regW.of ?_)
 simp only[seval,EMB]
 refine SpecS.byZ (bO h5) rfl rfl ?_
 simp only[seval,EMB]
 refine regA.one (j:=5) (by kernel_rfl) rfl (regW.of ?_)
 simp only[seval,EMB]
 refine regA.one (j:=6) (by kernel_rfl) rfl (regW.of ?_)
 simp only[seval,EMB]
 refine regA.one (j:=7) (by kernel_rfl) rfl (regW.of ?_)
 simp only[seval,EMB]
 exact regA.nil (by kernel_rfl) ⟨by first | rfl | simp only[seval,FMB,aI,spD,xMA,xLA],by first | rfl | simp only[seval,FMB,aI,spD,xMA,xLA]⟩
 refine regW.of ?_
 simp only[seval,EMB]
 refine SpecS.byZ (bO h5) rfl rfl ?_
 simp only[seval,EMB]
 refine regA.one (j:=0) (by kernel_rfl) rfl (regW.of ?_)
 simp only[seval,EMB]
 refine regA.one (j:=5) (by kernel_rfl) rfl (regW.of ?_)
 simp only[seval,EMB]
 refine regA.one (j:=6) (by kernel_rfl) rfl (regW.of ?_)
 simp only[seval,EMB]
 refine regA.one (j:=7) (by kernel_rfl) rfl (regW.of ?_)
 simp only[seval,EMB]
 exact regA.nil (by kernel_rfl) ⟨by first | rfl | simp only[seval,FMB,aI,spD,xMA,xLA],by first | rfl | simp only[seval,FMB,aI,spD,xMA,xLA]⟩
 refine regW.of ?_
 simp only[seval,EMB]
 refine SpecS.byZ (bO h5) rfl rfl ?_
 simp only[seval,EMB]
 refine regA.two (j:=0) (k:=1) (by kernel_rfl) rfl rfl ?_ ?_
 refine regW.of ?_
 simp only[seval,EMB]
 refine regA.two (j:=1) (k:=5) (by kernel_rfl) rfl rfl ?_ ?_
 refine regW.of ?_
 simp only[seval,EMB]
 refine regA.one (j:=5) (by kernel_rfl) rfl (regW.of ?_)
 simp only[seval,EMB]
 refine regA.one (j:=6) (by kernel_rfl) rfl (regW.of ?_)
 simp only[seval,EMB]
 refine regA.one (j:=7) (by kernel_rfl) rfl (regW.of ?_)
 simp only[seval,EMB]
 exact regA.nil (by kernel_rfl) ⟨by first | rfl | simp only[seval,FMB,aI,spD,xMA,xLA],by first | rfl | simp only[seval,FMB,aI,spD,xMA,xLA]⟩
 refine regW.of ?_
 simp only[seval,EMB]
 refine regA.one (j:=1) (by kernel_rfl) rfl (regW.of ?_)
 simp only[seval,EMB]
 refine regA.one (j:=6) (by kernel_rfl) rfl (regW.of ?_)
 simp only[seval,EMB]
 refine regA.one (j:=7) (by kernel_rfl) rfl (regW.of ?_)
 simp only[seval,EMB]
 exact regA.nil (by kernel_rfl) ⟨by first | rfl | simp only[seval,FMB,aI,spD,xMA,xLA],by first | rfl | simp only[seval,FMB,aI,spD,xMA,xLA]⟩
 refine regW.of ?_
 simp only[seval,EMB]
 refine regA.one (j:=0) (by kernel_rfl) rfl (regW.of ?_)
 simp only[seval,EMB]
 refine regA.one (j:=5) (by kernel_rfl) rfl (regW.of ?_)
 simp only[seval,EMB]
 refine regA.one (j:=6) (by kernel_rfl) rfl (regW.of ?_)
 simp only[seval,EMB]
 refine regA.one (j:=7) (by kernel_rfl) rfl (regW.of ?_)
 simp only[seval,EMB]
 exact regA.nil (by kernel_rfl) ⟨by first | rfl | simp only[seval,FMB,aI,spD,xMA,xLA],by first | rfl | simp only[seval,FMB,aI,spD,xMA,xLA]⟩
 refine mU e (.seqK (.bind λy5 h6=>.bind λy6 h7=>.region λe h=>WB ?_)) h
 refine .byB (bk_Codes_spec h6) (WB ?_)
 refine .byB (cj h7) (mB ?_ h)
 refine .cond rfl (λh8=>?_) (λh8=>?_)
 refine .sB ?_
 refine .ret QB
 refine .skip QB
 intro v6
 refine Mir.toK (.region λe h=>?_)
 simp only[seval,EMB]
 cases h
 simp only[seval,FMB,q2]
 intro v1 q8
 refine .sR λe h=>?_
 simp only[seval,EMB,q8]
 refine mU e (.seqK (.condF rfl (.exit QB))) h
 intro v7
 refine Mir.toK (.sB ?_)
 refine .ret QB
end Go.Proofs.YtgbafiejgciilaaGreatDoor
