import Derived.Test.YtphbhdoljnokkaaGreatDoorMA
import Derived.Test.YtphbhdoljnokkaaGreatDoorMI
import Derived.Test.YtphbhdoljnokkaaGreatDoorMQ
import Derived.Test.YtphbhdoljnokkaaGreatDoorMR
import Derived.Test.YtphbhdoljnokkaaGreatDoorMD
import Derived.Test.YtphbhdoljnokkaaGreatDoorMT
open List renaming map → zA,length_append → zB,length_cons → zD,length_map → zE,length_nil → zF,map_cons → zG,map_nil → zH,replicate → zI,length → zJ,all_cons → zL,all_nil → zM
open Go.IntKind renaming i64 → zO,u64 → zQ
namespace Go.Proofs.YtphbhdoljnokkaaGreatDoor
open Go.RowKit
open Nat renaming reduceAdd → nA,reduceSub → nS,reduceMul → nM,reduceEqDiff → nE,reduceLeDiff → nL,reduceLT → nT,reduceBEq → nB
open Int renaming reduceLT → iT,reduceToNat → iN,reduceEq → iE
set_option linter.unusedVariables false
set_option linter.unusedSimpArgs false
set_option maxRecDepth 100000
set_option maxHeartbeats 8000000
def nG(a0:Int):Option Int:=ac (if (a0==0)=true then some (a0==0)else if (a0==1000)=true then some (a0==1000)else if (a0==2000)=true then some (a0==2000)else if (a0==3000)=true then some (a0==3000)else if (a0==80000)=true then some (a0==80000)else if (a0==81000)=true then some (a0==81000)else if (a0==82000)=true then some (a0==82000)else some (a0==83000)) λ(v1:Bool)=>jC ([U,U,U,dI a0,dB v1]++us 24) ⟨[],[]⟩ ( if v1=true then some 1 else ac (if (a0==90000)=true then some (a0==90000)else some (a0==91000)) λ(v2:Bool)=>jC ([U,U,U,dI a0]++us 9++[dB v2]++us 15) ⟨[],[]⟩ ( if v2=true then some 2 else ac (if (a0==54000)=true then some (a0==54000)else if (a0==55000)=true then some (a0==55000)else if (a0==56000)=true then some (a0==56000)else if (a0==57000)=true then some (a0==57000)else if (a0==58000)=true then some (a0==58000)else some (a0==59000)) λ(v3:Bool)=>jC ([U,U,U,dI a0]++us 12++[dB v3]++us 12) ⟨[],[]⟩ ( if v3=true then some 3 else ac (if (a0==43000)=true then some (a0==43000)else some (a0==49000)) λ(v4:Bool)=>jC ([U,U,U,dI a0]++us 19++[dB v4]++us 5) ⟨[],[]⟩ ( if v4=true then some 4 else ac (if (a0==98000)=true then some (a0==98000)else some (a0==99000)) λ(v5:Bool)=>jC (us 26++[dB v5,U,U]) ⟨[],[]⟩ ( if v5=true then some 5 else some 0)))))
instance md_Group_spec:Sp 118 (∀{a0:Int},Ct 118 [dI a0] (λy:Int=>.d (.int .i64 y)) (nG a0)):=⟨zzF Tryz.func118 (nG.eq_1 ..)⟩
def po_Valid(a0:dP):Option Int:=ac (ac (nG a0.Work) λ(y1:Int)=>if (y1 != 3)=true then some true else if (decide (a0.Numbers<0))=true then some true else if (decide (a0.Numbers>1000))=true then some true else if (a0.Fold != 0)=true then if (decide (a0.Fold<2))=true then some true else some (decide (a0.Fold>100))else some false) λ(v1:Bool)=>jR 1 (us 31++[dB v1]) ⟨[(cL a0)],[]⟩ ( if v1=true then some 1 else some 0)
instance po_Valid_spec:Sp 46 (∀{a0:dP},Ct 46 [.agg (cL a0)] (λy:Int=>.d (.int .i64 y)) (po_Valid a0)):=⟨zzF Tryz.func46 (po_Valid.eq_1 ..)⟩
def ed(a0:Int)(a1:Int):Option aC:=some (aC.mk a0 a1)
instance cq:Sp 121 (∀{a0:Int} {a1:Int},Ct 121 [.d (.int .u8 a0),dI a1] (λy:aC=>.agg [.d (.int .u8 y.Letter),.d (.int .i64 y.Value)]) (ed a0 a1)):=⟨zzF Tryz.func121 (ed.eq_1 ..)⟩
def ct(a0:Int)(a1:Int):Option aC:=ac (ed a0 (zO.wrap (1000*a1))) λ(y1:aC)=>some y1
instance cj:Sp 120 (∀{a0:Int} {a1:Int},Ct 120 [.d (.int .u8 a0),dI a1] (λy:aC=>.agg [.d (.int .u8 y.Letter),.d (.int .i64 y.Value)]) (ct a0 a1)):=⟨zzF Tryz.func120 (ct.eq_1 ..)⟩
def fZ(a0:(List aC)):Option ae:=some (ae.mk false a0 [])
theorem dJ{a0:(List aC)}{y:ae}(h:fZ a0=some y):Spec gP 119 [.full (zA az a0)] (.agg [.d (.bool y.Skip),.full (zA az y.Words),.d (.str y.Comment)]):=by
 refine aFA Tryz.func119 (λy:ae=>.agg [.d (.bool y.Skip),.full (zA az y.Words),.d (.str y.Comment)]) ?_ h
 unfold fZ
 exact zzA
def oO(a0:Int):Option ((List ae)×Int):=jV 1 ([dI a0]++us 9++[dB ((decide (a0<1))||(decide (a0>999)))]++us 12) ⟨[],[]⟩ ( if ((decide (a0<1))||(decide (a0>999)))=true then some ([],1)else ac (ct 84 a0) λ(y1:aC)=>ac (ct 77 6) λ(y2:aC)=>ac (fZ [y1,y2]) λ(y3:ae)=>ac (ct 71 43) λ(y4:aC)=>ac (ct 72 a0) λ(y5:aC)=>ac (fZ [y4,y5]) λ(y6:ae)=>some ([y3,y6],0))
theorem qn{a0:Int}{y:(List ae)×Int}(h:oO a0=some y):Spec gP 122 [dI a0] (.tuple [.d (.list (zA al y.1)),.d (.int .i64 y.2)]):=by
 refine auA Tryz.func122 (λy:(List ae)×Int=>.tuple [.d (.list (zA al y.1)),.d (.int .i64 y.2)]) ?_ h
 unfold oO
 refine .sA ?_
 refine .seqK (.seqK (Mir.jV rfl ?_ ?_))
 exact zzA
 refine Mir.toK (.cond rfl (λhb3=>?_) (λhb3=>?_))
 exact zzA
 refine .skip (Mir.toK (.sA ?_))
 refine .seqK (.bind λy1 hy4=>.bind λy2 hy5=>.bind λy3 hy6=>.bind λy4 hy7=>.bind λy5 hy8=>.bind λy6 hy9=>.region λe h=>WA ?_)
 refine .byA (cj.1 _ hy4) (WA ?_)
 refine .byA (cj.1 _ hy5) ?_
 simp only[seval,EMA,(oL 4)]
 refine .byFA (dJ hy6) (WA ?_)
 refine .byA (cj.1 _ hy7) (WA ?_)
 refine .byA (cj.1 _ hy8) ?_
 simp only[seval,EMA,(oL 4)]
 refine .byFA (dJ hy9) ?_
 exact zzA
instance:Sp 122 (type_of% @qn):=⟨@qn⟩
def gc(a0:Int)(a1:Int):Option Int:=ac (if (decide (a0<a1))=true then some (a1,a0)else some (a0,a1)) λ(v1:Int×Int)=>jC ([dI v1.1,dI v1.2]++us 13) ⟨[],[]⟩ ( some (zQ.wrap ((zQ.wrap v1.1)-(zQ.wrap v1.2))))
instance ip_apart_spec:Sp 239 (∀{a0:Int} {a1:Int},Ct 239 [dI a0,dI a1] (λy:Int=>.d (.int .u64 y)) (gc a0 a1)):=⟨zzF Tryz.func239 (gc.eq_1 ..)⟩
def gA(a0:ag)(a1:dh):Option (Int×Int):=jV 1 ([U,U,.ptr 0 0,.ptr 1 0,U,U,dB ((a0.Y==a1.Y)&&(decide (a0.X>a1.X)))]++us 71) ⟨[(cF a0),(cM a1)],[]⟩ ( if ((a0.Y==a1.Y)&&(decide (a0.X>a1.X)))=true then ac (gc a0.X a1.X) λ(y1:Int)=>some (0,y1)else jV 3 ([U,U,.ptr 0 0,.ptr 1 0]++us 20++[dB ((a0.X==a1.X)&&(decide (a0.Y>a1.Y)))]++us 53) ⟨[(cF a0),(cM a1)],[]⟩ ( if ((a0.X==a1.X)&&(decide (a0.Y>a1.Y)))=true then ac (gc a0.Y a1.Y) λ(y2:Int)=>some (1,y2)else jV 5 ([U,U,.ptr 0 0,.ptr 1 0]++us 38++[dB ((a0.Y==a1.Y)&&(decide (a0.X<a1.X)))]++us 35) ⟨[(cF a0),(cM a1)],[]⟩ ( if ((a0.Y==a1.Y)&&(decide (a0.X<a1.X)))=true then ac (gc a0.X a1.X) λ(y3:Int)=>some (2,y3)else jV 7 ([U,U,.ptr 0 0,.ptr 1 0]++us 56++[dB ((a0.X==a1.X)&&(decide (a0.Y<a1.Y)))]++us 17) ⟨[(cF a0),(cM a1)],[]⟩ ( if ((a0.X==a1.X)&&(decide (a0.Y<a1.Y)))=true then ac (gc a0.Y a1.Y) λ(y4:Int)=>some (3,y4)else some (0,0)))))
instance ip_point_spec:Sp 238 (∀{a0:ag} {a1:dh},Ct 238 [.agg (cF a0),.agg (cM a1)] (λy:Int×Int=>.tuple [.d (.int .i64 y.1),.d (.int .u64 y.2)]) (gA a0 a1)):=⟨zzF Tryz.func238 (gA.eq_1 ..)⟩
def kG(a0:aH):Option Bool:=jV 1 ([U,U,dB ((a0.Kind==3)||(a0.Kind==4))]++us 8) ⟨[(cG a0)],[]⟩ ( some ((a0.Kind==3)||(a0.Kind==4)))
instance ip_isArc_spec:Sp 237 (∀{a0:aH},Ct 237 [.agg (cG a0)] (λy:Bool=>.d (.bool y)) (kG a0)):=⟨zzF Tryz.func237 (kG.eq_1 ..)⟩
def nP(a0:ag)(a1:aH):Option Bool:=if (a1.Kind==1)=true then some (a1.Rate==0)else if (a1.Kind==2)=true then some (decide (a1.Rate>0))else ac (gA a0 a1.Center) λ(y1:Int×Int)=>ac (gA a1.To a1.Center) λ(y2:Int×Int)=>ac (ac (kG (aH.mk a1.Kind a1.To a1.Center a1.Rate)) λ(y3:Bool)=>if y3=true then if (decide (a1.Rate>0))=true then if (decide (y1.2>0))=true then some (y1.2==y2.2)else some false else some false else some false) λ(v1:Bool)=>jR 8 ([U,U,U,U,dB v1]++us 47) ⟨[(cF a0),(cG a1)],[]⟩ ( some v1)
instance ip_right_spec:Sp 236 (∀{a0:ag} {a1:aH},Ct 236 [.agg (cF a0),.agg (cG a1)] (λy:Bool=>.d (.bool y)) (nP a0 a1)):=⟨zzF Tryz.func236 (nP.eq_1 ..)⟩
def jT(a0:ag)(a1:aH):Option Int:=ac (nP (ag.mk a0.X a0.Y a0.Z) (aH.mk a1.Kind a1.To a1.Center a1.Rate)) λ(y1:Bool)=>if (!y1)=true then some 1 else ac (kG (aH.mk a1.Kind a1.To a1.Center a1.Rate)) λ(y2:Bool)=>bindX (if y2=true then ac (gA (ag.mk a0.X a0.Y a0.Z) a1.Center) λ(y3:Int×Int)=>ac (if (decide (y3.2>10000000))=true then some true else ac (gc a1.Center.X 0) λ(y4:Int)=>if (decide (y4>10000000))=true then some true else ac (gc a1.Center.Y 0) λ(y5:Int)=>some (decide (y5>10000000))) λ(v1:Bool)=>jR 6 ([U,U,U,.ptr 1 0,U,.full (zA (eInt .i64) [a0.X,a0.Y,a0.Z,a1.To.X,a1.To.Y,a1.To.Z]),U,.d (.int .u64 y3.2)]++us 47++[dB v1]++us 35) ⟨[(cF a0),(cG a1)],[]⟩ ( if v1=true then some (.ret 11)else some (.go [a0.X,a0.Y,a0.Z,a1.To.X,a1.To.Y,a1.To.Z,zO.wrap (a1.Center.X+(zO.wrap y3.2)),zO.wrap (a1.Center.X-(zO.wrap y3.2)),zO.wrap (a1.Center.Y+(zO.wrap y3.2)),zO.wrap (a1.Center.Y-(zO.wrap y3.2))]))else some (.go [a0.X,a0.Y,a0.Z,a1.To.X,a1.To.Y,a1.To.Z])) λ(v2:(List Int))=>jC ([U,U,U,U,U,dL (eInt .i64) v2]++us 85) ⟨[(cF a0),(cG a1)],[]⟩ ( bindX (aA (dN v2) ( aM (λ(i1:Nat) (e1:Int) (v3:Unit)=>rF (us 81++[dL (eInt .i64) v2,dI (v2.length:Int),dI (i1:Int)]++us 7) ⟨[(cF a0),(cG a1)],[]⟩ ( ac (gc e1 0) λ(y6:Int)=>if (decide (y6>10000000))=true then some (.ret (.ret 11))else some (.go ()))) (λ(v3:Unit)=>some (.go ())) v2 0 ())) λ(v4:Unit)=>jB 0 (us 91) ⟨[(cF a0),(cG a1)],[]⟩ ( some 0))
instance ip_Valid_spec:Sp 194 (∀{a0:ag} {a1:aH},Ct 194 [.agg (cF a0),.agg (cG a1)] (λy:Int=>.d (.int .i64 y)) (jT a0 a1)):=⟨zzF Tryz.func194 (jT.eq_1 ..)⟩
def po_Move(a0:ag)(a1:aH):Option (ae×Int):=ac (jT (ag.mk a0.X a0.Y a0.Z) (aH.mk a1.Kind a1.To a1.Center a1.Rate)) λ(y1:Int)=>if (y1 != 0)=true then some (ae.mk false [] [],y1)else if (decide (a1.Rate>1000000000000))=true then some (ae.mk false [] [],11)else ac (aA (decide (0≤a1.Kind∧a1.Kind<5)) ( if (a1.Kind==0)=true then ac (ct 71 0) λ(y2:aC)=>ac (ed 88 a1.To.X) λ(y3:aC)=>ac (ed 89 a1.To.Y) λ(y4:aC)=>ac (ed 90 a1.To.Z) λ(y5:aC)=>ac (fZ [y2,y3,y4,y5]) λ(y6:ae)=>some (y6.Skip,y6.Words,y6.Comment)else if (a1.Kind==1)=true then ac (ct 71 0) λ(y7:aC)=>ac (ed 88 a1.To.X) λ(y8:aC)=>ac (ed 89 a1.To.Y) λ(y9:aC)=>ac (ed 90 a1.To.Z) λ(y10:aC)=>ac (fZ [y7,y8,y9,y10]) λ(y11:ae)=>some (y11.Skip,y11.Words,y11.Comment)else if (a1.Kind==2)=true then ac (ct 71 1) λ(y12:aC)=>ac (ed 88 a1.To.X) λ(y13:aC)=>ac (ed 89 a1.To.Y) λ(y14:aC)=>ac (ed 90 a1.To.Z) λ(y15:aC)=>ac (fZ [y12,y13,y14,y15]) λ(y16:ae)=>some (y16.Skip,y16.Words,y16.Comment)else if (a1.Kind==3)=true then ac (ct 71 2) λ(y17:aC)=>ac (ed 88 a1.To.X) λ(y18:aC)=>ac (ed 89 a1.To.Y) λ(y19:aC)=>ac (ed 90 a1.To.Z) λ(y20:aC)=>ac (fZ [y17,y18,y19,y20]) λ(y21:ae)=>some (y21.Skip,y21.Words,y21.Comment)else ac (ct 71 3) λ(y22:aC)=>ac (ed 88 a1.To.X) λ(y23:aC)=>ac (ed 89 a1.To.Y) λ(y24:aC)=>ac (ed 90 a1.To.Z) λ(y25:aC)=>ac (fZ [y22,y23,y24,y25]) λ(y26:ae)=>some (y26.Skip,y26.Words,y26.Comment))) λ(v1:Bool×(List aC)×(List UInt8))=>jR 6 ([U,U,.ptr 0 0,.ptr 1 0,.ptr 2 0,U,U,.ptr 3 0]++us 69) ⟨[(cF a0),(cG a1),[dB false,.nil,dS []],[dB v1.1,.full (zA az v1.2.1),dS v1.2.2]],[]⟩ ( jV 7 ([U,U,.ptr 0 0,.ptr 1 0,.ptr 2 0,U,U,.ptr 3 0]++us 37++[dB ((a1.Kind==3)||(a1.Kind==4))]++us 31) ⟨[(cF a0),(cG a1),[dB false,.nil,dS []],[dB v1.1,.full (zA az v1.2.1),dS v1.2.2]],[]⟩ ( if ((a1.Kind==3)||(a1.Kind==4))=true then ac (ed 73 (zO.wrap (a1.Center.X-a0.X))) λ(y27:aC)=>ac (ed 74 (zO.wrap (a1.Center.Y-a0.Y))) λ(y28:aC)=>aA (cd (v1.2.1.length+2)) ( if (a1.Kind != 1)=true then ac (ed 70 a1.Rate) λ(y29:aC)=>aA (cd (v1.2.1.length+2+1)) ( some (ae.mk v1.1 (v1.2.1++[y27,y28]++[y29]) v1.2.2,0))else some (ae.mk v1.1 (v1.2.1++[y27,y28]) v1.2.2,0))else if (a1.Kind != 1)=true then ac (ed 70 a1.Rate) λ(y30:aC)=>aA (cd (v1.2.1.length+1)) ( some (ae.mk v1.1 (v1.2.1++[y30]) v1.2.2,0))else some (ae.mk v1.1 v1.2.1 v1.2.2,0)))
theorem po_Move_spec{a0:ag}{a1:aH}{y:ae×Int}(h:po_Move a0 a1=some y):Spec gP 123 [.agg (cF a0),.agg (cG a1)] (.tuple [.agg [.d (.bool y.1.Skip),.d (.list (zA az y.1.Words)),.d (.str y.1.Comment)],.d (.int .i64 y.2)]):=by
 refine auA Tryz.func123 (λy:ae×Int=>.tuple [.agg [.d (.bool y.1.Skip),.d (.list (zA az y.1.Words)),.d (.str y.1.Comment)],.d (.int .i64 y.2)]) ?_ h
 unfold po_Move
 refine .sA ?_
 refine .seqK (.seqK (.bind λy1 hy1=>.region λe h=>WA ?_))
 refine .byA (ip_Valid_spec.1 _ hy1) (mA ?_ h)
 refine .sA ?_
 refine .cond rfl (λhb2=>?_) (λhb2=>?_)
 exact zzA
 refine .skip (Mir.toK (.seqK (.sA ?_)))
 refine .cond rfl (λhb3=>?_) (λhb3=>?_)
 exact zzA
 refine .skip (Mir.toK (.seqK (Mir.jOR (λ_=>rfl) ?_ ?_)))
 refine .guard λqi4=>.ite (λhb5=>?_) (λhb5=>?_)
 refine .bind λy2 hy6=>.bind λy3 hy7=>.bind λy4 hy8=>.bind λy5 hy9=>.bind λy6 hy10=>.regionD [] (by kernel_rfl) λe h=>?_
 simp only[seval,EMA,SB,(eq_of_beq hb5),glT,hb5]
 refine Spec.by (cj.1 _ hy6) (by simp only[seval,FMA,hb5]) ?_
 simp only[seval,EMA,SB,hb5]
 refine Spec.by (cq.1 _ hy7) (by simp only[seval,FMA,hb5]) ?_
 simp only[seval,EMA,SB,hb5]
 refine Spec.by (cq.1 _ hy8) (by simp only[seval,FMA,hb5]) ?_
 simp only[seval,EMA,SB,hb5]
 refine Spec.by (cq.1 _ hy9) (by simp only[seval,FMA,hb5]) ?_
 simp only[seval,EMA,SB,(oL 8),hb5]
 refine Spec.byF (dJ hy10) (by simp only[seval,FMA,hb5]) ?_
 exact zzA
 refine .ite (λhb11=>?_) (λhb11=>?_)
 refine .bind λy7 hy12=>.bind λy8 hy13=>.bind λy9 hy14=>.bind λy10 hy15=>.bind λy11 hy16=>.regionD [] (by kernel_rfl) λe h=>?_
 simp only[seval,EMA,SB,(eq_of_beq hb11),glT,hb5,hb11]
 refine Spec.by (cj.1 _ hy12) (by simp only[seval,FMA,hb5,hb11]) ?_
 simp only[seval,EMA,SB,hb5,hb11]
 refine Spec.by (cq.1 _ hy13) (by simp only[seval,FMA,hb5,hb11]) ?_
 simp only[seval,EMA,SB,hb5,hb11]
 refine Spec.by (cq.1 _ hy14) (by simp only[seval,FMA,hb5,hb11]) ?_
 simp only[seval,EMA,SB,hb5,hb11]
 refine Spec.by (cq.1 _ hy15) (by simp only[seval,FMA,hb5,hb11]) ?_
 simp only[seval,EMA,SB,(oL 8),hb5,hb11]
 refine Spec.byF (dJ hy16) (by simp only[seval,FMA,hb5,hb11]) ?_
 exact zzA
 refine .ite (λhb17=>?_) (λhb17=>?_)
 refine .bind λy12 hy18=>.bind λy13 hy19=>.bind λy14 hy20=>.bind λy15 hy21=>.bind λy16 hy22=>.regionD [] (by kernel_rfl) λe h=>?_
 simp only[seval,EMA,SB,(eq_of_beq hb17),glT,hb5,hb11,hb17]
 refine Spec.by (cj.1 _ hy18) (by simp only[seval,FMA,hb5,hb11,hb17]) ?_
 simp only[seval,EMA,SB,hb5,hb11,hb17]
 refine Spec.by (cq.1 _ hy19) (by simp only[seval,FMA,hb5,hb11,hb17]) ?_
 simp only[seval,EMA,SB,hb5,hb11,hb17]
 refine Spec.by (cq.1 _ hy20) (by simp only[seval,FMA,hb5,hb11,hb17]) ?_
 simp only[seval,EMA,SB,hb5,hb11,hb17]
 refine Spec.by (cq.1 _ hy21) (by simp only[seval,FMA,hb5,hb11,hb17]) ?_
 simp only[seval,EMA,SB,(oL 8),hb5,hb11,hb17]
 refine Spec.byF (dJ hy22) (by simp only[seval,FMA,hb5,hb11,hb17]) ?_
 exact zzA
 refine .ite (λhb23=>?_) (λhb23=>?_)
 refine .bind λy17 hy24=>.bind λy18 hy25=>.bind λy19 hy26=>.bind λy20 hy27=>.bind λy21 hy28=>.regionD [] (by kernel_rfl) λe h=>?_
 simp only[seval,EMA,SB,(eq_of_beq hb23),glT,hb5,hb11,hb17,hb23]
 refine Spec.by (cj.1 _ hy24) (by simp only[seval,FMA,hb5,hb11,hb17,hb23]) ?_
 simp only[seval,EMA,SB,hb5,hb11,hb17,hb23]
 refine Spec.by (cq.1 _ hy25) (by simp only[seval,FMA,hb5,hb11,hb17,hb23]) ?_
 simp only[seval,EMA,SB,hb5,hb11,hb17,hb23]
 refine Spec.by (cq.1 _ hy26) (by simp only[seval,FMA,hb5,hb11,hb17,hb23]) ?_
 simp only[seval,EMA,SB,hb5,hb11,hb17,hb23]
 refine Spec.by (cq.1 _ hy27) (by simp only[seval,FMA,hb5,hb11,hb17,hb23]) ?_
 simp only[seval,EMA,SB,(oL 8),hb5,hb11,hb17,hb23]
 refine Spec.byF (dJ hy28) (by simp only[seval,FMA,hb5,hb11,hb17,hb23]) ?_
 exact zzA
 have hz29:a1.Kind=4:=by have h0:=ra qi4;have h1:=b9 hb5;have h2:=b9 hb11;have h3:=b9 hb17;have h4:=b9 hb23;omega
 refine .bind λy22 hy30=>.bind λy23 hy31=>.bind λy24 hy32=>.bind λy25 hy33=>.bind λy26 hy34=>.regionD [] (by kernel_rfl) λe h=>?_
 simp only[seval,EMA,SB,hz29,glT,hb5,hb11,hb17,hb23]
 refine Spec.by (cj.1 _ hy30) (by simp only[seval,FMA,hb5,hb11,hb17,hb23]) ?_
 simp only[seval,EMA,SB,hb5,hb11,hb17,hb23]
 refine Spec.by (cq.1 _ hy31) (by simp only[seval,FMA,hb5,hb11,hb17,hb23]) ?_
 simp only[seval,EMA,SB,hb5,hb11,hb17,hb23]
 refine Spec.by (cq.1 _ hy32) (by simp only[seval,FMA,hb5,hb11,hb17,hb23]) ?_
 simp only[seval,EMA,SB,hb5,hb11,hb17,hb23]
 refine Spec.by (cq.1 _ hy33) (by simp only[seval,FMA,hb5,hb11,hb17,hb23]) ?_
 simp only[seval,EMA,SB,(oL 8),hb5,hb11,hb17,hb23]
 refine Spec.byF (dJ hy34) (by simp only[seval,FMA,hb5,hb11,hb17,hb23]) ?_
 exact zzA
 exact zzA
instance:Sp 123 (type_of% @po_Move_spec):=⟨@po_Move_spec⟩
def po_plain(a0:(List bC))(a1:ag)(a2:dP):Option ((List ae)×Int):=bindX (jV 4 ([dL cb a0,U,U,U,.ptr 0 0,.ptr 1 0]++us 20++[.full (zA (eInt .i64) [a1.X,a1.Y,a1.Z]),dI 3,dI 0]++us 8++[dB ((decide (a1.X>10000000))||(decide (a1.X<(-10000000))))]++us 63) ⟨[(cF a1),(cL a2)],[]⟩ ( if ((decide (a1.X>10000000))||(decide (a1.X<(-10000000))))=true then some (.ret ([],11))else jV 4 ([dL cb a0,U,U,U,.ptr 0 0,.ptr 1 0]++us 20++[.full (zA (eInt .i64) [a1.X,a1.Y,a1.Z]),dI 3,dI 1]++us 8++[dB ((decide (a1.Y>10000000))||(decide (a1.Y<(-10000000))))]++us 63) ⟨[(cF a1),(cL a2)],[]⟩ ( if ((decide (a1.Y>10000000))||(decide (a1.Y<(-10000000))))=true then some (.ret ([],11))else jV 4 ([dL cb a0,U,U,U,.ptr 0 0,.ptr 1 0]++us 20++[.full (zA (eInt .i64) [a1.X,a1.Y,a1.Z]),dI 3,dI 2]++us 8++[dB ((decide (a1.Z>10000000))||(decide (a1.Z<(-10000000))))]++us 63) ⟨[(cF a1),(cL a2)],[]⟩ ( if ((decide (a1.Z>10000000))||(decide (a1.Z<(-10000000))))=true then some (.ret ([],11))else some (.go ()))))) λ(v1:Unit)=>jB 0 ([dL cb a0,U,U,U,.ptr 0 0,.ptr 1 0]++us 95) ⟨[(cF a1),(cL a2)],[]⟩ ( ac (ct 71 0) λ(y1:aC)=>ac (ct 71 90) λ(y2:aC)=>ac (ed 71 a2.Work) λ(y3:aC)=>ac (ct 71 49) λ(y4:aC)=>ac (ct 71 98) λ(y5:aC)=>ac (fZ [y1,y2,y3,y4,y5]) λ(y6:ae)=>bindX (aA (dN a0) ( aM (λ(i1:Nat) (e1:bC) (v2:(List ae)×ag)=>rF (us 10++[.own 0 (zA al v2.1),.ptr 2 0]++us 38++[dL cb a0,dI (a0.length:Int),dI (i1:Int)]++us 48) ⟨[(cF a1),(cL a2),(cF v2.2)],[(137,v2.1.length)]⟩ ( bindX (ac (oO e1.Tool) λ(y7:(List ae)×Int)=>if (y7.2 != 0)=true then some (.ret (.ret (.ret ([],y7.2))))else aA (cd (v2.1.length+y7.1.length)) ( aA (dN e1.Moves) ( aM (λ(i2:Nat) (e2:aH) (v3:(List ae)×ag)=>rF (us 10++[.own 0 (zA al v3.1),.ptr 2 0]++us 38++[dL cb a0,dI (a0.length:Int),dI (i1:Int)]++us 16++[dL fQ e1.Moves,dI (e1.Moves.length:Int),dI (i2:Int)]++us 29) ⟨[(cF a1),(cL a2),(cF v3.2),(cN e1)],[(137,v3.1.length)]⟩ ( ac (po_Move v3.2 e2) λ(y8:ae×Int)=>if (y8.2 != 0)=true then some (.ret (.ret (.ret (.ret ([],y8.2)))))else aA (cd (v3.1.length+1)) ( some (.go (v3.1++[y8.1],e2.To))))) (λ(v3:(List ae)×ag)=>some (.go (v3.1,v3.2))) e1.Moves 0 (v2.1++y7.1,v2.2)))) λ(v4:(List ae)×ag)=>jB 3 (us 10++[.own 0 (zA al v4.1),.ptr 2 0]++us 38++[dL cb a0,dI (a0.length:Int),dI (i1:Int)]++us 48) ⟨[(cF a1),(cL a2),(cF v4.2)],[(137,v4.1.length)]⟩ ( some (.go (v4.1,v4.2))))) (λ(v2:(List ae)×ag)=>some (.go (v2.1,v2.2))) a0 0 ([y6],ag.mk a1.X a1.Y a1.Z))) λ(v5:(List ae)×ag)=>jB 2 (us 10++[.own 0 (zA al v5.1)]++us 90) ⟨[(cF a1),(cL a2),(cF v5.2)],[(137,v5.1.length)]⟩ ( ac (ct 71 49) λ(y9:aC)=>ac (fZ [y9]) λ(y10:ae)=>ac (ct 77 30) λ(y11:aC)=>ac (fZ [y11]) λ(y12:ae)=>aA (cd (v5.1.length+2)) ( some (v5.1++[y10,y12],0))))
theorem po_plain_spec{a0:(List bC)}{a1:ag}{a2:dP}{y:(List ae)×Int}(h:po_plain a0 a1 a2=some y):Spec gP 47 [.d (.list (zA cb a0)),.agg (cF a1),.agg (cL a2)] (.tuple [.d (.list (zA al y.1)),.d (.int .i64 y.2)]):=by
 refine auA Tryz.func47 (λy:(List ae)×Int=>.tuple [.d (.list (zA al y.1)),.d (.int .i64 y.2)]) ?_ h
 unfold po_plain
 refine .sA ?_
 refine .seqK (.sR λe h=>?_)
 simp only[seval,EMA,(oL 3),(nr rfl:((3:Nat):Int)=3)]
 refine mU e (Mir.jXB (λ_=>rfl) ?_ ?_) h
 exact zzA
 intro v1
 refine Mir.toK (.seqK (.bind λy1 hy31=>.bind λy2 hy32=>.bind λy3 hy33=>.bind λy4 hy34=>.bind λy5 hy35=>.bind λy6 hy36=>.regionT 4 [] (by kernel_rfl) λe h=>?_))
 simp only[seval,EMA,SB]
 refine Spec.by (cj.1 _ hy31) (by simp only[seval,FMA]) ?_
 simp only[seval,EMA,SB]
 refine Spec.by (cj.1 _ hy32) (by simp only[seval,FMA]) ?_
 simp only[seval,EMA,SB]
 refine regW.alt 5 rfl ?_
 simp only[seval,EMA]
 refine .byA (cq.1 _ hy33) (WA ?_)
 refine .byA (cj.1 _ hy34) (WA ?_)
 refine .byA (cj.1 _ hy35) ?_
 simp only[seval,EMA,(oL 10)]
 refine .byFA (dJ hy36) (WA ?_)
 refine alt_litOwn (es:=zA al [y6]) app_86 (by simp only[seval,EMA,(oL 3)]) (by decide) (regW.of ?_)
 simp only[seval,EMA,(oL 3)]
 refine mU e (.sA ?_) h
 refine .seqK (.sA ?_)
 refine Mir.jXB (λ_=>rfl) ?_ ?_
 exact zzA
 intro v5
 refine Mir.toK (.seqK (.bind λy9 h5=>.bind λy10 h6=>.bind λy11 h7=>.bind λy12 h8=>.guard λq9=>.region λe h=>WA ?_))
 refine .byA (cj.1 _ h5) ?_
 simp only[seval,EMA,(oL 2)]
 refine .byFA (dJ h6) (WA ?_)
 refine .byA (cj.1 _ h7) ?_
 simp only[seval,EMA,(oL 2)]
 refine .byFA (dJ h8) ?_
 exact zzA
instance:Sp 47 (type_of% @po_plain_spec):=⟨@po_plain_spec⟩
def md_New :Option ao:=some (ao.mk 0 90000 54000 49000 98000 0 0 0)
instance md_New_spec:Sp 49 (Ct 49 [] (λy:ao=>.agg [.d (.int .i64 y.Motion),.d (.int .i64 y.Distance),.d (.int .i64 y.Work),.d (.int .i64 y.Length),.d (.int .i64 y.Return),.d (.int .i64 y.Feed),.d (.int .i64 y.Tool),.d (.int .i64 y.Offset)]) (md_New)):=⟨zzF Tryz.func49 (md_New.eq_1 ..)⟩
def oP(a0:(List bC))(a1:ag)(a2:dP):Option ((List ae)×Int):=ac (po_Valid a2) λ(y1:Int)=>if (y1 != 0)=true then some ([],y1)else ac (po_plain a0 (ag.mk a1.X a1.Y a1.Z) a2) λ(y2:(List ae)×Int)=>if (y2.2 != 0)=true then some ([],y2.2)else if a2.Compress=true then none else if (a2.Fold != 0)=true then none else if (decide ((y2.1.length:Int)>20000))=true then some ([],3)else if (a2.Numbers != 0)=true then none else some (y2.1,0)
instance po_Blocks_spec:Sp 21 (∀{a0:(List bC)} {a1:ag} {a2:dP},Ct 21 [.d (.list (zA cb a0)),.agg (cF a1),.agg (cL a2)] (λy:(List ae)×Int=>.tuple [.d (.list (zA al y.1)),.d (.int .i64 y.2)]) (oP a0 a1 a2)):=⟨zzF Tryz.func21 (oP.eq_1 ..)⟩
def gR(a0:Int):Option Bool:=jV 1 ([U,U,dB ((decide (a0≥32))&&((decide (a0≤126))&&((a0 != 40)&&(a0 != 41))))]++us 14) ⟨[],[]⟩ ( some ((decide (a0≥32))&&((decide (a0≤126))&&((a0 != 40)&&(a0 != 41)))))
instance bk_printable_spec:Sp 199 (∀{a0:Int},Ct 199 [.d (.int .u8 a0)] (λy:Bool=>.d (.bool y)) (gR a0)):=⟨zzF Tryz.func199 (gR.eq_1 ..)⟩
def kJ(a0:ae):Option Int:=jV 1 ([U,.ptr 0 0]++us 14++[dB ((decide ((a0.Words.length:Int)>16))||(decide ((a0.Comment.length:Int)>100)))]++us 38) ⟨[(cB a0)],[]⟩ ( if ((decide ((a0.Words.length:Int)>16))||(decide ((a0.Comment.length:Int)>100)))=true then some 1 else bindX (aA (dN a0.Words) ( aM (λ(i1:Nat) (e1:aC) (v1:Unit)=>rF ([U,.ptr 0 0]++us 16++[dL az a0.Words,dI (a0.Words.length:Int),dI (i1:Int)]++us 34) ⟨[(cB a0)],[]⟩ ( jV 6 ([U,.ptr 0 0]++us 16++[dL az a0.Words,dI (a0.Words.length:Int),dI (i1:Int)]++us 20++[dB ((decide (e1.Letter<65))||((decide (e1.Letter>90))||((decide (e1.Value>1000000000000))||(decide (e1.Value<(-1000000000000))))))]++us 13) ⟨[(cB a0),(cC e1)],[]⟩ ( if ((decide (e1.Letter<65))||((decide (e1.Letter>90))||((decide (e1.Value>1000000000000))||(decide (e1.Value<(-1000000000000))))))=true then some (.ret (.ret 1))else some (.go ())))) (λ(v1:Unit)=>some (.go ())) a0.Words 0 ())) λ(v2:Unit)=>jB 0 ([U,.ptr 0 0]++us 53) ⟨[(cB a0)],[]⟩ ( bindX (aA (dN (oe a0.Comment)) ( aM (λ(i2:Nat) (e2:Int) (v3:Unit)=>rF (us 45++[dL (eInt .u8) (oe a0.Comment),dI ((oe a0.Comment).length:Int),dI (i2:Int)]++us 7) ⟨[(cB a0)],[]⟩ ( ac (gR e2) λ(y1:Bool)=>if (!y1)=true then some (.ret (.ret 1))else some (.go ()))) (λ(v3:Unit)=>some (.go ())) (oe a0.Comment) 0 ())) λ(v4:Unit)=>jB 2 (us 55) ⟨[(cB a0)],[]⟩ ( some 0)))
instance kI:Sp 132 (∀{a0:ae},Ct 132 [.agg (cB a0)] (λy:Int=>.d (.int .i64 y)) (kJ a0)):=⟨zzF Tryz.func132 (kJ.eq_1 ..)⟩
def bk_Text(a0:Int):Option (List UInt8):=ac (if (decide (a0<0))=true then some (zQ.wrap (0-(zQ.wrap a0)),[45])else some (zQ.wrap a0,[])) λ(v1:Int×(List UInt8))=>jC ([U,U,U,.d (.int .u64 v1.1),dS v1.2]++us 26) ⟨[],[]⟩ ( ac (fE (zQ.wrap (Int.tdiv v1.1 1000)) 10) λ(y1:(List UInt8))=>aA (okStr v1.2 y1) ( ac (if (decide ((Int.tmod v1.1 1000)>0))=true then ac (fE (zQ.wrap (1000+(Int.tmod v1.1 1000))) 10) λ(y2:(List UInt8))=>ac (cutF y2 1) λ(s1:(List UInt8))=>ac (gW s1 [48]) λ(y3:(List UInt8))=>aA (okStr [46] y3) ( aA (okStr (v1.2++y1) ([46]++y3)) ( some ((v1.2++y1)++([46]++y3))))else some (v1.2++y1)) λ(v2:(List UInt8))=>jC ([U,U,U,U,U,dS v2]++us 25) ⟨[],[]⟩ ( some v2)))
instance bk_Text_spec:Sp 133 (∀{a0:Int},Ct 133 [dI a0] (λy:(List UInt8)=>.d (.str y)) (bk_Text a0)):=⟨zzF Tryz.func133 (bk_Text.eq_1 ..)⟩
def ph(a0:ae):Option ((List UInt8)×Int):=ac (kJ a0) λ(y1:Int)=>if (y1 != 0)=true then some ([],y1)else gF [.slot 5 9] ( ac (aA (dN a0.Words) ( aM (λ(i1:Nat) (e1:aC) (v1:(List (List UInt8)))=>rF ([U,.ptr 0 0,U,U,U,.own 0 (zA eStr v1)]++us 9++[dL az a0.Words,dI (a0.Words.length:Int),dI (i1:Int)]++us 32) ⟨[(cB a0)],[(9,v1.length)]⟩ ( ac (bk_Text e1.Value) λ(y2:(List UInt8))=>aA (okStr (runeS (IntKind.i32.wrap e1.Letter)) y2) ( aA (cd (v1.length+1)) ( some (.go (v1++[(runeS (IntKind.i32.wrap e1.Letter))++y2])))))) (λ(v1:(List (List UInt8)))=>some v1) a0.Words 0 [])) λ(v2:(List (List UInt8)))=>jB 0 ([U,.ptr 0 0,U,U,U,.own 0 (zA eStr v2)]++us 44) ⟨[(cB a0)],[(9,v2.length)]⟩ ( ac (if (!(a0.Comment==[]))=true then aA (okStr [40] a0.Comment) ( aA (okStr ([40]++a0.Comment) [41]) ( aA (cd (v2.length+1)) ( some (v2++[([40]++a0.Comment)++[41]]))))else some v2) λ(v3:(List (List UInt8)))=>jC ([U,.ptr 0 0,U,U,U,.own 0 (zA eStr v3)]++us 44) ⟨[(cB a0)],[(9,v3.length)]⟩ ( ac (strings_Join v3 [32]) λ(y3:(List UInt8))=>ac (if a0.Skip=true then aA (okStr [47] y3) ( some ([47]++y3))else some y3) λ(v4:(List UInt8))=>jC (us 8++[dS v4]++us 41) ⟨[(cB a0)],[(9,v3.length)]⟩ ( some (v4,0)))))
theorem mu{a0:ae}{y:(List UInt8)×Int}(h:ph a0=some y):Spec gP 53 [.agg (cB a0)] (.tuple [.d (.str y.1),.d (.int .i64 y.2)]):=by
 refine auA Tryz.func53 (λy:(List UInt8)×Int=>.tuple [.d (.str y.1),.d (.int .i64 y.2)]) ?_ h
 unfold ph
 refine .sA ?_
 refine .seqK (.seqK (.bind λy1 hy1=>.region λe h=>WA ?_))
 refine .byA (kI.1 _ hy1) (mA ?_ h)
 refine .sA ?_
 refine .cond rfl (λhb3=>?_) (λhb3=>?_)
 exact zzA
 refine .skip (Mir.toK (.sA ?_))
 refine .seqK (.sA ?_)
 refine Mir.gF rfl (Mir.jOB (λ_=>rfl) ?_ ?_)
 refine .block (.guard λq1=>Mir.rF q1 (λ_ _=>rfl) (by simp only[seval,FMA,zNI]) (by simp only[seval,FMA,zNI]) ?_ ?_)
 intro i1 e1 v1 q2
 refine .sR λe h=>?_
 simp only[seval,EMA,q2]
 refine mU e (.seqK (.condT rfl (.skip (Mir.toK (.seqK (.block (.sR λe h=>?_))))))) h
 simp only[seval,EMA,q2,Int.toNat_natCast]
 refine mU e (.bind λy2 h1=>.guard λq3=>?_) h
 replace q3:=okStr_ok q3
 refine .guard λq4=>.regionD [] (by kernel_rfl) λe h=>?_
 simp only[seval,EMA,SB,rune_enc]
 exact zzA
 exact zzA
 exact zzA
instance:Sp 53 (type_of% @mu):=⟨@mu⟩
def pU(a0:(List ae)):Option ((List UInt8)×Int):=bindX (aA (dN a0) ( aM (λ(i1:Nat) (e1:ae) (v1:(List UInt8))=>rF ([U,U,U,U,.ptr 0 0,U,U,U,U,dL al a0,dI (a0.length:Int),dI (i1:Int)]++us 16) ⟨[[.adr 0,.own 0 (zA lO v1)]],[(5,v1.length)]⟩ ( ac (ph e1) λ(y1:(List UInt8)×Int)=>if (y1.2 != 0)=true then some (.ret (.ret ([],y1.2)))else aA (cd (v1.length+y1.1.length)) ( aA (cd ((v1++y1.1).length+1)) ( some (.go (v1++y1.1++[10])))))) (λ(v1:(List UInt8))=>some (.go v1)) a0 0 [])) λ(v2:(List UInt8))=>jB 0 ([U,U,U,U,.ptr 0 0]++us 23) ⟨[[.adr 0,.own 0 (zA lO v2)]],[(5,v2.length)]⟩ ( some (v2,0))
theorem bk_Print_spec{a0:(List ae)}{y:(List UInt8)×Int}(h:pU a0=some y):Spec gP 22 [.d (.list (zA al a0))] (.tuple [.d (.str y.1),.d (.int .i64 y.2)]):=by
 refine auA Tryz.func22 (λy:(List UInt8)×Int=>.tuple [.d (.str y.1),.d (.int .i64 y.2)]) ?_ h
 unfold pU
 refine .sA ?_
 refine .seqK (.regionW λe h=>regW.alt 0 rfl ?_)
 simp only[seval,EMA]
 refine alt_allocB (e:=5) (zv:=.agg #[.pointer none,.slice none 0 0]) rfl (by kernel_rfl) rfl (regW.of ?_)
 simp only[seval,EMA]
 refine mU e (.seqK (.sA ?_)) h
 refine Mir.jXB (λ_=>rfl) ?_ ?_
 refine .block (.guard λq1=>Mir.rF q1 (λ_ _=>rfl) (by simp only[seval,FMA,zNI]) (by simp only[seval,FMA,zNI]) ?_ ?_)
 intro i1 e1 v1 qr98
 refine .sR λe h=>?_
 simp only[seval,EMA,qr98]
 refine mU e (.seqK (.condT rfl (.skip (Mir.toK (.seqK (.block (.sR λe h=>?_))))))) h
 simp only[seval,EMA,qr98,Int.toNat_natCast]
 refine mU e (.seqK (.bind λy1 h1=>.region λe h=>WA ?_)) h
 refine .byA (mu h1) (mA ?_ h)
 refine .seqK (.sA ?_)
 refine .cond rfl (λh2=>?_) (λh2=>?_)
 exact zzA
 refine .skip (Mir.toK (.seqK (.guard λq2=>.region λe h=>WA ?_)))
 refine specS_wsN (n:=(v1++y1.1).length) rfl (lns_at (by simp only[zE,zB,zF,zD,zH,zG,xOS,xON]<;>omega)) (ok2 q2 (by simp only[zE,zB,zF,zD,zH,zG,xOS,xON]<;>omega) rfl) (by simp only[zE,zB,zF,zD,zH,zG,xOS,xON]<;>omega) ?_
 simp only[seval,EMA]
 refine mU e (.guard λq3=>.region λe h=>WA ?_) h
 refine specS_wbN (b:=10) (n:=(v1++y1.1++[10]).length) rfl rfl (lns_at (by simp only[zE,zB,zF,zD,zH,zG,xOS,xON]<;>omega)) (ok2 q3 (by simp only[zE,zB,zF,zD,zH,zG,xOS,xON]<;>omega) rfl) (by simp only[zE,zB,zF,zD,zH,zG,xOS,xON]<;>omega) ?_
 exact zzA
 exact zzA
 intro v2
 refine Mir.toK (.sR λe h=>WA ?_)
 refine specS_st rfl (lns_at (by simp only[zE,zB,zF,zD,zH,zG,xOS,xON]<;>omega)) ?_
 exact zzA
instance:Sp 22 (type_of% @bk_Print_spec):=⟨@bk_Print_spec⟩
def oN(a0:(List bC))(a1:ag)(a2:dP):Option ((List UInt8)×Int):=ac (oP a0 (ag.mk a1.X a1.Y a1.Z) a2) λ(y1:(List ae)×Int)=>if (y1.2 != 0)=true then some ([],y1.2)else ac (pU y1.1) λ(y2:(List UInt8)×Int)=>if (y2.2 != 0)=true then some ([],y2.2)else if (decide ((y2.1.length:Int)>65536))=true then some ([],3)else some (y2.1,0)
instance po_Emit_spec:Sp 6 (∀{a0:(List bC)} {a1:ag} {a2:dP},Ct 6 [.d (.list (zA cb a0)),.agg (cF a1),.agg (cL a2)] (λy:(List UInt8)×Int=>.tuple [.d (.str y.1),.d (.int .i64 y.2)]) (oN a0 a1 a2)):=⟨zzF Tryz.func6 (oN.eq_1 ..)⟩
def gU(a0:ag):Option aw:=gF [.cell 2 18 102] ( ac (some ()) λ(v1:Unit)=>jB 0 ([U,U,.ptr 1 0,.ptr 2 0]++us 19) ⟨[(cF a0),[dI 0,dI 0,dI 0,dI 0,dI 0,dI 0,dI 0,dI 0,dI 0,dI 0,dI 0,dI 0,dI 0,dI 0,dI 0,dI 0,dI 0,dI 0,.nil],[dI 0,dI 0,dI 0,dI a0.X,dI a0.Y,dI a0.Z,dI 0,dI 0,dI 0,dI 0,dI 0,dI 0,dI 0,dI 0,dI 0,dI 0,dI 0,dI 0,.own 0 (zA au [aZ.mk 1 11000,aZ.mk 2 12000,aZ.mk 3 13000,aZ.mk 4 14000,aZ.mk 5 15000,aZ.mk 6 16000,aZ.mk 7 17000,aZ.mk 8 18000,aZ.mk 9 19000])]],[(102,9)]⟩ ( some (aw.mk (pX.mk (ag.mk 0 0 0) a0 (ag.mk 0 0 0) (ag.mk 0 0 0) (ag.mk 0 0 0) (ag.mk 0 0 0)) [aZ.mk 1 11000,aZ.mk 2 12000,aZ.mk 3 13000,aZ.mk 4 14000,aZ.mk 5 15000,aZ.mk 6 16000,aZ.mk 7 17000,aZ.mk 8 18000,aZ.mk 9 19000])))
instance top_lengths53_spec:Sp 9 (∀{a0:ag},Ct 9 [.agg (cF a0)] (λy:aw=>.agg (w6 y.Work [.d (.list (zA au y.Lengths))])) (gU a0)):=⟨zzF Tryz.func9 (gU.eq_1 ..)⟩
def n6(a0:ag):Option Bool:=jV 3 ([U,U,dB ((decide ((mmI true (mmI true a0.X a0.Y) a0.Z)>10000000))||(decide ((mmI false (mmI false a0.X a0.Y) a0.Z)<(-10000000))))]++us 22) ⟨[(cF a0)],[]⟩ ( some ((decide ((mmI true (mmI true a0.X a0.Y) a0.Z)>10000000))||(decide ((mmI false (mmI false a0.X a0.Y) a0.Z)<(-10000000)))))
instance tb_far_spec:Sp 137 (∀{a0:ag},Ct 137 [.agg (cF a0)] (λy:Bool=>.d (.bool y)) (n6 a0)):=⟨zzF Tryz.func137 (n6.eq_1 ..)⟩
def tb_entry(a0:aZ):Option Bool:=jV 1 ([U,U,dB ((decide (a0.Number≥1))&&((decide (a0.Number≤999))&&((decide (a0.Length≥0))&&(decide (a0.Length≤10000000)))))]++us 18) ⟨[(cE a0)],[]⟩ ( some ((decide (a0.Number≥1))&&((decide (a0.Number≤999))&&((decide (a0.Length≥0))&&(decide (a0.Length≤10000000))))))
instance tb_entry_spec:Sp 138 (∀{a0:aZ},Ct 138 [.agg (cE a0)] (λy:Bool=>.d (.bool y)) (tb_entry a0)):=⟨zzF Tryz.func138 (tb_entry.eq_1 ..)⟩
def iu(a0:aw):Option Int:=ac (iF 136 (λv1:Bool=>.d (.bool v1)) (λv1:Bool=>⟨[(w6 a0.Work [dL au a0.Lengths])],[]⟩) (ac (iF 204 (λv2:Int=>.d (.int .i64 v2)) (λv2:Int=>⟨[(w6 a0.Work [dL au a0.Lengths])],[]⟩) (bindX (ac (n6 a0.Work.e0) λ(y1:Bool)=>if y1=true then some (.ret 0)else ac (n6 a0.Work.e1) λ(y2:Bool)=>if y2=true then some (.ret 1)else ac (n6 a0.Work.e2) λ(y3:Bool)=>if y3=true then some (.ret 2)else ac (n6 a0.Work.e3) λ(y4:Bool)=>if y4=true then some (.ret 3)else ac (n6 a0.Work.e4) λ(y5:Bool)=>if y5=true then some (.ret 4)else ac (n6 a0.Work.e5) λ(y6:Bool)=>if y6=true then some (.ret 5)else some (.go ())) λ(v3:Unit)=>jB 0 (us 19) ⟨[(w6 a0.Work [dL au a0.Lengths])],[]⟩ ( some (-1)))) λ(v2:Int)=>some (decide (v2≥0)))) λ(v1:Bool)=>if v1=true then some 1 else bindX (aA (dN a0.Lengths) ( aM (λ(i1:Nat) (e1:aZ) (v4:Unit)=>rF ([U,.ptr 0 0]++us 7++[dL au a0.Lengths,dI (a0.Lengths.length:Int),dI (i1:Int)]++us 24) ⟨[(w6 a0.Work [dL au a0.Lengths])],[]⟩ ( ac (ac (tb_entry e1) λ(y7:Bool)=>if y7=true then if (decide ((i1:Int)>0))=true then ac (gt a0.Lengths (zO.wrap ((i1:Int)-1))) λ(e2:aZ)=>some (decide (e2.Number≥e1.Number))else some false else some true) λ(v5:Bool)=>jR 6 ([U,.ptr 0 0]++us 7++[dL au a0.Lengths,dI (a0.Lengths.length:Int),dI (i1:Int)]++us 22++[dB v5,U]) ⟨[(w6 a0.Work [dL au a0.Lengths]),(cE e1)],[]⟩ ( if v5=true then some (.ret (.ret 1))else some (.go ())))) (λ(v4:Unit)=>some (.go ())) a0.Lengths 0 ())) λ(v6:Unit)=>jB 0 (us 36) ⟨[(w6 a0.Work [dL au a0.Lengths])],[]⟩ ( some 0)
instance tb_Valid_spec:Sp 57 (∀{a0:aw},Ct 57 [.agg (w6 a0.Work [.d (.list (zA au a0.Lengths))])] (λy:Int=>.d (.int .i64 y)) (iu a0)):=⟨zzF Tryz.func57 (iu.eq_1 ..)⟩
def ia(a0:Int):Option Bool:=jV 1 ([U,U,dB ((decide (a0<(-10000000)))||(decide (a0>10000000)))]++us 6) ⟨[],[]⟩ ( some ((decide (a0<(-10000000)))||(decide (a0>10000000))))
instance inp_inside_c1_spec:Sp 140 (∀{a0:Int},Ct 140 [dI a0] (λy:Bool=>.d (.bool y)) (ia a0)):=⟨zzF Tryz.func140 (ia.eq_1 ..)⟩
def mW(a0:ag):Option Bool:=ac (iF 139 (λv1:Bool=>.d (.bool v1)) (λv1:Bool=>⟨[(cF a0)],[]⟩) (ac (iF 205 (λv2:Int=>.d (.int .i64 v2)) (λv2:Int=>⟨[(cF a0)],[]⟩) (bindX (ac (ia a0.X) λ(y1:Bool)=>if y1=true then some (.ret 0)else ac (ia a0.Y) λ(y2:Bool)=>if y2=true then some (.ret 1)else ac (ia a0.Z) λ(y3:Bool)=>if y3=true then some (.ret 2)else some (.go ())) λ(v3:Unit)=>jB 0 (us 19) ⟨[(cF a0)],[]⟩ ( some (-1)))) λ(v2:Int)=>some (decide (v2≥0)))) λ(v1:Bool)=>some (!v1)
instance inp_inside_spec:Sp 58 (∀{a0:ag},Ct 58 [.agg (cF a0)] (λy:Bool=>.d (.bool y)) (mW a0)):=⟨zzF Tryz.func58 (mW.eq_1 ..)⟩
def eg(a0:aw)(a1:ag):Option Int:=ac (iu (aw.mk a0.Work a0.Lengths)) λ(y1:Int)=>if (y1 != 0)=true then some 1 else ac (mW a1) λ(y2:Bool)=>if (!y2)=true then some 11 else some 0
instance n9:Sp 23 (∀{a0:aw} {a1:ag},Ct 23 [.agg (w6 a0.Work [.d (.list (zA au a0.Lengths))]),.agg (cF a1)] (λy:Int=>.d (.int .i64 y)) (eg a0 a1)):=⟨zzF Tryz.func23 (eg.eq_1 ..)⟩
def gC(a0:(List UInt8))(a1:(List UInt8)):Option Bool:=ac (if (decide ((a0.length:Int)≥(a1.length:Int)))=true then ac (cutF a0 (zO.wrap ((a0.length:Int)-(a1.length:Int)))) λ(s1:(List UInt8))=>some (s1==a1)else some false) λ(v1:Bool)=>jR 1 ([U,U,U,U,dB v1]++us 16) ⟨[],[]⟩ ( some v1)
instance stringslite_HasSuffix_spec:Sp 144 (∀{a0:(List UInt8)} {a1:(List UInt8)},Ct 144 [dS a0,dS a1] (λy:Bool=>.d (.bool y)) (gC a0 a1)):=⟨zzF Tryz.func144 (gC.eq_1 ..)⟩
def gZ(a0:(List UInt8))(a1:(List UInt8)):Option Bool:=ac (gC a0 a1) λ(y1:Bool)=>some y1
instance strings_HasSuffix_spec:Sp 60 (∀{a0:(List UInt8)} {a1:(List UInt8)},Ct 60 [dS a0,dS a1] (λy:Bool=>.d (.bool y)) (gZ a0 a1)):=⟨zzF Tryz.func60 (gZ.eq_1 ..)⟩
def ec(a0:(List UInt8))(a1:(List UInt8)):Option Int:=jV 2 ([dS a0,dS a1,U,U,U,dI (a1.length:Int)]++us 10++[dB (((a1.length:Int)==0)||(a1==a0))]++us 126) ⟨[],[]⟩ ( if (((a1.length:Int)==0)||(a1==a0))=true then some 0 else if ((a1.length:Int)==1)=true then ac (gt a1 0) λ(c1:UInt8)=>ac (stringslite_IndexByte a0 (c1.toNat:Int)) λ(y1:Int)=>some y1 else if (decide ((a1.length:Int)≥(a0.length:Int)))=true then some (-1)else none)
instance stringslite_Index_spec:Sp 206 (∀{a0:(List UInt8)} {a1:(List UInt8)},Ct 206 [dS a0,dS a1] (λy:Int=>.d (.int .i64 y)) (ec a0 a1)):=⟨zzF Tryz.func206 (ec.eq_1 ..)⟩
def gD(a0:(List UInt8))(a1:(List UInt8)):Option ((List UInt8)×(List UInt8)×Bool):=ac (ec a0 a1) λ(y1:Int)=>if (decide (y1≥0))=true then ac (cutT a0 y1) λ(s1:(List UInt8))=>ac (cutF a0 (zO.wrap (y1+(a1.length:Int)))) λ(s2:(List UInt8))=>some (s1,s2,true)else some (a0,[],false)
instance stringslite_Cut_spec:Sp 145 (∀{a0:(List UInt8)} {a1:(List UInt8)},Ct 145 [dS a0,dS a1] (λy:(List UInt8)×(List UInt8)×Bool=>.tuple [.d (.str y.1),.d (.str y.2.1),.d (.bool y.2.2)]) (gD a0 a1)):=⟨zzF Tryz.func145 (gD.eq_1 ..)⟩
def gG(a0:(List UInt8))(a1:(List UInt8)):Option ((List UInt8)×(List UInt8)×Bool):=ac (gD a0 a1) λ(y1:(List UInt8)×(List UInt8)×Bool)=>some (y1.1,y1.2.1,y1.2.2)
instance strings_Cut_spec:Sp 61 (∀{a0:(List UInt8)} {a1:(List UInt8)},Ct 61 [dS a0,dS a1] (λy:(List UInt8)×(List UInt8)×Bool=>.tuple [.d (.str y.1),.d (.str y.2.1),.d (.bool y.2.2)]) (gG a0 a1)):=⟨zzF Tryz.func61 (gG.eq_1 ..)⟩
def fC(a0:(List UInt8))(a1:(List UInt8)):Option Bool:=ac (if (decide ((a0.length:Int)≥(a1.length:Int)))=true then ac (cutT a0 (a1.length:Int)) λ(s1:(List UInt8))=>some (s1==a1)else some false) λ(v1:Bool)=>jR 1 ([U,U,U,U,dB v1]++us 13) ⟨[],[]⟩ ( some v1)
instance stringslite_HasPrefix_spec:Sp 321 (∀{a0:(List UInt8)} {a1:(List UInt8)},Ct 321 [dS a0,dS a1] (λy:Bool=>.d (.bool y)) (fC a0 a1)):=⟨zzF Tryz.func321 (fC.eq_1 ..)⟩
def fD(a0:(List UInt8))(a1:(List UInt8)):Option ((List UInt8)×Bool):=ac (fC a0 a1) λ(y1:Bool)=>if (!y1)=true then some (a0,false)else ac (cutF a0 (a1.length:Int)) λ(s1:(List UInt8))=>some (s1,true)
instance stringslite_CutPrefix_spec:Sp 309 (∀{a0:(List UInt8)} {a1:(List UInt8)},Ct 309 [dS a0,dS a1] (λy:(List UInt8)×Bool=>.tuple [.d (.str y.1),.d (.bool y.2)]) (fD a0 a1)):=⟨zzF Tryz.func309 (fD.eq_1 ..)⟩
def fL(a0:(List UInt8))(a1:(List UInt8)):Option ((List UInt8)×Bool):=ac (fD a0 a1) λ(y1:(List UInt8)×Bool)=>some (y1.1,y1.2)
instance strings_CutPrefix_spec:Sp 284 (∀{a0:(List UInt8)} {a1:(List UInt8)},Ct 284 [dS a0,dS a1] (λy:(List UInt8)×Bool=>.tuple [.d (.str y.1),.d (.bool y.2)]) (fL a0 a1)):=⟨zzF Tryz.func284 (fL.eq_1 ..)⟩
def iq(a0:(List UInt8)):Option Bool:=ac (if (a0==[])=true then some false else ac (oo a0 [48,49,50,51,52,53,54,55,56,57]) λ(y1:(List UInt8))=>some (y1==[])) λ(v1:Bool)=>jR 1 ([U,U,dB v1]++us 7) ⟨[],[]⟩ ( some v1)
instance bk_digits_spec:Sp 285 (∀{a0:(List UInt8)},Ct 285 [dS a0] (λy:Bool=>.d (.bool y)) (iq a0)):=⟨zzF Tryz.func285 (iq.eq_1 ..)⟩
def bk_Value(a0:(List UInt8)):Option (Int×Int):=ac (fL a0 [45]) λ(y1:(List UInt8)×Bool)=>ac (gG y1.1 [46]) λ(y2:(List UInt8)×(List UInt8)×Bool)=>ac (ac (iq y2.1) λ(y3:Bool)=>if y3=true then if (decide ((y2.1.length:Int)>1))=true then ac (gt y2.1 0) λ(c1:UInt8)=>if ((c1.toNat:Int)==48)=true then some true else if y2.2.2=true then ac (iq y2.2.1) λ(y4:Bool)=>if y4=true then if (decide ((y2.2.1.length:Int)>3))=true then some true else ac (gt y2.2.1 (zO.wrap ((y2.2.1.length:Int)-1))) λ(c2:UInt8)=>if ((c2.toNat:Int)==48)=true then some true else if y1.2=true then some (y1.1==[48])else some false else some true else if y1.2=true then some (y1.1==[48])else some false else if y2.2.2=true then ac (iq y2.2.1) λ(y5:Bool)=>if y5=true then if (decide ((y2.2.1.length:Int)>3))=true then some true else ac (gt y2.2.1 (zO.wrap ((y2.2.1.length:Int)-1))) λ(c3:UInt8)=>if ((c3.toNat:Int)==48)=true then some true else if y1.2=true then some (y1.1==[48])else some false else some true else if y1.2=true then some (y1.1==[48])else some false else some true) λ(v1:Bool)=>jR 3 ([U,U,U,U,U,dB y1.2,dS y2.1,dS y2.2.1]++us 54++[dB v1]++us 20) ⟨[],[]⟩ ( if v1=true then some (0,2)else if (decide ((y2.1.length:Int)>10))=true then some (0,11)else aA (okStr y2.1 y2.2.1) ( ac (cutF [48,48,48] (y2.2.1.length:Int)) λ(s1:(List UInt8))=>aA (okStr (y2.1++y2.2.1) s1) ( ac (iv ((y2.1++y2.2.1)++s1) 10 64) λ(y6:Int)=>if (decide (y6>1000000000000))=true then some (0,11)else ac (if y1.2=true then some (zO.wrap (0-y6))else some y6) λ(v2:Int)=>jC (us 9++[dI v2]++us 73) ⟨[],[]⟩ ( some (v2,0)))))
instance bk_Value_spec:Sp 251 (∀{a0:(List UInt8)},Ct 251 [dS a0] (λy:Int×Int=>.tuple [.d (.int .i64 y.1),.d (.int .i64 y.2)]) (bk_Value a0)):=⟨zzF Tryz.func251 (bk_Value.eq_1 ..)⟩
def bk_Parse(a0:(List UInt8)):Option (ae×Int×Int):=if (decide ((a0.length:Int)>65536))=true then some (ae.mk false [] [],0,3)else ac (iF 146 (λv1:Int×cc=>.d (.int .i64 v1.1)) (λv1:Int×cc=>⟨[[dB false,.nil,dS []],[dS v1.2.s,dI v1.2.at_,dB v1.2.b.Skip,.own 0 (zA az v1.2.b.Words),dS v1.2.b.Comment]],[(168,v1.2.b.Words.length)]⟩) (gF [.cell 1 3 168] ( ac (iF 207 (λv2:Bool×Int=>.d (.bool v2.1)) (λv2:Bool×Int=>⟨[[dB false,.nil,dS []],[dS a0,dI v2.2,dB false,.own 0 (zA az []),dS []]],[(168,0)]⟩) (ac (ac (iF 208 (λv3:Unit=>.d (.bool (0==(a0.length:Int)))) (λv3:Unit=>⟨[[dB false,.nil,dS []],[dS a0,dI 0,dB false,.own 0 (zA az []),dS []]],[(168,0)]⟩) (some ())) λ(v3:Unit)=>if (0==(a0.length:Int))=true then some true else ac (gt a0 0) λ(c1:UInt8)=>some ((c1.toNat:Int) != 47)) λ(v4:Bool)=>jR 1 ([.ptr 1 0]++us 18++[dB v4]++us 7) ⟨[[dB false,.nil,dS []],[dS a0,dI 0,dB false,.own 0 (zA az []),dS []]],[(168,0)]⟩ ( if v4=true then some (false,0)else some (true,1)))) λ(v2:Bool×Int)=>dR (λ(v5:Bool×cc)=>lF ([.ptr 1 0,U,U,dB v5.1]++us 34) ⟨[[dB false,.nil,dS []],[dS v5.2.s,dI v5.2.at_,dB v5.2.b.Skip,.own 0 (zA az v5.2.b.Words),dS v5.2.b.Comment]],[(168,v5.2.b.Words.length)]⟩ ( ac (iF 208 (λv6:Unit=>.d (.bool (v5.2.at_==(v5.2.s.length:Int)))) (λv6:Unit=>⟨[[dB false,.nil,dS []],[dS v5.2.s,dI v5.2.at_,dB v5.2.b.Skip,.own 0 (zA az v5.2.b.Words),dS v5.2.b.Comment]],[(168,v5.2.b.Words.length)]⟩) (some ())) λ(v6:Unit)=>if (v5.2.at_==(v5.2.s.length:Int))=true then if v5.1=true then some (.ret (2,v5.2))else some (.ret (0,v5.2))else ac (gt v5.2.s v5.2.at_) λ(c2:UInt8)=>if ((c2.toNat:Int)==40)=true then ac (iF 209 (λv7:Int×cc=>.d (.int .i64 v7.1)) (λv7:Int×cc=>⟨[[dB false,.nil,dS []],[dS v7.2.s,dI v7.2.at_,dB v7.2.b.Skip,.own 0 (zA az v7.2.b.Words),dS v7.2.b.Comment]],[(168,v7.2.b.Words.length)]⟩) (ac (dR (λ(v8:Int)=>lF ([.ptr 1 0,U,U,dI v5.2.at_]++us 67) ⟨[[dB false,.nil,dS []],[dS v5.2.s,dI v8,dB v5.2.b.Skip,.own 0 (zA az v5.2.b.Words),dS v5.2.b.Comment]],[(168,v5.2.b.Words.length)]⟩ ( ac (ac (iF 208 (λv9:Unit=>.d (.bool (v8==(v5.2.s.length:Int)))) (λv9:Unit=>⟨[[dB false,.nil,dS []],[dS v5.2.s,dI v8,dB v5.2.b.Skip,.own 0 (zA az v5.2.b.Words),dS v5.2.b.Comment]],[(168,v5.2.b.Words.length)]⟩) (some ())) λ(v9:Unit)=>if (v8==(v5.2.s.length:Int))=true then some false else ac (gt v5.2.s v8) λ(c3:UInt8)=>ac (gR (c3.toNat:Int)) λ(y1:Bool)=>some y1) λ(v10:Bool)=>jR 3 ([.ptr 1 0,U,U,dI v5.2.at_]++us 26++[dB v10]++us 40) ⟨[[dB false,.nil,dS []],[dS v5.2.s,dI v8,dB v5.2.b.Skip,.own 0 (zA az v5.2.b.Words),dS v5.2.b.Comment]],[(168,v5.2.b.Words.length)]⟩ ( if v10=true then some (.go (zO.wrap (v8+1)))else some (.ret v8)))) fuel (zO.wrap (v5.2.at_+1))) λ(v11:Int)=>jB 0 ([.ptr 1 0,U,U,dI v5.2.at_]++us 67) ⟨[[dB false,.nil,dS []],[dS v5.2.s,dI v11,dB v5.2.b.Skip,.own 0 (zA az v5.2.b.Words),dS v5.2.b.Comment]],[(168,v5.2.b.Words.length)]⟩ ( ac (cutL v5.2.s (zO.wrap (v5.2.at_+1)) v11) λ(s1:(List UInt8))=>if (decide ((s1.length:Int)>100))=true then some (3,v5.2)else ac (if (s1==[])=true then some (true,v11)else ac (iF 207 (λv12:Bool×Int=>.d (.bool v12.1)) (λv12:Bool×Int=>⟨[[dB false,.nil,dS []],[dS v5.2.s,dI v12.2,dB v5.2.b.Skip,.own 0 (zA az v5.2.b.Words),dS v5.2.b.Comment]],[(168,v5.2.b.Words.length)]⟩) (ac (ac (iF 208 (λv13:Unit=>.d (.bool (v11==(v5.2.s.length:Int)))) (λv13:Unit=>⟨[[dB false,.nil,dS []],[dS v5.2.s,dI v11,dB v5.2.b.Skip,.own 0 (zA az v5.2.b.Words),dS v5.2.b.Comment]],[(168,v5.2.b.Words.length)]⟩) (some ())) λ(v13:Unit)=>if (v11==(v5.2.s.length:Int))=true then some true else ac (gt v5.2.s v11) λ(c4:UInt8)=>some ((c4.toNat:Int) != 41)) λ(v14:Bool)=>jR 1 ([.ptr 1 0]++us 18++[dB v14]++us 7) ⟨[[dB false,.nil,dS []],[dS v5.2.s,dI v11,dB v5.2.b.Skip,.own 0 (zA az v5.2.b.Words),dS v5.2.b.Comment]],[(168,v5.2.b.Words.length)]⟩ ( if v14=true then some (false,v11)else some (true,zO.wrap (v11+1))))) λ(v12:Bool×Int)=>some (!v12.1,v12.2)) λ(v15:Bool×Int)=>jR 9 ([.ptr 1 0,U,U,U,dS s1]++us 57++[dB v15.1]++us 8) ⟨[[dB false,.nil,dS []],[dS v5.2.s,dI v15.2,dB v5.2.b.Skip,.own 0 (zA az v5.2.b.Words),dS v5.2.b.Comment]],[(168,v5.2.b.Words.length)]⟩ ( if v15.1=true then some (2,cc.mk v5.2.s v15.2 v5.2.b)else ac (iF 208 (λv16:Unit=>.d (.bool (v15.2==(v5.2.s.length:Int)))) (λv16:Unit=>⟨[[dB false,.nil,dS []],[dS v5.2.s,dI v15.2,dB v5.2.b.Skip,.own 0 (zA az v5.2.b.Words),dS s1]],[(168,v5.2.b.Words.length)]⟩) (some ())) λ(v16:Unit)=>if (!(v15.2==(v5.2.s.length:Int)))=true then some (2,cc.mk v5.2.s v15.2 (ae.mk v5.2.b.Skip v5.2.b.Words s1))else some (0,cc.mk v5.2.s v15.2 (ae.mk v5.2.b.Skip v5.2.b.Words s1)))))) λ(v7:Int×cc)=>some (.ret (v7.1,v7.2))else ac (iF 210 (λv17:Int×cc=>.d (.int .i64 v17.1)) (λv17:Int×cc=>⟨[[dB false,.nil,dS []],[dS v17.2.s,dI v17.2.at_,dB v17.2.b.Skip,.own 0 (zA az v17.2.b.Words),dS v17.2.b.Comment]],[(168,v17.2.b.Words.length)]⟩) (ac (gt v5.2.s v5.2.at_) λ(c5:UInt8)=>jV 2 ([.ptr 1 0,U,U,.d (.int .u8 (c5.toNat:Int))]++us 17++[dB ((decide ((c5.toNat:Int)<65))||(decide ((c5.toNat:Int)>90)))]++us 93) ⟨[[dB false,.nil,dS []],[dS v5.2.s,dI v5.2.at_,dB v5.2.b.Skip,.own 0 (zA az v5.2.b.Words),dS v5.2.b.Comment]],[(168,v5.2.b.Words.length)]⟩ ( if ((decide ((c5.toNat:Int)<65))||(decide ((c5.toNat:Int)>90)))=true then some (2,v5.2)else if ((v5.2.b.Words.length:Int)==16)=true then some (3,v5.2)else ac (dR (λ(v18:Int)=>lF ([.ptr 1 0,U,U,.d (.int .u8 (c5.toNat:Int)),dI v18]++us 110) ⟨[[dB false,.nil,dS []],[dS v5.2.s,dI v5.2.at_,dB v5.2.b.Skip,.own 0 (zA az v5.2.b.Words),dS v5.2.b.Comment]],[(168,v5.2.b.Words.length)]⟩ ( ac (if (decide (v18<(v5.2.s.length:Int)))=true then ac (gt v5.2.s v18) λ(c6:UInt8)=>if (decide ((c6.toNat:Int)≥48))=true then if (decide ((c6.toNat:Int)≤57))=true then some true else if ((c6.toNat:Int)==45)=true then some true else some ((c6.toNat:Int)==46)else if ((c6.toNat:Int)==45)=true then some true else some ((c6.toNat:Int)==46)else some false) λ(v19:Bool)=>jR 7 ([.ptr 1 0,U,U,.d (.int .u8 (c5.toNat:Int)),dI v18]++us 71++[dB v19]++us 38) ⟨[[dB false,.nil,dS []],[dS v5.2.s,dI v5.2.at_,dB v5.2.b.Skip,.own 0 (zA az v5.2.b.Words),dS v5.2.b.Comment]],[(168,v5.2.b.Words.length)]⟩ ( if v19=true then some (.go (zO.wrap (v18+1)))else some (.ret v18)))) fuel (zO.wrap (v5.2.at_+1))) λ(v20:Int)=>jB 0 ([.ptr 1 0,U,U,.d (.int .u8 (c5.toNat:Int)),dI v20]++us 110) ⟨[[dB false,.nil,dS []],[dS v5.2.s,dI v5.2.at_,dB v5.2.b.Skip,.own 0 (zA az v5.2.b.Words),dS v5.2.b.Comment]],[(168,v5.2.b.Words.length)]⟩ ( ac (cutL v5.2.s (zO.wrap (v5.2.at_+1)) v20) λ(s2:(List UInt8))=>ac (bk_Value s2) λ(y2:Int×Int)=>if (y2.2 != 0)=true then some (y2.2,v5.2)else aA (cd (v5.2.b.Words.length+1)) ( some (0,cc.mk v5.2.s v20 (ae.mk v5.2.b.Skip (v5.2.b.Words++[aC.mk (c5.toNat:Int) y2.1]) v5.2.b.Comment))))))) λ(v17:Int×cc)=>if (v17.1 != 0)=true then some (.ret (v17.1,v17.2))else ac (iF 208 (λv21:Unit=>.d (.bool (v17.2.at_==(v17.2.s.length:Int)))) (λv21:Unit=>⟨[[dB false,.nil,dS []],[dS v17.2.s,dI v17.2.at_,dB v17.2.b.Skip,.own 0 (zA az v17.2.b.Words),dS v17.2.b.Comment]],[(168,v17.2.b.Words.length)]⟩) (some ())) λ(v21:Unit)=>if (v17.2.at_==(v17.2.s.length:Int))=true then some (.ret (0,v17.2))else ac (iF 207 (λv22:Bool×Int=>.d (.bool v22.1)) (λv22:Bool×Int=>⟨[[dB false,.nil,dS []],[dS v17.2.s,dI v22.2,dB v17.2.b.Skip,.own 0 (zA az v17.2.b.Words),dS v17.2.b.Comment]],[(168,v17.2.b.Words.length)]⟩) (ac (ac (iF 208 (λv23:Unit=>.d (.bool (v17.2.at_==(v17.2.s.length:Int)))) (λv23:Unit=>⟨[[dB false,.nil,dS []],[dS v17.2.s,dI v17.2.at_,dB v17.2.b.Skip,.own 0 (zA az v17.2.b.Words),dS v17.2.b.Comment]],[(168,v17.2.b.Words.length)]⟩) (some ())) λ(v23:Unit)=>if (v17.2.at_==(v17.2.s.length:Int))=true then some true else ac (gt v17.2.s v17.2.at_) λ(c7:UInt8)=>some ((c7.toNat:Int) != 32)) λ(v24:Bool)=>jR 1 ([.ptr 1 0]++us 18++[dB v24]++us 7) ⟨[[dB false,.nil,dS []],[dS v17.2.s,dI v17.2.at_,dB v17.2.b.Skip,.own 0 (zA az v17.2.b.Words),dS v17.2.b.Comment]],[(168,v17.2.b.Words.length)]⟩ ( if v24=true then some (false,v17.2.at_)else some (true,zO.wrap (v17.2.at_+1))))) λ(v22:Bool×Int)=>if (!v22.1)=true then some (.ret (2,cc.mk v17.2.s v22.2 v17.2.b))else some (.go (true,cc.mk v17.2.s v22.2 v17.2.b)))) fuel (false,cc.mk a0 v2.2 (ae.mk v2.1 [] []))))) λ(v1:Int×cc)=>if (v1.1 != 0)=true then some (ae.mk false [] [],v1.2.at_,v1.1)else some (v1.2.b,0,0)
theorem bk_Parse_spec{a0:(List UInt8)}{y:ae×Int×Int}(h:bk_Parse a0=some y):Spec gP 62 [dS a0] (.tuple [.agg [.d (.bool y.1.Skip),.d (.list (zA az y.1.Words)),.d (.str y.1.Comment)],.d (.int .i64 y.2.1),.d (.int .i64 y.2.2)]):=by
 refine auA Tryz.func62 (λy:ae×Int×Int=>.tuple [.agg [.d (.bool y.1.Skip),.d (.list (zA az y.1.Words)),.d (.str y.1.Comment)],.d (.int .i64 y.2.1),.d (.int .i64 y.2.2)]) ?_ h
 unfold bk_Parse
 refine .sA ?_
 refine .seqK (.sA ?_)
 refine .cond rfl (λhb2=>?_) (λhb2=>?_)
 exact zzA
 refine .skip (Mir.toK (.sA ?_))
 refine .seqK (.seqK (.bind λv1 h1=>.region λe h=>WA ?_))
 refine bf.inlA h1 ?_ ?_
 refine Mir.gF rfl (.sA ?_)
 refine .seqK (.bind λv2 h2=>.region λe h=>WA ?_)
 refine bf.inlA h2 ?_ ?_
 refine .sA ?_
 refine .seqK (.seqK (Mir.jOR (λ_=>rfl) ?_ ?_))
 refine .bind λv3 h3=>.ite (λh4=>?_) (λh4=>?_)
 refine Mir.regionA 1 [] ([.ptr 1 0,.d (.int .u8 47),U,U,dB false,.ptr 1 0,dB (0==(a0.length:Int)),dB (0==(a0.length:Int)),.skip,.skip,.skip,.skip,.skip,.skip,.skip,.skip,.skip,.skip,.skip,dB true]++us 7) ⟨[[dB false,.nil,dS []],[dS a0,dI 0,dB false,.own 0 (zA az []),dS []]],[(168,0)]⟩ (by kernel_rfl) (λe h=>?_) (λe h=>?_)
 simp only[seval,EMA,SB,h4]
 refine regA.one (j:=1) (by kernel_rfl) rfl (regW.of ?_)
 simp only[seval,EMA,h4]
 refine bf.inlA h3 ?_ ?_
 exact zzA
 simp only[seval,EMA,h4]
 refine regA.draw 2 [] (by kernel_rfl) ?_
 simp only[seval,EMA,SB,h4]
 exact⟨rfl,rfl⟩
 exact zzA
 refine .bind λc1 q1=>?_
 replace q1:=gq q1
 simp only[Int.reduceToNat,Int.reduceLT,Nat.sub_zero,dp0]at q1
 refine Mir.regionA 1 [] ([.ptr 1 0,.d (.int .u8 47),U,U,dB false,.ptr 1 0,dB (0==(a0.length:Int)),dB (0==(a0.length:Int)),.ptr 1 0,.ptr 1 0,.ptr 1 0,dS a0,.ptr 1 0,.ptr 1 0,.ptr 1 1,dI 0,.d (.int .u8 (c1.toNat:Int)),.d (.int .u8 47),dB ((c1.toNat:Int) != 47),dB ((c1.toNat:Int) != 47)]++us 7) ⟨[[dB false,.nil,dS []],[dS a0,dI 0,dB false,.own 0 (zA az []),dS []]],[(168,0)]⟩ (by kernel_rfl) (λe h=>?_) (λe h=>?_)
 simp only[seval,EMA,SB,h4]
 refine regA.one (j:=1) (by kernel_rfl) rfl (regW.of ?_)
 simp only[seval,EMA,h4]
 refine bf.inlA h3 ?_ ?_
 exact zzA
 simp only[seval,EMA,h4]
 refine regA.draw 2 [] (by kernel_rfl) ?_
 simp only[seval,EMA,SB,q1,h4]
 exact⟨rfl,rfl⟩
 exact zzA
 exact zzA
 simp only[seval,EMA]
 refine mU e (.sA ?_) h
 refine .block (Mir.lF (λ_=>rfl) (by simp only[seval,FMA]) (by simp only[seval,FMA]) λv5=>.seqK (.block (.seqK (.block (.seqK (.bind λv6 h6=>.region λe h=>WA ?_))))))
 refine bf.inlA h6 ?_ ?_
 exact zzA
 simp only[seval,EMA]
 refine mU e (.cond rfl (λh7=>?_) (λh7=>?_)) h
 exact zzA
 refine .seqK (.bind λc2 q2=>?_)
 replace q2:=gq q2
 refine .regionD [] (by kernel_rfl) λe h=>?_
 simp only[seval,EMA,SB,q2]
 refine mU e (.cond rfl (λh9=>?_) (λh9=>?_)) h
 refine .seqK (.bind λv7 h10=>.region λe h=>WA ?_)
 refine bf.inlA h10 ?_ ?_
 refine .sA ?_
 refine .sA ?_
 refine .sA ?_
 refine .seqK (Mir.jOB (λ_=>rfl) ?_ ?_)
 refine .block (Mir.lF (λ_=>rfl) (by simp only[seval,FMA]) (by simp only[seval,FMA]) λv8=>.seqK (.seqK (Mir.jOR (λ_=>rfl) ?_ ?_)))
 refine .bind λv9 h11=>.ite (λh12=>?_) (λh12=>?_)
 refine Mir.regionA 1 [] ([.ptr 1 0,U,U,dI v5.2.at_]++us 12++[.ptr 1 0,dB (v8==(v5.2.s.length:Int)),dB (!(v8==(v5.2.s.length:Int))),dB (!(v8==(v5.2.s.length:Int))),.skip,.skip,.skip,.skip,.skip,.skip,.skip,.skip,.skip,.skip,dB false]++us 40) ⟨[[dB false,.nil,dS []],[dS v5.2.s,dI v8,dB v5.2.b.Skip,.own 0 (zA az v5.2.b.Words),dS v5.2.b.Comment]],[(168,v5.2.b.Words.length)]⟩ (by kernel_rfl) (λe h=>?_) (λe h=>?_)
 simp only[seval,EMA,SB,h12]
 refine regA.one (j:=1) (by kernel_rfl) rfl (regW.of ?_)
 simp only[seval,EMA,h12]
 refine bf.inlA h11 ?_ ?_
 refine .sA ?_
 refine .seqK (.regionD [] (by kernel_rfl) λe h=>?_)
 simp only[seval,EMA,SB]
 exact zzA
 simp only[seval,EMA,h12]
 refine regA.draw 2 [] (by kernel_rfl) ?_
 simp only[seval,EMA,SB,h12]
 exact⟨rfl,rfl⟩
 exact zzA
 refine .bind λc3 q3=>?_
 replace q3:=gq q3
 refine .bind λy1 h13=>Mir.regionA 1 [] ([.ptr 1 0,U,U,dI v5.2.at_]++us 12++[.ptr 1 0,dB (v8==(v5.2.s.length:Int)),dB (!(v8==(v5.2.s.length:Int))),dB (!(v8==(v5.2.s.length:Int))),.ptr 1 0,.ptr 1 0,.ptr 1 0,dS v5.2.s,.ptr 1 0,.ptr 1 0,.ptr 1 1,dI v8,.d (.int .u8 (c3.toNat:Int)),dB y1,dB y1]++us 40) ⟨[[dB false,.nil,dS []],[dS v5.2.s,dI v8,dB v5.2.b.Skip,.own 0 (zA az v5.2.b.Words),dS v5.2.b.Comment]],[(168,v5.2.b.Words.length)]⟩ (by kernel_rfl) (λe h=>?_) (λe h=>?_)
 simp only[seval,EMA,SB,h12]
 refine regA.one (j:=1) (by kernel_rfl) rfl (regW.of ?_)
 simp only[seval,EMA,h12]
 refine bf.inlA h11 ?_ ?_
 exact zzA
 simp only[seval,EMA,h12]
 refine regA.draw 2 [] (by kernel_rfl) ?_
 simp only[seval,EMA,SB,q3,h12]
 refine Spec.by (bk_printable_spec.1 _ h13) (by simp only[seval,FMA,h12]) ?_
 simp only[seval,EMA,SB,h12]
 exact⟨rfl,rfl⟩
 exact zzA
 exact zzA
 intro v11
 refine Mir.toK (.seqK (.bind λs1 q4=>?_))
 replace q4:=cutL_ok q4
 refine .regionD [] (by kernel_rfl) λe h=>?_
 simp only[seval,EMA,SB,q4,Nat.le_refl,and_true,true_and,dm,tm]
 refine mU e (.seqK (.sA ?_)) h
 refine .cond rfl (λh15=>?_) (λh15=>?_)
 exact zzA
 refine .skip (Mir.toK (.seqK (.seqK (Mir.jOR (λ_=>rfl) ?_ ?_))))
 refine .ite (λh16=>?_) (λh16=>?_)
 exact zzA
 refine .bind λv12 h17=>.region λe h=>?_
 simp only[seval,EMA,h16]
 refine bf.inlA h17 ?_ ?_
 refine .sA ?_
 refine .seqK (.seqK (Mir.jOR (λ_=>rfl) ?_ ?_))
 refine .bind λv13 h18=>.ite (λh19=>?_) (λh19=>?_)
 refine Mir.regionA 1 [] ([.ptr 1 0,.d (.int .u8 41),U,U,dB false,.ptr 1 0,dB (v11==(v5.2.s.length:Int)),dB (v11==(v5.2.s.length:Int)),.skip,.skip,.skip,.skip,.skip,.skip,.skip,.skip,.skip,.skip,.skip,dB true]++us 7) ⟨[[dB false,.nil,dS []],[dS v5.2.s,dI v11,dB v5.2.b.Skip,.own 0 (zA az v5.2.b.Words),dS v5.2.b.Comment]],[(168,v5.2.b.Words.length)]⟩ (by kernel_rfl) (λe h=>?_) (λe h=>?_)
 simp only[seval,EMA,SB,h19]
 refine regA.one (j:=1) (by kernel_rfl) rfl (regW.of ?_)
 simp only[seval,EMA,h19]
 refine bf.inlA h18 ?_ ?_
 exact zzA
 simp only[seval,EMA,h19]
 refine regA.draw 2 [] (by kernel_rfl) ?_
 simp only[seval,EMA,SB,h19]
 exact⟨rfl,rfl⟩
 exact zzA
 refine .bind λc4 q5=>?_
 replace q5:=gq q5
 refine Mir.regionA 1 [] ([.ptr 1 0,.d (.int .u8 41),U,U,dB false,.ptr 1 0,dB (v11==(v5.2.s.length:Int)),dB (v11==(v5.2.s.length:Int)),.ptr 1 0,.ptr 1 0,.ptr 1 0,dS v5.2.s,.ptr 1 0,.ptr 1 0,.ptr 1 1,dI v11,.d (.int .u8 (c4.toNat:Int)),.d (.int .u8 41),dB ((c4.toNat:Int) != 41),dB ((c4.toNat:Int) != 41)]++us 7) ⟨[[dB false,.nil,dS []],[dS v5.2.s,dI v11,dB v5.2.b.Skip,.own 0 (zA az v5.2.b.Words),dS v5.2.b.Comment]],[(168,v5.2.b.Words.length)]⟩ (by kernel_rfl) (λe h=>?_) (λe h=>?_)
 simp only[seval,EMA,SB,h19]
 refine regA.one (j:=1) (by kernel_rfl) rfl (regW.of ?_)
 simp only[seval,EMA,h19]
 refine bf.inlA h18 ?_ ?_
 exact zzA
 simp only[seval,EMA,h19]
 refine regA.draw 2 [] (by kernel_rfl) ?_
 simp only[seval,EMA,SB,q5,h19]
 exact⟨rfl,rfl⟩
 exact zzA
 exact zzA
 exact zzA
 exact zzA
 exact zzA
 refine .skip (Mir.toB (Mir.toK (.seqK (.seqK (.bind λv17 h24=>.region λe h=>WA ?_)))))
 refine bf.inlA h24 ?_ ?_
 refine .sA ?_
 refine .seqK (.bind λc5 q6=>?_)
 replace q6:=gq q6
 refine .regionD [] (by kernel_rfl) λe h=>?_
 simp only[seval,EMA,SB,q6]
 refine mU e (.seqK (.seqK (Mir.jV rfl ?_ ?_))) h
 exact zzA
 refine Mir.toK (.cond rfl (λh26=>?_) (λh26=>?_))
 exact zzA
 refine .skip (Mir.toK (.seqK (.sA ?_)))
 refine .cond rfl (λh27=>?_) (λh27=>?_)
 exact zzA
 refine .skip (Mir.toK (.sA ?_))
 refine .seqK (Mir.jOB (λ_=>rfl) ?_ ?_)
 refine .block (Mir.lF (λ_=>rfl) (by simp only[seval,FMA]) (by simp only[seval,FMA]) λv18=>.seqK (.seqK (Mir.jOR (λ_=>rfl) ?_ ?_)))
 refine .ite (λh28=>?_) (λh28=>?_)
 refine .bind λc6 q7=>?_
 replace q7:=gq q7
 refine .ite (λh29=>?_) (λh29=>?_)
 refine .ite (λh30=>?_) (λh30=>?_)
 exact zzA
 refine .ite (λh31=>?_) (λh31=>?_)
 exact zzA
 exact zzA
 refine .ite (λh32=>?_) (λh32=>?_)
 exact zzA
 refine .region λe h=>?_
 simp only[seval,EMA,q7,h28,h29,h32]
 cases h
 simp only[seval,FMA,h28,h29,h32]
 refine .region λe h=>?_
 simp only[seval,EMA,h28]
 cases h
 simp only[seval,FMA,h28]
 intro v19
 refine Mir.toK (.cond rfl (λh33=>?_) (λh33=>?_))
 refine .skip (Mir.toK (.block (.rA)))
 refine .exit QA
 intro v20
 refine Mir.toK (.seqK (.bind λs2 q8=>?_))
 replace q8:=cutL_ok q8
 refine .bind λy2 h34=>.regionD [] (by kernel_rfl) λe h=>?_
 simp only[seval,EMA,SB,q8,Nat.le_refl,and_true,true_and,dm,tm]
 refine Spec.by (bk_Value_spec.1 _ h34) (by simp only[seval,FMA]) ?_
 simp only[seval,EMA,SB]
 refine mU e (.seqK (.sA ?_)) h
 refine .cond rfl (λh35=>?_) (λh35=>?_)
 refine .sA ?_
 refine .ret QA
 refine .skip (Mir.toK (.seqK (.guard λq9=>.region λe h=>?_)))
 simp only[seval,EMA,(oL 2),q9]
 refine mU e (.sA ?_) h
 refine .sA ?_
 refine .ret QA
 simp only[seval,EMA]
 refine mU e (.sA ?_) h
 refine .cond rfl (λh36=>?_) (λh36=>?_)
 refine .sA ?_
 refine .ret QA
 refine .skip (Mir.toK (.seqK (.seqK (.bind λv21 h37=>.region λe h=>WA ?_))))
 refine bf.inlA h37 ?_ ?_
 refine .sA ?_
 refine .seqK (.regionD [] (by kernel_rfl) λe h=>?_)
 simp only[seval,EMA,SB]
 refine mU e (.ret QA) h
 simp only[seval,EMA]
 refine mU e (.cond rfl (λh38=>?_) (λh38=>?_)) h
 refine .sA ?_
 refine .ret QA
 refine .skip (Mir.toK (.seqK (.bind λv22 h39=>.region λe h=>WA ?_)))
 refine bf.inlA h39 ?_ ?_
 refine .sA ?_
 refine .seqK (.seqK (Mir.jOR (λ_=>rfl) ?_ ?_))
 refine .bind λv23 h40=>.ite (λh41=>?_) (λh41=>?_)
 refine Mir.regionA 1 [] ([.ptr 1 0,.d (.int .u8 32),U,U,dB false,.ptr 1 0,dB (v17.2.at_==(v17.2.s.length:Int)),dB (v17.2.at_==(v17.2.s.length:Int)),.skip,.skip,.skip,.skip,.skip,.skip,.skip,.skip,.skip,.skip,.skip,dB true]++us 7) ⟨[[dB false,.nil,dS []],[dS v17.2.s,dI v17.2.at_,dB v17.2.b.Skip,.own 0 (zA az v17.2.b.Words),dS v17.2.b.Comment]],[(168,v17.2.b.Words.length)]⟩ (by kernel_rfl) (λe h=>?_) (λe h=>?_)
 simp only[seval,EMA,SB,h41]
 refine regA.one (j:=1) (by kernel_rfl) rfl (regW.of ?_)
 simp only[seval,EMA,h41]
 refine bf.inlA h40 ?_ ?_
 refine .sA ?_
 refine .seqK (.regionD [] (by kernel_rfl) λe h=>?_)
 simp only[seval,EMA,SB]
 refine mU e (.ret QA) h
 simp only[seval,EMA,h41]
 refine regA.draw 2 [] (by kernel_rfl) ?_
 simp only[seval,EMA,SB,h41]
 exact⟨rfl,rfl⟩
 cases h
 simp only[seval,FMA,h41]
 refine .bind λc7 q10=>?_
 replace q10:=gq q10
 refine Mir.regionA 1 [] ([.ptr 1 0,.d (.int .u8 32),U,U,dB false,.ptr 1 0,dB (v17.2.at_==(v17.2.s.length:Int)),dB (v17.2.at_==(v17.2.s.length:Int)),.ptr 1 0,.ptr 1 0,.ptr 1 0,dS v17.2.s,.ptr 1 0,.ptr 1 0,.ptr 1 1,dI v17.2.at_,.d (.int .u8 (c7.toNat:Int)),.d (.int .u8 32),dB ((c7.toNat:Int) != 32),dB ((c7.toNat:Int) != 32)]++us 7) ⟨[[dB false,.nil,dS []],[dS v17.2.s,dI v17.2.at_,dB v17.2.b.Skip,.own 0 (zA az v17.2.b.Words),dS v17.2.b.Comment]],[(168,v17.2.b.Words.length)]⟩ (by kernel_rfl) (λe h=>?_) (λe h=>?_)
 simp only[seval,EMA,SB,h41]
 refine regA.one (j:=1) (by kernel_rfl) rfl (regW.of ?_)
 simp only[seval,EMA,h41]
 refine bf.inlA h40 ?_ ?_
 refine .sA ?_
 refine .seqK (.regionD [] (by kernel_rfl) λe h=>?_)
 simp only[seval,EMA,SB]
 refine mU e (.ret QA) h
 simp only[seval,EMA,h41]
 refine regA.draw 2 [] (by kernel_rfl) ?_
 simp only[seval,EMA,SB,q10,h41]
 exact⟨rfl,rfl⟩
 cases h
 simp only[seval,FMA,h41]
 intro v24
 refine Mir.toK (.cond rfl (λh42=>?_) (λh42=>?_))
 refine .sA ?_
 refine .ret QA
 refine .skip (Mir.toK (.sA ?_))
 refine .sA ?_
 refine .ret QA
 simp only[seval,EMA]
 refine mU e (.cond rfl (λh43=>?_) (λh43=>?_)) h
 refine .sA ?_
 refine .ret QA
 refine .skip (Mir.toB (Mir.toK (.rA)))
 simp only[seval,EMA]
 refine mU e (.sA ?_) h
 refine .cond rfl (λh44=>?_) (λh44=>?_)
 refine .seqK (.regionD [(17,2)] (by kernel_rfl) λe h=>?_)
 simp only[seval,EMA,SB]
 refine mU e (.ret QA) h
 refine .skip (Mir.toK (.sA ?_))
 refine .ret QA
instance:Sp 62 (type_of% @bk_Parse_spec):=⟨@bk_Parse_spec⟩
def kV(a0:(List UInt8)):Option ((List ae)×Int×Int):=ac (if (decide ((a0.length:Int)>65536))=true then some true else ac (fX a0 [10]) λ(y1:Int)=>if (decide (y1>20000))=true then some true else ac (fX a0 [10]) λ(y2:Int)=>if (y2==20000)=true then ac (gZ a0 [10]) λ(y3:Bool)=>some (!y3)else some false) λ(v1:Bool)=>jR 1 ([dS a0]++us 29++[dB v1]++us 28) ⟨[],[]⟩ ( if v1=true then some ([],0,3)else gF [.slot 5 137] ( bindX (dR (λ(v2:(List UInt8)×(List ae)×Int)=>lF ([dS v2.1,U,U,U,U,.own 0 (zA al v2.2.1),dI v2.2.2]++us 52) ⟨[],[(137,v2.2.1.length)]⟩ ( if (!(v2.1==[]))=true then ac (gG v2.1 [10]) λ(y4:(List UInt8)×(List UInt8)×Bool)=>ac (bk_Parse y4.1) λ(y5:ae×Int×Int)=>ac (if (!y4.2.2)=true then some 2 else some y5.2.2) λ(v3:Int)=>jC ([U,U,U,U,U,.own 0 (zA al v2.2.1),dI v2.2.2,U,dS y4.2.1,U,.ptr 0 0,U,dI v3]++us 46) ⟨[(cB y5.1)],[(137,v2.2.1.length)]⟩ ( if (v3 != 0)=true then some (.ret (.ret ([],v2.2.2,v3)))else aA (cd (v2.2.1.length+1)) ( some (.go (y4.2.1,v2.2.1++[y5.1],zO.wrap (v2.2.2+1)))))else some (.ret (.go v2.2.1)))) fuel (a0,[],1)) λ(v4:(List ae))=>jB 0 ([U,U,U,U,U,.own 0 (zA al v4)]++us 53) ⟨[],[(137,v4.length)]⟩ ( some (v4,0,0))))
theorem pg{a0:(List UInt8)}{y:(List ae)×Int×Int}(h:kV a0=some y):Spec gP 24 [dS a0] (.tuple [.d (.list (zA al y.1)),.d (.int .i64 y.2.1),.d (.int .i64 y.2.2)]):=by
 refine auA Tryz.func24 (λy:(List ae)×Int×Int=>.tuple [.d (.list (zA al y.1)),.d (.int .i64 y.2.1),.d (.int .i64 y.2.2)]) ?_ h
 unfold kV
 refine .sA ?_
 refine .seqK (.seqK (Mir.jOR (λ_=>rfl) ?_ ?_))
 refine .ite (λhb1=>?_) (λhb1=>?_)
 exact zzA
 refine .bind λy1 hy2=>.ite (λhb3=>?_) (λhb3=>?_)
 exact zzA
 refine .bind λy2 hy4=>.ite (λhb5=>?_) (λhb5=>?_)
 refine .bind λy3 hy6=>.region λe h=>?_
 simp only[seval,EMA,hb1,hb3,hb5]
 refine bf.by (gz hy2) (by simp only[seval,FMA,hb1,hb3,hb5]) ?_
 exact zzA
 refine .region λe h=>?_
 simp only[seval,EMA,hb1,hb3,hb5]
 refine bf.by (gz hy2) (by simp only[seval,FMA,hb1,hb3,hb5]) ?_
 exact zzA
 exact zzA
instance:Sp 24 (type_of% @pg):=⟨@pg⟩
def ie(a0:ae)(a1:Int):Option (List Int):=gF [.slot 5 2] ( ac (aA (dN a0.Words) ( aM (λ(i1:Nat) (e1:aC) (v1:(List Int))=>rF ([U,.d (.int .u8 a1),U,U,U,.own 0 (zA (eInt .i64) v1),U,U,U,dL az a0.Words,dI (a0.Words.length:Int),dI (i1:Int)]++us 14) ⟨[(cB a0)],[(2,v1.length)]⟩ ( ac (if (e1.Letter==a1)=true then aA (cd (v1.length+1)) ( some (v1++[e1.Value]))else some v1) λ(v2:(List Int))=>jB 1 ([U,.d (.int .u8 a1),U,U,U,.own 0 (zA (eInt .i64) v2),U,U,U,dL az a0.Words,dI (a0.Words.length:Int),dI (i1:Int)]++us 14) ⟨[(cB a0)],[(2,v2.length)]⟩ ( some (.go v2)))) (λ(v1:(List Int))=>some v1) a0.Words 0 [])) λ(v3:(List Int))=>jB 0 ([U,U,U,U,U,.own 0 (zA (eInt .i64) v3)]++us 20) ⟨[(cB a0)],[(2,v3.length)]⟩ ( some v3))
instance bk_Codes_spec:Sp 78 (∀{a0:ae} {a1:Int},Ct 78 [.agg (cB a0),.d (.int .u8 a1)] (λy:(List Int)=>.d (.list (zA (eInt .i64) y))) (ie a0 a1)):=⟨zzF Tryz.func78 (ie.eq_1 ..)⟩
def dw(a0:(List Int))(a1:Int):Option Int:=bindX (aA (dN a0) ( aM (λ(i1:Nat) (e1:Int) (v1:Unit)=>rF ([dL (eInt .i64) a0,dI a1,U,U,U,U,U,dI (a0.length:Int),dI (i1:Int)]++us 10) ⟨[],[]⟩ ( if (a1==e1)=true then some (.ret (.ret (i1:Int)))else some (.go ()))) (λ(v1:Unit)=>some (.go ())) a0 0 ())) λ(v2:Unit)=>jB 0 (us 19) ⟨[],[]⟩ ( some (-1))
instance slices_Index_int64_int64_spec:Sp 164 (∀{a0:(List Int)} {a1:Int},Ct 164 [.d (.list (zA (eInt .i64) a0)),dI a1] (λy:Int=>.d (.int .i64 y)) (dw a0 a1)):=⟨zzF Tryz.func164 (dw.eq_1 ..)⟩
def aW(a0:(List Int))(a1:Int):Option Bool:=ac (dw a0 a1) λ(y1:Int)=>some (decide (y1≥0))
instance slices_Contains_int64_int64_spec:Sp 77 (∀{a0:(List Int)} {a1:Int},Ct 77 [.d (.list (zA (eInt .i64) a0)),dI a1] (λy:Bool=>.d (.bool y)) (aW a0 a1)):=⟨zzF Tryz.func77 (aW.eq_1 ..)⟩
def qf(a0:ae)(a1:Int)(a2:Int):Option Bool:=ac (ie a0 a1) λ(y1:(List Int))=>ac (aW y1 a2) λ(y2:Bool)=>some y2
instance sp_has_spec:Sp 65 (∀{a0:ae} {a1:Int} {a2:Int},Ct 65 [.agg (cB a0),.d (.int .u8 a1),dI a2] (λy:Bool=>.d (.bool y)) (qf a0 a1 a2)):=⟨zzF Tryz.func65 (qf.eq_1 ..)⟩
def jH(a0:ae):Option Bool:=ac (qf a0 77 30000) λ(y1:Bool)=>some y1
instance sp_Split_c1_spec:Sp 64 (∀{a0:ae},Ct 64 [.agg (cB a0)] (λy:Bool=>.d (.bool y)) (jH a0)):=⟨zzF Tryz.func64 (jH.eq_1 ..)⟩
def cz(a0:List ae):Option (List ae):=aA (cd a0.length) (some a0)
variable {c0:Nat}{y:List ae}
theorem iV(h:(some [])=some y):Spec gP 66 [.d (.other (.slice none 0 c0))] (.d (.list (zA al y))):=by
 refine lU Tryz.func66 rfl (by kernel_rfl) (by kernel_rfl) (λy:List ae=>.d (.list (zA al y))) ?_ h
 simp only[zI,zJ,nS,nA,Tryz.ntmps66,SV]
 refine .sA ?_
 refine .seqK (.sA ?_)
 refine .condT rfl (.sA ?_)
 refine .ret QA
variable {p0:Addr}
theorem iU(h:(some [])=some y):Spec gP 66 [.d (.other (.slice (some p0) 0 c0))] (.d (.list (zA al y))):=by
 refine lU Tryz.func66 rfl (by kernel_rfl) (by kernel_rfl) (λy:List ae=>.d (.list (zA al y))) ?_ h
 simp only[zI,zJ,nS,nA,Tryz.ntmps66,SV]
 refine .sA ?_
 refine .seqK (.sA ?_)
 refine .condF rfl (.skip (Mir.toK (.sR λe h=>?_)))
 simp only[seval,EMA,(oL 0),zL,zM]
 refine mU e (.ret QA) h
theorem iW{x0:ae}{l0:List ae}(h:(aA (cd ((x0::l0).length)) (   some (x0::l0)))=some y):Spec gP 66 [.d (.list (zA al (x0::l0)))] (.d (.list (zA al y))):=by
 refine lU Tryz.func66 rfl (by kernel_rfl) (by kernel_rfl) (λy:List ae=>.d (.list (zA al y))) ?_ h
 simp only[zI,zJ,nS,nA,Tryz.ntmps66,SV]
 refine .sA ?_
 refine .seqK (.sA ?_)
 refine .condF rfl (.skip (Mir.toK (.seqK (.guard λq1=>.region λe h=>?_))))
 simp only[seval,EMA,(oL 0),q1]
 refine mU e (.ret QA) h
theorem eV{a0:List ae}{y:List ae}(h:cz a0=some y):Spec gP 66 [.d (.list (zA al a0))] (.d (.list (zA al y))):=by
 obtain⟨hl,h⟩:=gi h
 cases h
 cases a0 with
 | nil =>
  refine Spec.nilcase λA c=>?_
  cases A with
  | none=>exact iV rfl
  | some p=>exact iU rfl
 | cons x l=>exact iW (by simp only[aA,hl])
instance:Sp 66 (type_of% @eV):=⟨@eV⟩
def mG(a0:ae):Option Bool:=ac (ac (ie a0 79) λ(y1:(List Int))=>if (decide ((y1.length:Int)>0))=true then some true else ac (qf a0 77 30000) λ(y2:Bool)=>if y2=true then some true else ac (qf a0 77 99000) λ(y3:Bool)=>some y3) λ(v1:Bool)=>jR 1 ([U,U,dB v1]++us 12) ⟨[(cB a0)],[]⟩ ( some v1)
instance sp_marked_spec:Sp 149 (∀{a0:ae},Ct 149 [.agg (cB a0)] (λy:Bool=>.d (.bool y)) (mG a0)):=⟨zzF Tryz.func149 (mG.eq_1 ..)⟩
def nu(a0:dg):Option Bool:=none
instance sp_ordered_c1_spec:Sp 151 (∀{a0:dg},Ct 151 [.agg (cO a0)] (λy:Bool=>.d (.bool y)) (nu a0)):=⟨zzF Tryz.func151 (nu.eq_1 ..)⟩
def kM(a0:bz):Option Bool:=ac (if (decide ((zO.wrap ((a0.Main.length:Int)-1))<0))=true then some true else ac (gt a0.Main (zO.wrap ((a0.Main.length:Int)-1))) λ(e1:ae)=>ac (qf e1 77 30000) λ(y1:Bool)=>if y1=true then ac (ie e1 79) λ(y2:(List Int))=>if (decide ((y2.length:Int)>0))=true then some true else ac (qf e1 77 99000) λ(y3:Bool)=>if y3=true then some true else ac (cutT a0.Main (zO.wrap ((a0.Main.length:Int)-1))) λ(s1:(List ae))=>ac (iF 148 (λv1:Bool=>.d (.bool v1)) (λv1:Bool=>⟨[(cA a0)],[]⟩) (ac (iF 63 (λv2:Int=>.d (.int .i64 v2)) (λv2:Int=>⟨[(cA a0)],[]⟩) (bindX (aA (dN s1) ( aM (λ(i1:Nat) (e2:ae) (v3:Unit)=>rF ([dL al s1,.fn 149 [],U,U,U,U,U,dI (s1.length:Int),dI (i1:Int)]++us 10) ⟨[(cA a0)],[]⟩ ( ac (mG e2) λ(y4:Bool)=>if y4=true then some (.ret (.ret (i1:Int)))else some (.go ()))) (λ(v3:Unit)=>some (.go ())) s1 0 ())) λ(v4:Unit)=>jB 0 (us 19) ⟨[(cA a0)],[]⟩ ( some (-1)))) λ(v2:Int)=>some (decide (v2≥0)))) λ(v1:Bool)=>some v1 else some true) λ(v5:Bool)=>jR 2 ([U,.ptr 0 0]++us 41++[dB v5]++us 4) ⟨[(cA a0)],[]⟩ ( if v5=true then some false else ac (iF 150 (λv6:Bool=>.d (.bool v6)) (λv6:Bool=>⟨[(cA a0)],[]⟩) (ac (iF 211 (λv7:Int=>.d (.int .i64 v7)) (λv7:Int=>⟨[(cA a0)],[]⟩) (bindX (aA (dN a0.Subs) ( aM (λ(i2:Nat) (e3:dg) (v8:Unit)=>rF ([dL bV a0.Subs,.fn 151 [],U,U,U,U,U,dI (a0.Subs.length:Int),dI (i2:Int)]++us 10) ⟨[(cA a0)],[]⟩ ( ac (nu e3) λ(y5:Bool)=>if y5=true then some (.ret (.ret (i2:Int)))else some (.go ()))) (λ(v8:Unit)=>some (.go ())) a0.Subs 0 ())) λ(v9:Unit)=>jB 0 (us 19) ⟨[(cA a0)],[]⟩ ( some (-1)))) λ(v7:Int)=>some (decide (v7≥0)))) λ(v6:Bool)=>some (!v6))
theorem ot{a0:bz}{y:Bool}(h:kM a0=some y):Spec gP 70 [.agg [.d (.list (zA al a0.Main)),.d (.list (zA bV a0.Subs))]] (.d (.bool y)):=by
 refine auA Tryz.func70 (λy:Bool=>.d (.bool y)) ?_ h
 unfold kM
 refine .sA ?_
 refine .sA ?_
 refine .seqK (.seqK (Mir.jOR (λ_=>rfl) ?_ ?_))
 refine .ite (λhb1=>?_) (λhb1=>?_)
 exact zzA
 refine .bind λe1 q2=>?_
 replace q2:=gq q2
 refine .bind λy1 hy3=>.ite (λhb4=>?_) (λhb4=>?_)
 refine .bind λy2 hy5=>.ite (λhb6=>?_) (λhb6=>?_)
 exact zzA
 refine .bind λy3 hy7=>.ite (λhb8=>?_) (λhb8=>?_)
 exact zzA
 refine .bind λs1 q9=>?_
 replace q9:=cutT_ok q9
 exact zzA
 exact zzA
 exact zzA
instance:Sp 70 (type_of% @ot):=⟨@ot⟩
def jG(a0:(List dg)):Option Bool:=ac (dR (λ(v1:Unit)=>lF ([dL bV a0,U,U,U,U,dL bV a0,dI (a0.length:Int),dI 0]++us 10) ⟨[],[]⟩ ( if (decide (0<(a0.length:Int)))=true then ac (gt a0 0) λ(e1:dg)=>none else some (.ret ()))) fuel ()) λ(v2:Unit)=>jB 0 (us 18) ⟨[],[]⟩ ( some false)
instance sp_repeated_spec:Sp 71 (∀{a0:(List dg)},Ct 71 [.d (.list (zA bV a0))] (λy:Bool=>.d (.bool y)) (jG a0)):=⟨zzF Tryz.func71 (jG.eq_1 ..)⟩
def nv(a0:(List ae)):Option (bz×Int):=ac (iF 63 (λv1:Int=>.d (.int .i64 v1)) (λv1:Int=>⟨[[.nil,.nil]],[]⟩) (bindX (aA (dN a0) ( aM (λ(i1:Nat) (e1:ae) (v2:Unit)=>rF ([dL al a0,.fn 64 [],U,U,U,U,U,dI (a0.length:Int),dI (i1:Int)]++us 10) ⟨[[.nil,.nil]],[]⟩ ( ac (jH e1) λ(y1:Bool)=>if y1=true then some (.ret (.ret (i1:Int)))else some (.go ()))) (λ(v2:Unit)=>some (.go ())) a0 0 ())) λ(v3:Unit)=>jB 0 (us 19) ⟨[[.nil,.nil]],[]⟩ ( some (-1)))) λ(v1:Int)=>if (decide (v1<0))=true then none else ac (cutT a0 (zO.wrap (v1+1))) λ(s1:(List ae))=>ac (cz s1) λ(y2:(List ae))=>ac (cutF a0 (zO.wrap (v1+1))) λ(s2:(List ae))=>ac (dR (λ(v4:Unit)=>lF ([U,U,.ptr 0 0,U,U,.ptr 1 0,dL al s2]++us 61) ⟨[[.nil,.nil],[dL al y2,.nil]],[]⟩ ( if (decide ((s2.length:Int)>0))=true then none else some (.ret ()))) fuel ()) λ(v5:Unit)=>jB 0 ([U,U,.ptr 0 0,U,U,.ptr 1 0]++us 62) ⟨[[.nil,.nil],[dL al y2,.nil]],[]⟩ ( ac (kM (bz.mk y2 [])) λ(y3:Bool)=>if (!y3)=true then none else ac (jG []) λ(y4:Bool)=>if y4=true then none else some (bz.mk y2 [],0))
instance sp_Split_spec:Sp 25 (∀{a0:(List ae)},Ct 25 [.d (.list (zA al a0))] (λy:bz×Int=>.tuple [.agg [.d (.list (zA al y.1.Main)),.d (.list (zA bV y.1.Subs))],.d (.int .i64 y.2)]) (nv a0)):=⟨zzF Tryz.func25 (nv.eq_1 ..)⟩
def mF(a0:bz):Option Bool:=bindX (aA (dN a0.Subs) ( aM (λ(i1:Nat) (e1:dg) (v1:Unit)=>rF ([U,.ptr 0 0,U,U,U,U,dL bV a0.Subs,dI (a0.Subs.length:Int),dI (i1:Int)]++us 20) ⟨[(cA a0)],[]⟩ ( jV 4 ([U,.ptr 0 0,U,U,U,U,dL bV a0.Subs,dI (a0.Subs.length:Int),dI (i1:Int)]++us 10++[dB ((decide (e1.Number<1))||(decide (e1.Number>9999)))]++us 9) ⟨[(cA a0),(cO e1)],[]⟩ ( if ((decide (e1.Number<1))||(decide (e1.Number>9999)))=true then some (.ret (.ret false))else some (.go ())))) (λ(v1:Unit)=>some (.go ())) a0.Subs 0 ())) λ(v2:Unit)=>jB 0 ([U,.ptr 0 0]++us 27) ⟨[(cA a0)],[]⟩ ( ac (ac (kM a0) λ(y1:Bool)=>if y1=true then ac (jG a0.Subs) λ(y2:Bool)=>some (!y2)else some false) λ(v3:Bool)=>jR 7 ([U,U,dB v3]++us 26) ⟨[(cA a0)],[]⟩ ( some v3))
instance sp_proper_spec:Sp 212 (∀{a0:bz},Ct 212 [.agg (cA a0)] (λy:Bool=>.d (.bool y)) (mF a0)):=⟨zzF Tryz.func212 (mF.eq_1 ..)⟩
def bO(a0:(List (List ae))):Option (List ae):=ac (aA (dN a0) ( aM (λ(i1:Nat) (e1:(List ae)) (v1:Int)=>rF ([dL (eList al) a0,U,U,dI v1,U,U,U,U,U,dL (eList al) a0,dI (a0.length:Int),dI (i1:Int)]++us 24) ⟨[],[]⟩ ( if (decide ((zO.wrap (v1+(e1.length:Int)))<0))=true then none else some (.go (zO.wrap (v1+(e1.length:Int)))))) (λ(v1:Int)=>some v1) a0 0 0)) λ(v2:Int)=>jB 0 ([dL (eList al) a0,U,U,dI v2]++us 32) ⟨[],[]⟩ ( aA (decide (0≤v2∧v2≤16777216)) ( ac (aA (dN a0) ( aM (λ(i2:Nat) (e2:(List ae)) (v3:(List ae))=>rF (us 6++[.own 0 (zA al v3)]++us 18++[dL (eList al) a0,dI (a0.length:Int),dI (i2:Int)]++us 8) ⟨[],[(137,v3.length)]⟩ ( aA (cd (v3.length+e2.length)) ( some (.go (v3++e2))))) (λ(v3:(List ae))=>some v3) a0 0 [])) λ(v4:(List ae))=>jB 2 (us 6++[.own 0 (zA al v4)]++us 29) ⟨[],[(137,v4.length)]⟩ ( some v4)))
theorem df{a0:(List (List ae))}{y:(List ae)}(h:bO a0=some y):Spec gP 213 [.d (.list (zA (eList al) a0))] (.d (.list (zA al y))):=by
 refine auA Tryz.func213 (λy:(List ae)=>.d (.list (zA al y))) ?_ h
 unfold bO
 refine .sA ?_
 refine .sA ?_
 refine .seqK (.sA ?_)
 refine Mir.jOB (λ_=>rfl) ?_ ?_
 exact zzA
 intro v2
 refine Mir.toK (.seqK (.guard λq55=>.region λe h=>WA ?_))
 refine grow_S q55 ?_
 exact zzA
instance:Sp 213 (type_of% @df):=⟨@df⟩
def ov(a0:ae):Option (Int×Int×Bool×Int):=ac (qf a0 77 98000) λ(y1:Bool)=>if (!y1)=true then some (0,0,false,0)else none
instance ou:Sp 155 (∀{a0:ae},Ct 155 [.agg (cB a0)] (λy:Int×Int×Bool×Int=>.tuple [.d (.int .i64 y.1),.d (.int .i64 y.2.1),.d (.bool y.2.2.1),.d (.int .i64 y.2.2.2)]) (ov a0)):=⟨zzF Tryz.func155 (ov.eq_1 ..)⟩
def eF(a0:List aC):Option (List aC):=aA (cd a0.length) (some a0)
theorem jr{y:List aC}(h:(some [])=some y):Spec gP 74 [.d (.other (.slice none 0 c0))] (.d (.list (zA az y))):=by
 refine lU Tryz.func74 rfl (by kernel_rfl) (by kernel_rfl) (λy:List aC=>.d (.list (zA az y))) ?_ h
 simp only[zI,zJ,nS,nA,Tryz.ntmps74,SV]
 refine .sA ?_
 refine .seqK (.sA ?_)
 refine .condT rfl (.sA ?_)
 refine .ret QA
theorem jq{y:List aC}(h:(some [])=some y):Spec gP 74 [.d (.other (.slice (some p0) 0 c0))] (.d (.list (zA az y))):=by
 refine lU Tryz.func74 rfl (by kernel_rfl) (by kernel_rfl) (λy:List aC=>.d (.list (zA az y))) ?_ h
 simp only[zI,zJ,nS,nA,Tryz.ntmps74,SV]
 refine .sA ?_
 refine .seqK (.sA ?_)
 refine .condF rfl (.skip (Mir.toK (.sR λe h=>?_)))
 simp only[seval,EMA,(oL 0),zL,zM]
 refine mU e (.ret QA) h
theorem jt{x0:aC}{l0:List aC}{y:List aC}(h:(aA (cd ((x0::l0).length)) (   some (x0::l0)))=some y):Spec gP 74 [.d (.list (zA az (x0::l0)))] (.d (.list (zA az y))):=by
 refine lU Tryz.func74 rfl (by kernel_rfl) (by kernel_rfl) (λy:List aC=>.d (.list (zA az y))) ?_ h
 simp only[zI,zJ,nS,nA,Tryz.ntmps74,SV]
 refine .sA ?_
 refine .seqK (.sA ?_)
 refine .condF rfl (.skip (Mir.toK (.seqK (.guard λq1=>.region λe h=>?_))))
 simp only[seval,EMA,(oL 0),q1]
 refine mU e (.ret QA) h
theorem du{a0:List aC}{y:List aC}(h:eF a0=some y):Spec gP 74 [.d (.list (zA az a0))] (.d (.list (zA az y))):=by
 obtain⟨hl,h⟩:=gi h
 cases h
 cases a0 with
 | nil =>
  refine Spec.nilcase λA c=>?_
  cases A with
  | none=>exact jr rfl
  | some p=>exact jq rfl
 | cons x l=>exact jt (by simp only[aA,hl])
instance:Sp 74 (type_of% @du):=⟨@du⟩
end Go.Proofs.YtphbhdoljnokkaaGreatDoor
