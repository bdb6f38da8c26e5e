import Derived.Test.YtphbhdoljnokkaaGreatDoorMA
import Derived.Test.YtphbhdoljnokkaaGreatDoorMI
import Derived.Test.YtphbhdoljnokkaaGreatDoorMQ
import Derived.Test.YtphbhdoljnokkaaGreatDoorMR
open List renaming map → zA
namespace Go.Proofs.YtphbhdoljnokkaaGreatDoor
open Go.RowKit
open Nat renaming reduceAdd → nA,reduceSub → nS,reduceMul → nM,reduceEqDiff → nE,reduceLeDiff → nL,reduceLT → nT,reduceBEq → nB
open Int renaming reduceLT → iT,reduceToNat → iN,reduceEq → iE
set_option linter.unusedVariables false
set_option linter.unusedSimpArgs false
set_option maxRecDepth 100000
set_option maxHeartbeats 8000000
def fk(a0:ah)(a1:ah):Option ah:=ac (jA a0 a1) λ(y1:ah)=>some y1
instance distance_sub_spec:Sp 297 (∀{a0:ah} {a1:ah},Ct 297 [.agg (cP a0),.agg (cP a1)] (λy:ah=>.agg [.d (.bool y.Num.Neg),.d (.list (zA (eInt .u32) y.Num.Limbs)),.d (.bool y.Den.Neg),.d (.list (zA (eInt .u32) y.Den.Limbs))]) (fk a0 a1)):=⟨zzF Tryz.func297 (fk.eq_1 ..)⟩
def bF(a0:aI)(a1:aI):Option aI:=ac (fk a1.X a0.X) λ(y1:ah)=>ac (fk a1.Y a0.Y) λ(y2:ah)=>some (aI.mk y1 y2)
instance distance_way_spec:Sp 259 (∀{a0:aI} {a1:aI},Ct 259 [.agg (cQ a0),.agg (cQ a1)] (λy:aI=>.agg [.d (.bool y.X.Num.Neg),.d (.list (zA (eInt .u32) y.X.Num.Limbs)),.d (.bool y.X.Den.Neg),.d (.list (zA (eInt .u32) y.X.Den.Limbs)),.d (.bool y.Y.Num.Neg),.d (.list (zA (eInt .u32) y.Y.Num.Limbs)),.d (.bool y.Y.Den.Neg),.d (.list (zA (eInt .u32) y.Y.Den.Limbs))]) (bF a0 a1)):=⟨zzF Tryz.func259 (bF.eq_1 ..)⟩
def dl(a0:ah)(a1:ah):Option ah:=ac (im a0 a1) λ(y1:ah)=>some y1
instance distance_mul_spec:Sp 263 (∀{a0:ah} {a1:ah},Ct 263 [.agg (cP a0),.agg (cP a1)] (λy:ah=>.agg [.d (.bool y.Num.Neg),.d (.list (zA (eInt .u32) y.Num.Limbs)),.d (.bool y.Den.Neg),.d (.list (zA (eInt .u32) y.Den.Limbs))]) (dl a0 a1)):=⟨zzF Tryz.func263 (dl.eq_1 ..)⟩
def bE(a0:aI)(a1:aI):Option ah:=ac (dl a0.X a1.Y) λ(y1:ah)=>ac (dl a0.Y a1.X) λ(y2:ah)=>ac (fk y1 y2) λ(y3:ah)=>some y3
instance distance_cross_spec:Sp 260 (∀{a0:aI} {a1:aI},Ct 260 [.agg (cQ a0),.agg (cQ a1)] (λy:ah=>.agg [.d (.bool y.Num.Neg),.d (.list (zA (eInt .u32) y.Num.Limbs)),.d (.bool y.Den.Neg),.d (.list (zA (eInt .u32) y.Den.Limbs))]) (bE a0 a1)):=⟨zzF Tryz.func260 (bE.eq_1 ..)⟩
def fm(a0:aI)(a1:aI)(a2:aI)(a3:aI):Option Bool:=ac (bF (aI.mk a0.X a0.Y) (aI.mk a1.X a1.Y)) λ(y1:aI)=>ac (bF a2 a3) λ(y2:aI)=>ac (ac (bF (aI.mk a0.X a0.Y) a2) λ(y3:aI)=>ac (bE (aI.mk y1.X y1.Y) (aI.mk y3.X y3.Y)) λ(y4:ah)=>ac (bG y4) λ(y5:Int)=>ac (bF (aI.mk a0.X a0.Y) a3) λ(y6:aI)=>ac (bE (aI.mk y1.X y1.Y) y6) λ(y7:ah)=>ac (bG y7) λ(y8:Int)=>if (decide ((IntKind.i64.wrap (y5*y8))<0))=true then ac (bF a2 (aI.mk a0.X a0.Y)) λ(y9:aI)=>ac (bE (aI.mk y2.X y2.Y) y9) λ(y10:ah)=>ac (bG y10) λ(y11:Int)=>ac (bF a2 (aI.mk a1.X a1.Y)) λ(y12:aI)=>ac (bE (aI.mk y2.X y2.Y) y12) λ(y13:ah)=>ac (bG y13) λ(y14:Int)=>some (decide ((IntKind.i64.wrap (y11*y14))<0))else some false) λ(v1:Bool)=>jR 2 (us 8++[dB v1]++us 38) ⟨[(cQ a0),(cQ a1),(cQ a2),(cQ a3),(cQ y1),(cQ y2)],[]⟩ ( some v1)
instance distance_crossing_spec:Sp 222 (∀{a0:aI} {a1:aI} {a2:aI} {a3:aI},Ct 222 [.agg (cQ a0),.agg (cQ a1),.agg (cQ a2),.agg (cQ a3)] (λy:Bool=>.d (.bool y)) (fm a0 a1 a2 a3)):=⟨zzF Tryz.func222 (fm.eq_1 ..)⟩
def iR(a0:ah)(a1:ah):Option ah:=ac (lf a0 a1) λ(y1:ah)=>some y1
instance distance_add_spec:Sp 298 (∀{a0:ah} {a1:ah},Ct 298 [.agg (cP a0),.agg (cP a1)] (λy:ah=>.agg [.d (.bool y.Num.Neg),.d (.list (zA (eInt .u32) y.Num.Limbs)),.d (.bool y.Den.Neg),.d (.list (zA (eInt .u32) y.Den.Limbs))]) (iR a0 a1)):=⟨zzF Tryz.func298 (iR.eq_1 ..)⟩
def dZ(a0:aI)(a1:aI):Option ah:=ac (dl a0.X a1.X) λ(y1:ah)=>ac (dl a0.Y a1.Y) λ(y2:ah)=>ac (iR y1 y2) λ(y3:ah)=>some y3
instance distance_dot_spec:Sp 261 (∀{a0:aI} {a1:aI},Ct 261 [.agg (cQ a0),.agg (cQ a1)] (λy:ah=>.agg [.d (.bool y.Num.Neg),.d (.list (zA (eInt .u32) y.Num.Limbs)),.d (.bool y.Den.Neg),.d (.list (zA (eInt .u32) y.Den.Limbs))]) (dZ a0 a1)):=⟨zzF Tryz.func261 (dZ.eq_1 ..)⟩
def ic(a0:ah)(a1:ah):Option ah:=ac (oz a0 a1) λ(y1:ah×Int)=>if (y1.2 != 0)=true then ac (eI 0) λ(y2:ah)=>some y2 else some y1.1
instance distance_over_spec:Sp 262 (∀{a0:ah} {a1:ah},Ct 262 [.agg (cP a0),.agg (cP a1)] (λy:ah=>.agg [.d (.bool y.Num.Neg),.d (.list (zA (eInt .u32) y.Num.Limbs)),.d (.bool y.Den.Neg),.d (.list (zA (eInt .u32) y.Den.Limbs))]) (ic a0 a1)):=⟨zzF Tryz.func262 (ic.eq_1 ..)⟩
def bv(a0:aI)(a1:aI)(a2:aI):Option ah:=ac (bF a0 a1) λ(y1:aI)=>ac (bF a0 a2) λ(y2:aI)=>ac (dZ (aI.mk y1.X y1.Y) (aI.mk y1.X y1.Y)) λ(y3:ah)=>ac (dZ (aI.mk y1.X y1.Y) (aI.mk y2.X y2.Y)) λ(y4:ah)=>ac (bG y4) λ(y5:Int)=>if (decide (y5≤0))=true then ac (dZ (aI.mk y2.X y2.Y) (aI.mk y2.X y2.Y)) λ(y6:ah)=>some y6 else ac (fO y4 y3) λ(y7:Int)=>if (decide (y7≥0))=true then ac (bF (aI.mk a1.X a1.Y) a2) λ(y8:aI)=>ac (dZ y8 y8) λ(y9:ah)=>some y9 else ac (bE (aI.mk y1.X y1.Y) (aI.mk y2.X y2.Y)) λ(y10:ah)=>ac (dl y10 y10) λ(y11:ah)=>ac (ic y11 y3) λ(y12:ah)=>some y12
instance distance_toSegment_spec:Sp 223 (∀{a0:aI} {a1:aI} {a2:aI},Ct 223 [.agg (cQ a0),.agg (cQ a1),.agg (cQ a2)] (λy:ah=>.agg [.d (.bool y.Num.Neg),.d (.list (zA (eInt .u32) y.Num.Limbs)),.d (.bool y.Den.Neg),.d (.list (zA (eInt .u32) y.Den.Limbs))]) (bv a0 a1 a2)):=⟨zzF Tryz.func223 (bv.eq_1 ..)⟩
def eh(a0:aI)(a1:aI)(a2:aI)(a3:aI):Option ah:=ac (fm (aI.mk a0.X a0.Y) (aI.mk a1.X a1.Y) a2 a3) λ(y1:Bool)=>if y1=true then ac (eI 0) λ(y2:ah)=>some y2 else ac (bv (aI.mk a0.X a0.Y) (aI.mk a1.X a1.Y) a2) λ(y3:ah)=>ac (bv (aI.mk a0.X a0.Y) (aI.mk a1.X a1.Y) a3) λ(y4:ah)=>ac (bv a2 a3 (aI.mk a0.X a0.Y)) λ(y5:ah)=>ac (bv a2 a3 (aI.mk a1.X a1.Y)) λ(y6:ah)=>ac (ac (ac (fO y4 y3) λ(y7:Int)=>if (decide (y7<0))=true then some y4 else some y3) λ(v1:ah)=>jB 1 (us 8++[.ptr 4 0,.ptr 5 0]++us 24++[.full (zA encApiRat [y4,y5,y6]),dI 3,dI 0]++us 10) ⟨[(cQ a0),(cQ a1),(cQ a2),(cQ a3),[dB false,.nil,dB false,.nil],(cP v1)],[]⟩ ( ac (ac (fO y5 v1) λ(y8:Int)=>if (decide (y8<0))=true then some y5 else some v1) λ(v2:ah)=>jB 1 (us 8++[.ptr 4 0,.ptr 5 0]++us 24++[.full (zA encApiRat [y4,y5,y6]),dI 3,dI 1]++us 10) ⟨[(cQ a0),(cQ a1),(cQ a2),(cQ a3),[dB false,.nil,dB false,.nil],(cP v2)],[]⟩ ( ac (ac (fO y6 v2) λ(y9:Int)=>if (decide (y9<0))=true then some y6 else some v2) λ(v3:ah)=>jB 1 (us 8++[.ptr 4 0,.ptr 5 0]++us 24++[.full (zA encApiRat [y4,y5,y6]),dI 3,dI 2]++us 10) ⟨[(cQ a0),(cQ a1),(cQ a2),(cQ a3),[dB false,.nil,dB false,.nil],(cP v3)],[]⟩ ( some v3)))) λ(v4:ah)=>jB 0 (us 8++[.ptr 4 0,.ptr 5 0]++us 37) ⟨[(cQ a0),(cQ a1),(cQ a2),(cQ a3),[dB false,.nil,dB false,.nil],(cP v4)],[]⟩ ( some v4)
instance distance_Segments_spec:Sp 173 (∀{a0:aI} {a1:aI} {a2:aI} {a3:aI},Ct 173 [.agg (cQ a0),.agg (cQ a1),.agg (cQ a2),.agg (cQ a3)] (λy:ah=>.agg [.d (.bool y.Num.Neg),.d (.list (zA (eInt .u32) y.Num.Limbs)),.d (.bool y.Den.Neg),.d (.list (zA (eInt .u32) y.Den.Limbs))]) (eh a0 a1 a2 a3)):=⟨zzF Tryz.func173 (eh.eq_1 ..)⟩
def aY(a0:Int):Option ah:=ac (eI a0) λ(y1:ah)=>some y1
instance material_num_spec:Sp 36 (∀{a0:Int},Ct 36 [dI a0] (λy:ah=>.agg [.d (.bool y.Num.Neg),.d (.list (zA (eInt .u32) y.Num.Limbs)),.d (.bool y.Den.Neg),.d (.list (zA (eInt .u32) y.Den.Limbs))]) (aY a0)):=⟨zzF Tryz.func36 (aY.eq_1 ..)⟩
def di(a0:ag):Option aI:=ac (aY a0.X) λ(y1:ah)=>ac (aY a0.Y) λ(y2:ah)=>some (aI.mk y1 y2)
instance mM:Sp 95 (∀{a0:ag},Ct 95 [.agg (cF a0)] (λy:aI=>.agg [.d (.bool y.X.Num.Neg),.d (.list (zA (eInt .u32) y.X.Num.Limbs)),.d (.bool y.X.Den.Neg),.d (.list (zA (eInt .u32) y.X.Den.Limbs)),.d (.bool y.Y.Num.Neg),.d (.list (zA (eInt .u32) y.Y.Num.Limbs)),.d (.bool y.Y.Den.Neg),.d (.list (zA (eInt .u32) y.Y.Den.Limbs))]) (di a0)):=⟨zzF Tryz.func95 (di.eq_1 ..)⟩
def bH(a0:ah)(a1:ah):Option ah:=ac (im a0 a1) λ(y1:ah)=>some y1
instance material_mul_spec:Sp 102 (∀{a0:ah} {a1:ah},Ct 102 [.agg (cP a0),.agg (cP a1)] (λy:ah=>.agg [.d (.bool y.Num.Neg),.d (.list (zA (eInt .u32) y.Num.Limbs)),.d (.bool y.Den.Neg),.d (.list (zA (eInt .u32) y.Den.Limbs))]) (bH a0 a1)):=⟨zzF Tryz.func102 (bH.eq_1 ..)⟩
def ca(a0:Int):Option ah:=ac (aY a0) λ(y1:ah)=>ac (aY a0) λ(y2:ah)=>ac (bH y1 y2) λ(y3:ah)=>some y3
theorem kw{a0:Int}{y:ah}(h:ca a0=some y):Spec gP 99 [dI a0] (.agg [.d (.bool y.Num.Neg),.d (.list (zA (eInt .u32) y.Num.Limbs)),.d (.bool y.Den.Neg),.d (.list (zA (eInt .u32) y.Den.Limbs))]):=by
 refine auA Tryz.func99 (λy:ah=>.agg [.d (.bool y.Num.Neg),.d (.list (zA (eInt .u32) y.Num.Limbs)),.d (.bool y.Den.Neg),.d (.list (zA (eInt .u32) y.Den.Limbs))]) ?_ h
 unfold ca
 refine .sA ?_
 refine .seqK (.bind λy1 hy1=>.bind λy2 hy2=>.bind λy3 hy3=>.region λe h=>WA ?_)
 refine .byA (material_num_spec.1 _ hy1) (WA ?_)
 exact zzA
instance:Sp 99 (type_of% @kw):=⟨@kw⟩
def ee(a0:aO)(a1:aI)(a2:Int):Option Bool:=ac (if (decide (a2≥0))=true then ac (di a0.From) λ(y1:aI)=>ac (di a0.To) λ(y2:aI)=>ac (eh y1 y2 a1 a1) λ(y3:ah)=>ac (ca a2) λ(y4:ah)=>ac (fO y3 y4) λ(y5:Int)=>some (decide (y5≤0))else some false) λ(v1:Bool)=>jR 1 (us 6++[dB v1]++us 17) ⟨[(cR a0),(cQ a1)],[]⟩ ( some v1)
instance oh:Sp 93 (∀{a0:aO} {a1:aI} {a2:Int},Ct 93 [.agg (cR a0),.agg (cQ a1),dI a2] (λy:Bool=>.d (.bool y)) (ee a0 a1 a2)):=⟨zzF Tryz.func93 (ee.eq_1 ..)⟩
def bL(a0:ah)(a1:ah):Option ah:=ac (jA a0 a1) λ(y1:ah)=>some y1
instance material_sub_spec:Sp 101 (∀{a0:ah} {a1:ah},Ct 101 [.agg (cP a0),.agg (cP a1)] (λy:ah=>.agg [.d (.bool y.Num.Neg),.d (.list (zA (eInt .u32) y.Num.Limbs)),.d (.bool y.Den.Neg),.d (.list (zA (eInt .u32) y.Den.Limbs))]) (bL a0 a1)):=⟨zzF Tryz.func101 (bL.eq_1 ..)⟩
def c8(a0:aI)(a1:aI):Option aI:=ac (bL a1.X a0.X) λ(y1:ah)=>ac (bL a1.Y a0.Y) λ(y2:ah)=>some (aI.mk y1 y2)
instance material_way_spec:Sp 94 (∀{a0:aI} {a1:aI},Ct 94 [.agg (cQ a0),.agg (cQ a1)] (λy:aI=>.agg [.d (.bool y.X.Num.Neg),.d (.list (zA (eInt .u32) y.X.Num.Limbs)),.d (.bool y.X.Den.Neg),.d (.list (zA (eInt .u32) y.X.Den.Limbs)),.d (.bool y.Y.Num.Neg),.d (.list (zA (eInt .u32) y.Y.Num.Limbs)),.d (.bool y.Y.Den.Neg),.d (.list (zA (eInt .u32) y.Y.Den.Limbs))]) (c8 a0 a1)):=⟨zzF Tryz.func94 (c8.eq_1 ..)⟩
def fH(a0:aO):Option Bool:=some (a0.From.Z==a0.To.Z)
instance material_Cut_level_spec:Sp 96 (∀{a0:aO},Ct 96 [.agg (cR a0)] (λy:Bool=>.d (.bool y)) (fH a0)):=⟨zzF Tryz.func96 (fH.eq_1 ..)⟩
def iP(a0:ah)(a1:ah):Option ah:=ac (lf a0 a1) λ(y1:ah)=>some y1
instance material_add_spec:Sp 175 (∀{a0:ah} {a1:ah},Ct 175 [.agg (cP a0),.agg (cP a1)] (λy:ah=>.agg [.d (.bool y.Num.Neg),.d (.list (zA (eInt .u32) y.Num.Limbs)),.d (.bool y.Den.Neg),.d (.list (zA (eInt .u32) y.Den.Limbs))]) (iP a0 a1)):=⟨zzF Tryz.func175 (iP.eq_1 ..)⟩
def bP(a0:aI)(a1:aI):Option ah:=ac (bH a0.X a1.X) λ(y1:ah)=>ac (bH a0.Y a1.Y) λ(y2:ah)=>ac (iP y1 y2) λ(y3:ah)=>some y3
instance material_dot_spec:Sp 98 (∀{a0:aI} {a1:aI},Ct 98 [.agg (cQ a0),.agg (cQ a1)] (λy:ah=>.agg [.d (.bool y.Num.Neg),.d (.list (zA (eInt .u32) y.Num.Limbs)),.d (.bool y.Den.Neg),.d (.list (zA (eInt .u32) y.Den.Limbs))]) (bP a0 a1)):=⟨zzF Tryz.func98 (bP.eq_1 ..)⟩
def fj(a0:aO)(a1:aI):Option (aL×Bool):=ac (ee (aO.mk a0.From a0.To a0.Radius) (aI.mk a1.X a1.Y) a0.Radius) λ(y1:Bool)=>if (!y1)=true then some (aL.mk (ah.mk (am.mk false []) (am.mk false [])) (ah.mk (am.mk false []) (am.mk false [])) (ah.mk (am.mk false []) (am.mk false [])),false)else ac (if (decide (a0.To.Z>a0.From.Z))=true then some (a0.To,a0.From)else some (a0.From,a0.To)) λ(v1:ag×ag)=>jC ([U,U,.ptr 0 0,.ptr 1 0,.ptr 2 0,U,.ptr 3 0,.ptr 4 0]++us 112) ⟨[(cR a0),(cQ a1),[dB false,.nil,dB false,.nil,dB false,.nil,dB false,.nil,dB false,.nil,dB false,.nil],(cF v1.1),(cF v1.2)],[]⟩ ( ac (di v1.2) λ(y2:aI)=>ac (c8 (aI.mk a1.X a1.Y) y2) λ(y3:aI)=>ac (ac (fH a0) λ(y4:Bool)=>if y4=true then some true else ac (bP y3 y3) λ(y5:ah)=>ac (ca a0.Radius) λ(y6:ah)=>ac (fO y5 y6) λ(y7:Int)=>some (decide (y7≤0))) λ(v2:Bool)=>jR 7 ([U,U,.ptr 0 0,.ptr 1 0,.ptr 2 0,U,.ptr 3 0,.ptr 4 0]++us 42++[dB v2]++us 69) ⟨[(cR a0),(cQ a1),[dB false,.nil,dB false,.nil,dB false,.nil,dB false,.nil,dB false,.nil,dB false,.nil],(cF v1.1),(cF v1.2),(cQ y3)],[]⟩ ( if v2=true then ac (aY v1.2.Z) λ(y8:ah)=>ac (dp y8) λ(y9:aL)=>some (y9,true)else ac (di v1.1) λ(y10:aI)=>ac (c8 (aI.mk a1.X a1.Y) y10) λ(y11:aI)=>ac (di v1.1) λ(y12:aI)=>ac (di v1.2) λ(y13:aI)=>ac (c8 y12 y13) λ(y14:aI)=>ac (bP y11 y14) λ(y15:ah)=>ac (bP y14 y14) λ(y16:ah)=>ac (aY (IntKind.i64.wrap (v1.2.Z-v1.1.Z))) λ(y17:ah)=>ac (oz y17 y16) λ(y18:ah×Int)=>if (y18.2 != 0)=true then ac (aY v1.2.Z) λ(y19:ah)=>ac (dp y19) λ(y20:aL)=>some (y20,true)else ac (bH y15 y15) λ(y21:ah)=>ac (bP y11 y11) λ(y22:ah)=>ac (ca a0.Radius) λ(y23:ah)=>ac (bL y22 y23) λ(y24:ah)=>ac (bH y16 y24) λ(y25:ah)=>ac (bL y21 y25) λ(y26:ah)=>ac (aY v1.1.Z) λ(y27:ah)=>ac (bH y18.1 y15) λ(y28:ah)=>ac (bL y27 y28) λ(y29:ah)=>ac (jI y29 y18.1 y26) λ(y30:aL×Int)=>if (y30.2 != 0)=true then ac (aY v1.2.Z) λ(y31:ah)=>ac (dp y31) λ(y32:aL)=>some (y32,true)else some (y30.1,true)))
theorem ll{a0:aO}{a1:aI}{y:aL×Bool}(h:fj a0 a1=some y):Spec gP 37 [.agg (cR a0),.agg (cQ a1)] (.tuple [.agg [.d (.bool y.1.A.Num.Neg),.d (.list (zA (eInt .u32) y.1.A.Num.Limbs)),.d (.bool y.1.A.Den.Neg),.d (.list (zA (eInt .u32) y.1.A.Den.Limbs)),.d (.bool y.1.B.Num.Neg),.d (.list (zA (eInt .u32) y.1.B.Num.Limbs)),.d (.bool y.1.B.Den.Neg),.d (.list (zA (eInt .u32) y.1.B.Den.Limbs)),.d (.bool y.1.C.Num.Neg),.d (.list (zA (eInt .u32) y.1.C.Num.Limbs)),.d (.bool y.1.C.Den.Neg),.d (.list (zA (eInt .u32) y.1.C.Den.Limbs))],.d (.bool y.2)]):=by
 refine auA Tryz.func37 (λy:aL×Bool=>.tuple [.agg [.d (.bool y.1.A.Num.Neg),.d (.list (zA (eInt .u32) y.1.A.Num.Limbs)),.d (.bool y.1.A.Den.Neg),.d (.list (zA (eInt .u32) y.1.A.Den.Limbs)),.d (.bool y.1.B.Num.Neg),.d (.list (zA (eInt .u32) y.1.B.Num.Limbs)),.d (.bool y.1.B.Den.Neg),.d (.list (zA (eInt .u32) y.1.B.Den.Limbs)),.d (.bool y.1.C.Num.Neg),.d (.list (zA (eInt .u32) y.1.C.Num.Limbs)),.d (.bool y.1.C.Den.Neg),.d (.list (zA (eInt .u32) y.1.C.Den.Limbs))],.d (.bool y.2)]) ?_ h
 unfold fj
 refine .sA ?_
 refine .seqK (.seqK (.bind λy1 hy1=>.region λe h=>WA ?_))
 refine .byA (oh.1 _ hy1) (mA ?_ h)
 refine .cond rfl (λhb3=>?_) (λhb3=>?_)
 exact zzA
 refine .skip (Mir.toK (.seqK (.regionD [(26,6)] (by kernel_rfl) λe h=>?_)))
 simp only[seval,EMA,SB]
 refine mU e (.seqK (.sA ?_)) h
 refine Mir.jOC (λ_=>rfl) ?_ ?_
 exact zzA
 intro v1
 refine Mir.toK (.seqK (.bind λy2 hy6=>.bind λy3 hy7=>.regionD [] (by kernel_rfl) λe h=>?_))
 simp only[seval,EMA,SB]
 refine Spec.by (mM.1 _ hy6) (by simp only[seval,FMA]) ?_
 simp only[seval,EMA,SB]
 refine Spec.by (material_way_spec.1 _ hy7) (by simp only[seval,FMA]) ?_
 simp only[seval,EMA,SB]
 refine mU e (.seqK (.seqK (Mir.jOR (λ_=>rfl) ?_ ?_))) h
 exact zzA
 intro v2
 refine Mir.toK (.cond rfl (λhb16=>?_) (λhb16=>?_))
 exact zzA
 refine .skip (Mir.toK (.seqK (.bind λy10 hy19=>.bind λy11 hy20=>.bind λy12 hy21=>.bind λy13 hy22=>.bind λy14 hy23=>.regionD [] (by kernel_rfl) λe h=>?_)))
 simp only[seval,EMA,SB]
 refine Spec.by (mM.1 _ hy19) (by simp only[seval,FMA]) ?_
 exact zzA
instance:Sp 37 (type_of% @ll):=⟨@ll⟩
def cl(a0:(List aO))(a1:Int)(a2:aI):Option aL:=ac (aY a1) λ(y1:ah)=>ac (dp y1) λ(y2:aL)=>ac (aA (dN a0) ( aM (λ(i1:Nat) (e1:aO) (v1:aL)=>rF ([U,U,U,U,U,.ptr 0 0,.ptr 1 0,.ptr 2 0]++us 7++[dL de a0,dI (a0.length:Int),dI (i1:Int)]++us 19) ⟨[(cQ a2),[dB false,.nil,dB false,.nil,dB false,.nil,dB false,.nil,dB false,.nil,dB false,.nil],(cS v1)],[]⟩ ( ac (ac (fj e1 a2) λ(y3:aL×Bool)=>ac (if y3.2=true then ac (fq y3.1 v1) λ(y4:Int)=>some (decide (y4<0))else some false) λ(v2:Bool)=>jR 6 ([U,U,U,U,U,.ptr 0 0,.ptr 1 0,.ptr 2 0,U,U,.ptr 4 0,U,U,U,U,dL de a0,dI (a0.length:Int),dI (i1:Int)]++us 15++[dB v2,U,U,U]) ⟨[(cQ a2),[dB false,.nil,dB false,.nil,dB false,.nil,dB false,.nil,dB false,.nil,dB false,.nil],(cS v1),(cR e1),(cS y3.1)],[]⟩ ( if v2=true then some y3.1 else some v1)) λ(v3:aL)=>jB 1 ([U,U,U,U,U,.ptr 0 0,.ptr 1 0,.ptr 2 0]++us 7++[dL de a0,dI (a0.length:Int),dI (i1:Int)]++us 19) ⟨[(cQ a2),[dB false,.nil,dB false,.nil,dB false,.nil,dB false,.nil,dB false,.nil,dB false,.nil],(cS v3)],[]⟩ ( some (.go v3)))) (λ(v1:aL)=>some v1) a0 0 (aL.mk y2.A y2.B y2.C))) λ(v4:aL)=>jB 0 (us 6++[.ptr 1 0,.ptr 2 0]++us 29) ⟨[(cQ a2),[dB false,.nil,dB false,.nil,dB false,.nil,dB false,.nil,dB false,.nil,dB false,.nil],(cS v4)],[]⟩ ( some v4)
instance material_Height_spec:Sp 15 (∀{a0:(List aO)} {a1:Int} {a2:aI},Ct 15 [.d (.list (zA de a0)),dI a1,.agg (cQ a2)] (λy:aL=>.agg [.d (.bool y.A.Num.Neg),.d (.list (zA (eInt .u32) y.A.Num.Limbs)),.d (.bool y.A.Den.Neg),.d (.list (zA (eInt .u32) y.A.Den.Limbs)),.d (.bool y.B.Num.Neg),.d (.list (zA (eInt .u32) y.B.Num.Limbs)),.d (.bool y.B.Den.Neg),.d (.list (zA (eInt .u32) y.B.Den.Limbs)),.d (.bool y.C.Num.Neg),.d (.list (zA (eInt .u32) y.C.Num.Limbs)),.d (.bool y.C.Den.Neg),.d (.list (zA (eInt .u32) y.C.Den.Limbs))]) (cl a0 a1 a2)):=⟨zzF Tryz.func15 (cl.eq_1 ..)⟩
end Go.Proofs.YtphbhdoljnokkaaGreatDoor
