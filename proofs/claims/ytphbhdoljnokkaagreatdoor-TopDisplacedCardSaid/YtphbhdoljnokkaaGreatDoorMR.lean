import Derived.Test.YtphbhdoljnokkaaGreatDoorMA
import Derived.Test.YtphbhdoljnokkaaGreatDoorMI
import Derived.Test.YtphbhdoljnokkaaGreatDoorMQ
open Bool renaming false_and → zA,true_and → zB
open List renaming map → zD,map_cons → zE,map_nil → zF
open Go.IntKind renaming i64 → zG,u64 → zH
namespace Go.Proofs.YtphbhdoljnokkaaGreatDoor
open Go.RowKit
open Nat renaming reduceAdd → nA,reduceSub → nS,reduceMul → nM,reduceEqDiff → nE,reduceLeDiff → nL,reduceLT → nT,reduceBEq → nB
open Int renaming reduceLT → iT,reduceToNat → iN,reduceEq → iE
set_option linter.unusedVariables false
set_option linter.unusedSimpArgs false
set_option maxRecDepth 100000
set_option maxHeartbeats 8000000
def qA :Option ah:=ac (eI 0) λ(y1:ah)=>some y1
instance rt_zero_spec:Sp 42 (Ct 42 [] (λy:ah=>.agg [.d (.bool y.Num.Neg),.d (.list (zD (eInt .u32) y.Num.Limbs)),.d (.bool y.Den.Neg),.d (.list (zD (eInt .u32) y.Den.Limbs))]) (qA)):=⟨zzF Tryz.func42 (qA.eq_1 ..)⟩
def dp(a0:ah):Option aL:=ac (qA ) λ(y1:ah)=>ac (qA ) λ(y2:ah)=>some (aL.mk a0 y1 y2)
theorem ow{a0:ah}{y:aL}(h:dp a0=some y):Spec gP 17 [.agg (cP a0)] (.agg [.d (.bool y.A.Num.Neg),.d (.list (zD (eInt .u32) y.A.Num.Limbs)),.d (.bool y.A.Den.Neg),.d (.list (zD (eInt .u32) y.A.Den.Limbs)),.d (.bool y.B.Num.Neg),.d (.list (zD (eInt .u32) y.B.Num.Limbs)),.d (.bool y.B.Den.Neg),.d (.list (zD (eInt .u32) y.B.Den.Limbs)),.d (.bool y.C.Num.Neg),.d (.list (zD (eInt .u32) y.C.Num.Limbs)),.d (.bool y.C.Den.Neg),.d (.list (zD (eInt .u32) y.C.Den.Limbs))]):=by
 refine auA Tryz.func17 (λy:aL=>.agg [.d (.bool y.A.Num.Neg),.d (.list (zD (eInt .u32) y.A.Num.Limbs)),.d (.bool y.A.Den.Neg),.d (.list (zD (eInt .u32) y.A.Den.Limbs)),.d (.bool y.B.Num.Neg),.d (.list (zD (eInt .u32) y.B.Num.Limbs)),.d (.bool y.B.Den.Neg),.d (.list (zD (eInt .u32) y.B.Den.Limbs)),.d (.bool y.C.Num.Neg),.d (.list (zD (eInt .u32) y.C.Num.Limbs)),.d (.bool y.C.Den.Neg),.d (.list (zD (eInt .u32) y.C.Den.Limbs))]) ?_ h
 unfold dp
 refine .sA ?_
 refine .seqK (.bind λy1 hy1=>.bind λy2 hy2=>.regionD [] (by kernel_rfl) λe h=>?_)
 simp only[seval,EMA,SB]
 refine Spec.by (rt_zero_spec.1 _ hy1) (rfl) ?_
 simp only[seval,EMA,SB]
 refine Spec.by (rt_zero_spec.1 _ hy2) (rfl) ?_
 simp only[seval,EMA,SB]
 refine mU e (.ret QA) h
instance:Sp 17 (type_of% @ow):=⟨@ow⟩
def iL(a0:ah)(a1:ah)(a2:ah):Option aL:=ac (bG a1) λ(y1:Int)=>ac (if (y1==0)=true then ac (qA ) λ(y2:ah)=>some y2 else some a2) λ(v1:ah)=>jC ([U,U,U,.ptr 0 0,.ptr 1 0,.ptr 2 0,.ptr 3 0]++us 8) ⟨[(cP a0),(cP a1),(cP v1),[dB false,.nil,dB false,.nil,dB false,.nil,dB false,.nil,dB false,.nil,dB false,.nil]],[]⟩ ( some (aL.mk a0 a1 v1))
instance rt_reduced_spec:Sp 40 (∀{a0:ah} {a1:ah} {a2:ah},Ct 40 [.agg (cP a0),.agg (cP a1),.agg (cP a2)] (λy:aL=>.agg [.d (.bool y.A.Num.Neg),.d (.list (zD (eInt .u32) y.A.Num.Limbs)),.d (.bool y.A.Den.Neg),.d (.list (zD (eInt .u32) y.A.Den.Limbs)),.d (.bool y.B.Num.Neg),.d (.list (zD (eInt .u32) y.B.Num.Limbs)),.d (.bool y.B.Den.Neg),.d (.list (zD (eInt .u32) y.B.Den.Limbs)),.d (.bool y.C.Num.Neg),.d (.list (zD (eInt .u32) y.C.Num.Limbs)),.d (.bool y.C.Den.Neg),.d (.list (zD (eInt .u32) y.C.Den.Limbs))]) (iL a0 a1 a2)):=⟨zzF Tryz.func40 (iL.eq_1 ..)⟩
def jI(a0:ah)(a1:ah)(a2:ah):Option (aL×Int):=ac (bG a2) λ(y1:Int)=>if (decide (y1<0))=true then some (aL.mk (ah.mk (am.mk false []) (am.mk false [])) (ah.mk (am.mk false []) (am.mk false [])) (ah.mk (am.mk false []) (am.mk false [])),7)else ac (ra_Sqrt a2) λ(y2:ah×Bool)=>if y2.2=true then ac (im a1 y2.1) λ(y3:ah)=>ac (lf a0 y3) λ(y4:ah)=>ac (dp y4) λ(y5:aL)=>some (y5,0)else ac (iL a0 a1 a2) λ(y6:aL)=>some (y6,0)
instance rt_Make_spec:Sp 103 (∀{a0:ah} {a1:ah} {a2:ah},Ct 103 [.agg (cP a0),.agg (cP a1),.agg (cP a2)] (λy:aL×Int=>.tuple [.agg [.d (.bool y.1.A.Num.Neg),.d (.list (zD (eInt .u32) y.1.A.Num.Limbs)),.d (.bool y.1.A.Den.Neg),.d (.list (zD (eInt .u32) y.1.A.Den.Limbs)),.d (.bool y.1.B.Num.Neg),.d (.list (zD (eInt .u32) y.1.B.Num.Limbs)),.d (.bool y.1.B.Den.Neg),.d (.list (zD (eInt .u32) y.1.B.Den.Limbs)),.d (.bool y.1.C.Num.Neg),.d (.list (zD (eInt .u32) y.1.C.Num.Limbs)),.d (.bool y.1.C.Den.Neg),.d (.list (zD (eInt .u32) y.1.C.Den.Limbs))],.d (.int .i64 y.2)]) (jI a0 a1 a2)):=⟨zzF Tryz.func103 (jI.eq_1 ..)⟩
def rt_common(a0:aL)(a1:aL):Option (ah×Bool):=ac (bG a0.B) λ(y1:Int)=>if (y1==0)=true then some (a1.C,true)else ac (ac (bG a1.B) λ(y2:Int)=>if (y2==0)=true then some true else ac (fO a0.C a1.C) λ(y3:Int)=>some (y3==0)) λ(v1:Bool)=>jR 3 ([U,U,U,U,.ptr 2 0,dB v1]++us 20) ⟨[(cS a0),(cS a1),(cP a0.C)],[]⟩ ( some (a0.C,v1))
instance rt_common_spec:Sp 39 (∀{a0:aL} {a1:aL},Ct 39 [.agg (cS a0),.agg (cS a1)] (λy:ah×Bool=>.tuple [.agg [.d (.bool y.1.Num.Neg),.d (.list (zD (eInt .u32) y.1.Num.Limbs)),.d (.bool y.1.Den.Neg),.d (.list (zD (eInt .u32) y.1.Den.Limbs))],.d (.bool y.2)]) (rt_common a0 a1)):=⟨zzF Tryz.func39 (rt_common.eq_1 ..)⟩
def rt_Add(a0:aL)(a1:aL):Option (aL×Int):=ac (rt_common a0 a1) λ(y1:ah×Bool)=>if (!y1.2)=true then some (aL.mk (ah.mk (am.mk false []) (am.mk false [])) (ah.mk (am.mk false []) (am.mk false [])) (ah.mk (am.mk false []) (am.mk false [])),1)else ac (lf a0.A a1.A) λ(y2:ah)=>ac (lf a0.B a1.B) λ(y3:ah)=>ac (iL y2 y3 y1.1) λ(y4:aL)=>some (y4,0)
instance rt_Add_spec:Sp 16 (∀{a0:aL} {a1:aL},Ct 16 [.agg (cS a0),.agg (cS a1)] (λy:aL×Int=>.tuple [.agg [.d (.bool y.1.A.Num.Neg),.d (.list (zD (eInt .u32) y.1.A.Num.Limbs)),.d (.bool y.1.A.Den.Neg),.d (.list (zD (eInt .u32) y.1.A.Den.Limbs)),.d (.bool y.1.B.Num.Neg),.d (.list (zD (eInt .u32) y.1.B.Num.Limbs)),.d (.bool y.1.B.Den.Neg),.d (.list (zD (eInt .u32) y.1.B.Den.Limbs)),.d (.bool y.1.C.Num.Neg),.d (.list (zD (eInt .u32) y.1.C.Num.Limbs)),.d (.bool y.1.C.Den.Neg),.d (.list (zD (eInt .u32) y.1.C.Den.Limbs))],.d (.int .i64 y.2)]) (rt_Add a0 a1)):=⟨zzF Tryz.func16 (rt_Add.eq_1 ..)⟩
def eE(a0:Int)(a1:Int):Option (ak×Bool):=jV 1 ([dI a0,dI a1,U,U,.ptr 0 0]++us 6++[dB ((decide (a0<(-2305843009213693952)))||(decide (a1>2305843009213693952)))]++us 4) ⟨[dD],[]⟩ ( if ((decide (a0<(-2305843009213693952)))||(decide (a1>2305843009213693952)))=true then some (ak.mk 0 0,false)else some (ak.mk a0 a1,true))
instance filter_proper_spec:Sp 267 (∀{a0:Int} {a1:Int},Ct 267 [dI a0,dI a1] (λy:ak×Bool=>.tuple [.agg [.d (.int .i64 y.1.Low),.d (.int .i64 y.1.High)],.d (.bool y.2)]) (eE a0 a1)):=⟨zzF Tryz.func267 (eE.eq_1 ..)⟩
def bp(a0:ah):Option (ak×Bool):=ac (eI 65536) λ(y1:ah)=>ac (im a0 y1) λ(y2:ah)=>ac (pF y2) λ(y3:am)=>ac (mg y3) λ(y4:Int×Bool)=>ac (qk y2) λ(y5:ah)=>ac (pF y5) λ(y6:am)=>ac (it_Neg y6) λ(y7:am)=>ac (mg y7) λ(y8:Int×Bool)=>jV 4 ([U,U,.ptr 1 0,U,U,dI y4.1,U,dI y8.1]++us 23++[dB (!y4.2||(!y8.2))]++us 6) ⟨[(cP a0),dD,(cP y2)],[]⟩ ( if (!y4.2||(!y8.2))=true then some (ak.mk 0 0,false)else ac (eE y4.1 y8.1) λ(y9:ak×Bool)=>some (y9.1,y9.2))
instance bS:Sp 226 (∀{a0:ah},Ct 226 [.agg (cP a0)] (λy:ak×Bool=>.tuple [.agg [.d (.int .i64 y.1.Low),.d (.int .i64 y.1.High)],.d (.bool y.2)]) (bp a0)):=⟨zzF Tryz.func226 (bp.eq_1 ..)⟩
def jL(a0:Int):Option (Int×Bool):=ac (dW a0) λ(y1:am)=>ac (dW 65536) λ(y2:am)=>ac (fW y1 y2) λ(y3:am)=>ac (it_Sqrt y3) λ(y4:am×Int)=>ac (mg y4.1) λ(y5:Int×Bool)=>ac (fW y4.1 y4.1) λ(y6:am)=>ac (ls y6 y3) λ(y7:Int)=>some (y5.1,y7==0)
instance filter_root_spec:Sp 268 (∀{a0:Int},Ct 268 [dI a0] (λy:Int×Bool=>.tuple [.d (.int .i64 y.1),.d (.bool y.2)]) (jL a0)):=⟨zzF Tryz.func268 (jL.eq_1 ..)⟩
def gK(a0:ak):Option (ak×Bool):=if (decide (a0.High<0))=true then some (ak.mk 0 0,false)else ac (jL (mmI true a0.Low 0)) λ(y1:Int×Bool)=>ac (jL a0.High) λ(y2:Int×Bool)=>ac (if (!y2.2)=true then some (zG.wrap (y2.1+1))else some y2.1) λ(v1:Int)=>jC ([U,U,.ptr 1 0,U,dI y1.1,U,dI v1]++us 27) ⟨[(cW a0),dD],[]⟩ ( ac (eE y1.1 v1) λ(y3:ak×Bool)=>some (y3.1,y3.2))
instance oa:Sp 227 (∀{a0:ak},Ct 227 [.agg (cW a0)] (λy:ak×Bool=>.tuple [.agg [.d (.int .i64 y.1.Low),.d (.int .i64 y.1.High)],.d (.bool y.2)]) (gK a0)):=⟨zzF Tryz.func227 (gK.eq_1 ..)⟩
def kU(a0:Int):Option Int:=if (decide (a0<0))=true then some (zH.wrap (0-(zH.wrap a0)))else some (zH.wrap a0)
instance filter_abs_spec:Sp 300 (∀{a0:Int},Ct 300 [dI a0] (λy:Int=>.d (.int .u64 y)) (kU a0)):=⟨zzF Tryz.func300 (kU.eq_1 ..)⟩
def m7(a0:Int)(a1:Int):Option (Int×Int):=some (zH.wrap ((zH.wrap ((zH.wrap ((shrI .u64 a0 32)*(shrI .u64 a1 32)))+(shrI .u64 (zH.wrap ((zH.wrap ((shrI .u64 a0 32)*(andI .u64 a1 4294967295)))+(shrI .u64 (zH.wrap ((andI .u64 a0 4294967295)*(andI .u64 a1 4294967295))) 32))) 32)))+(shrI .u64 (zH.wrap ((andI .u64 (zH.wrap ((zH.wrap ((shrI .u64 a0 32)*(andI .u64 a1 4294967295)))+(shrI .u64 (zH.wrap ((andI .u64 a0 4294967295)*(andI .u64 a1 4294967295))) 32))) 4294967295)+(zH.wrap ((andI .u64 a0 4294967295)*(shrI .u64 a1 32))))) 32)),zH.wrap (a0*a1))
instance bits_Mul64_spec:Sp 299 (∀{a0:Int} {a1:Int},Ct 299 [.d (.int .u64 a0),.d (.int .u64 a1)] (λy:Int×Int=>.tuple [.d (.int .u64 y.1),.d (.int .u64 y.2)]) (m7 a0 a1)):=⟨zzF Tryz.func299 (m7.eq_1 ..)⟩
def fI(a0:Int)(a1:Int):Option (Int×Int×Bool):=ac (kU a0) λ(y1:Int)=>ac (kU a1) λ(y2:Int)=>ac (m7 y1 y2) λ(y3:Int×Int)=>if ((shrI .u64 y3.1 16) != 0)=true then some (0,0,false)else if (decide ((orI .u64 (shlI .u64 y3.1 48) (shrI .u64 y3.2 16))>2305843009213693952))=true then some (0,0,false)else ac (if ((andI .u64 y3.2 65535) != 0)=true then some (zG.wrap ((zG.wrap (orI .u64 (shlI .u64 y3.1 48) (shrI .u64 y3.2 16)))+1))else some (zG.wrap (orI .u64 (shlI .u64 y3.1 48) (shrI .u64 y3.2 16)))) λ(v1:Int)=>jC ([dI a0,dI a1]++us 8++[dI (zG.wrap (orI .u64 (shlI .u64 y3.1 48) (shrI .u64 y3.2 16))),dI v1]++us 44) ⟨[],[]⟩ ( ac (if (!((decide (a0<0))==(decide (a1<0))))=true then some (zG.wrap (0-v1),zG.wrap (0-(zG.wrap (orI .u64 (shlI .u64 y3.1 48) (shrI .u64 y3.2 16)))))else some (zG.wrap (orI .u64 (shlI .u64 y3.1 48) (shrI .u64 y3.2 16)),v1)) λ(v2:Int×Int)=>jC (us 10++[dI v2.1,dI v2.2]++us 44) ⟨[],[]⟩ ( jV 12 ([U,U,U,U,dI v2.1,dI v2.2,dB ((decide (v2.1≥(-2305843009213693952)))&&(decide (v2.2≤2305843009213693952)))]++us 49) ⟨[],[]⟩ ( some (v2.1,v2.2,(decide (v2.1≥(-2305843009213693952)))&&(decide (v2.2≤2305843009213693952))))))
instance filter_scaled_spec:Sp 269 (∀{a0:Int} {a1:Int},Ct 269 [dI a0,dI a1] (λy:Int×Int×Bool=>.tuple [.d (.int .i64 y.1),.d (.int .i64 y.2.1),.d (.bool y.2.2)]) (fI a0 a1)):=⟨zzF Tryz.func269 (fI.eq_1 ..)⟩
def gv(a0:ak)(a1:ak):Option (ak×Bool):=bindX (bindX (ac (fI a0.Low a1.Low) λ(y1:Int×Int×Bool)=>if (!y1.2.2)=true then some (.ret (.ret (ak.mk 0 0,false)))else ac (fI a0.Low a1.High) λ(y2:Int×Int×Bool)=>if (!y2.2.2)=true then some (.ret (.ret (ak.mk 0 0,false)))else some (.go (mmI false (mmI false 2305843009213693952 y1.1) y2.1,mmI true (mmI true (-2305843009213693952) y1.2.1) y2.2.1))) λ(v1:Int×Int)=>jB 1 ([U,U,U,.ptr 1 0,.ptr 2 0,U,dI v1.1,dI v1.2]++us 11++[.full (zD (eInt .i64) [a0.Low,a0.High]),dI 2,dI 0]++us 34) ⟨[(cW a0),(cW a1),dD],[]⟩ ( bindX (ac (fI a0.High a1.Low) λ(y3:Int×Int×Bool)=>if (!y3.2.2)=true then some (.ret (.ret (ak.mk 0 0,false)))else ac (fI a0.High a1.High) λ(y4:Int×Int×Bool)=>if (!y4.2.2)=true then some (.ret (.ret (ak.mk 0 0,false)))else some (.go (mmI false (mmI false v1.1 y3.1) y4.1,mmI true (mmI true v1.2 y3.2.1) y4.2.1))) λ(v2:Int×Int)=>jB 1 ([U,U,U,.ptr 1 0,.ptr 2 0,U,dI v2.1,dI v2.2]++us 11++[.full (zD (eInt .i64) [a0.Low,a0.High]),dI 2,dI 1]++us 34) ⟨[(cW a0),(cW a1),dD],[]⟩ ( some (.go (v2.1,v2.2))))) λ(v3:Int×Int)=>jB 0 ([U,U,U,U,.ptr 2 0,U,dI v3.1,dI v3.2]++us 48) ⟨[(cW a0),(cW a1),dD],[]⟩ ( some (ak.mk v3.1 v3.2,true))
instance bj:Sp 228 (∀{a0:ak} {a1:ak},Ct 228 [.agg (cW a0),.agg (cW a1)] (λy:ak×Bool=>.tuple [.agg [.d (.int .i64 y.1.Low),.d (.int .i64 y.1.High)],.d (.bool y.2)]) (gv a0 a1)):=⟨zzF Tryz.func228 (gv.eq_1 ..)⟩
def fA(a0:ak)(a1:ak):Option (ak×Bool):=ac (eE (zG.wrap (a0.Low+a1.Low)) (zG.wrap (a0.High+a1.High))) λ(y1:ak×Bool)=>some (y1.1,y1.2)
instance bk:Sp 229 (∀{a0:ak} {a1:ak},Ct 229 [.agg (cW a0),.agg (cW a1)] (λy:ak×Bool=>.tuple [.agg [.d (.int .i64 y.1.Low),.d (.int .i64 y.1.High)],.d (.bool y.2)]) (fA a0 a1)):=⟨zzF Tryz.func229 (fA.eq_1 ..)⟩
def iy(a0:aL):Option (ak×Bool):=ac (bp a0.A) λ(y1:ak×Bool)=>ac (if y1.2=true then ac (bG a0.B) λ(y2:Int)=>some (y2==0)else some true) λ(v1:Bool)=>jR 2 ([U,.ptr 0 0,.ptr 1 0,U,.ptr 2 0,dB y1.2]++us 16++[dB v1]++us 49) ⟨[(cS a0),dD,(cW y1.1)],[]⟩ ( if v1=true then some (y1.1,y1.2)else ac (bp a0.B) λ(y3:ak×Bool)=>ac (bp a0.C) λ(y4:ak×Bool)=>ac (if y3.2=true then if y4.2=true then ac (bG a0.C) λ(y5:Int)=>some (decide (y5<0))else some true else some true) λ(v2:Bool)=>jR 6 ([U,U,.ptr 1 0,U,.ptr 2 0,U,.ptr 3 0,.ptr 4 0]++us 40++[dB v2]++us 23) ⟨[(cS a0),dD,(cW y1.1),(cW y3.1),(cW y4.1)],[]⟩ ( if v2=true then some (ak.mk 0 0,false)else ac (gK y4.1) λ(y6:ak×Bool)=>if (!y6.2)=true then some (ak.mk 0 0,false)else ac (gv y3.1 y6.1) λ(y7:ak×Bool)=>if (!y7.2)=true then some (ak.mk 0 0,false)else ac (fA y1.1 y7.1) λ(y8:ak×Bool)=>some (y8.1,y8.2)))
instance filter_Root_spec:Sp 179 (∀{a0:aL},Ct 179 [.agg (cS a0)] (λy:ak×Bool=>.tuple [.agg [.d (.int .i64 y.1.Low),.d (.int .i64 y.1.High)],.d (.bool y.2)]) (iy a0)):=⟨zzF Tryz.func179 (iy.eq_1 ..)⟩
def eZ(a0:aL)(a1:aL):Option (Int×Bool):=ac (iy a0) λ(y1:ak×Bool)=>ac (iy a1) λ(y2:ak×Bool)=>jV 3 (us 6++[.ptr 2 0,U,.ptr 3 0]++us 11++[dB (!y1.2||(!y2.2))]++us 18) ⟨[(cS a0),(cS a1),(cW y1.1),(cW y2.1)],[]⟩ ( if (!y1.2||(!y2.2))=true then some (0,false)else if (decide (y1.1.High<y2.1.Low))=true then some (-1,true)else if (decide (y1.1.Low>y2.1.High))=true then some (1,true)else some (0,false))
instance radical_apart_spec:Sp 105 (∀{a0:aL} {a1:aL},Ct 105 [.agg (cS a0),.agg (cS a1)] (λy:Int×Bool=>.tuple [.d (.int .i64 y.1),.d (.bool y.2)]) (eZ a0 a1)):=⟨zzF Tryz.func105 (eZ.eq_1 ..)⟩
def dq(a0:ah)(a1:ah)(a2:ah):Option Int:=ac (bG a0) λ(y1:Int)=>ac (bG a1) λ(y2:Int)=>ac (bG a2) λ(y3:Int)=>jV 2 ([U,U,U,.ptr 0 0,.ptr 1 0,.ptr 2 0,U,dI y1,dI (zG.wrap (y2*y3))]++us 7++[dB (((zG.wrap (y2*y3))==0)||(y1==(zG.wrap (y2*y3))))]++us 23) ⟨[(cP a0),(cP a1),(cP a2)],[]⟩ ( if (((zG.wrap (y2*y3))==0)||(y1==(zG.wrap (y2*y3))))=true then some y1 else if (y1==0)=true then some (zG.wrap (y2*y3))else ac (im a0 a0) λ(y4:ah)=>ac (im a1 a1) λ(y5:ah)=>ac (im y5 a2) λ(y6:ah)=>ac (fO y4 y6) λ(y7:Int)=>some (zG.wrap (y1*y7)))
instance radical_plain_spec:Sp 106 (∀{a0:ah} {a1:ah} {a2:ah},Ct 106 [.agg (cP a0),.agg (cP a1),.agg (cP a2)] (λy:Int=>.d (.int .i64 y)) (dq a0 a1 a2)):=⟨zzF Tryz.func106 (dq.eq_1 ..)⟩
def dH(a0:ah):Option ah:=ac (qk a0) λ(y1:ah)=>ac (qk y1) λ(y2:ah)=>some y2
instance radical_copied_spec:Sp 183 (∀{a0:ah},Ct 183 [.agg (cP a0)] (λy:ah=>.agg [.d (.bool y.Num.Neg),.d (.list (zD (eInt .u32) y.Num.Limbs)),.d (.bool y.Den.Neg),.d (.list (zD (eInt .u32) y.Den.Limbs))]) (dH a0)):=⟨zzF Tryz.func183 (dH.eq_1 ..)⟩
def ix(a0:aL)(a1:aL):Option fu:=ac (jA a0.A a1.A) λ(y1:ah)=>ac (dH a0.B) λ(y2:ah)=>ac (qk a1.B) λ(y3:ah)=>ac (eI 0) λ(y4:ah)=>ac (dH a0.C) λ(y5:ah)=>ac (dH a1.C) λ(y6:ah)=>some (fu.mk y1 y2 y3 y4 y5 y6)
instance radical_Sub_spec:Sp 109 (∀{a0:aL} {a1:aL},Ct 109 [.agg (cS a0),.agg (cS a1)] (λy:fu=>.agg [.d (.bool y.A.Num.Neg),.d (.list (zD (eInt .u32) y.A.Num.Limbs)),.d (.bool y.A.Den.Neg),.d (.list (zD (eInt .u32) y.A.Den.Limbs)),.d (.bool y.B.Num.Neg),.d (.list (zD (eInt .u32) y.B.Num.Limbs)),.d (.bool y.B.Den.Neg),.d (.list (zD (eInt .u32) y.B.Den.Limbs)),.d (.bool y.C.Num.Neg),.d (.list (zD (eInt .u32) y.C.Num.Limbs)),.d (.bool y.C.Den.Neg),.d (.list (zD (eInt .u32) y.C.Den.Limbs)),.d (.bool y.D.Num.Neg),.d (.list (zD (eInt .u32) y.D.Num.Limbs)),.d (.bool y.D.Den.Neg),.d (.list (zD (eInt .u32) y.D.Den.Limbs)),.d (.bool y.M.Num.Neg),.d (.list (zD (eInt .u32) y.M.Num.Limbs)),.d (.bool y.M.Den.Neg),.d (.list (zD (eInt .u32) y.M.Den.Limbs)),.d (.bool y.N.Num.Neg),.d (.list (zD (eInt .u32) y.N.Num.Limbs)),.d (.bool y.N.Den.Neg),.d (.list (zD (eInt .u32) y.N.Den.Limbs))]) (ix a0 a1)):=⟨zzF Tryz.func109 (ix.eq_1 ..)⟩
def lJ(a0:ak):Option (Int×Bool):=if (decide (a0.Low>0))=true then some (1,true)else if (decide (a0.High<0))=true then some (-1,true)else jV 5 ([U,U,dI 0,dB ((a0.Low==0)&&(a0.High==0))]++us 16) ⟨[(cW a0)],[]⟩ ( some (0,(a0.Low==0)&&(a0.High==0)))
theorem kr{a0:ak}{y:Int×Bool}(h:lJ a0=some y):Spec gP 231 [.agg (cW a0)] (.tuple [.d (.int .i64 y.1),.d (.bool y.2)]):=by
 refine auA Tryz.func231 (λy:Int×Bool=>.tuple [.d (.int .i64 y.1),.d (.bool y.2)]) ?_ h
 unfold lJ
 refine .sA ?_
 refine .seqK (.block (.sA ?_))
 refine .cond rfl (λhb5=>?_) (λhb5=>?_)
 refine .sA ?_
 refine .ret QA
 refine .sA ?_
 refine .cond rfl (λhb7=>?_) (λhb7=>?_)
 refine .sA ?_
 refine .ret QA
 refine .skip (Mir.toB (Mir.toK (.seqK (Mir.jV rfl ?_ ?_))))
 refine SWs.regionD (L:=[]) (by kernel_rfl) ?_
 rcases Bool.eq_false_or_eq_true (a0.Low==0)with hb8 | hb8
 simp only[seval,EMA,SB,SL,PB,hb8]
 simp only[seval,EMA,SB,SL,PB,hb8]
 refine Mir.toK (.ret QA)
instance:Sp 231 (type_of% @kr):=⟨@kr⟩
def i7(a0:fu):Option (Int×Bool):=ac (bp a0.M) λ(y1:ak×Bool)=>ac (gK y1.1) λ(y2:ak×Bool)=>ac (bp a0.N) λ(y3:ak×Bool)=>ac (gK y3.1) λ(y4:ak×Bool)=>if (!(((y1.2&&y2.2)&&y3.2)&&y4.2))=true then some (0,false)else ac (bp a0.B) λ(y5:ak×Bool)=>ac (gv y5.1 y2.1) λ(y6:ak×Bool)=>ac (bp a0.C) λ(y7:ak×Bool)=>ac (gv y7.1 y4.1) λ(y8:ak×Bool)=>ac (bp a0.D) λ(y9:ak×Bool)=>ac (gv y2.1 y4.1) λ(y10:ak×Bool)=>ac (gv y9.1 y10.1) λ(y11:ak×Bool)=>if (!((((((((((y1.2&&y2.2)&&y3.2)&&y4.2)&&y5.2)&&y6.2)&&y7.2)&&y8.2)&&y9.2)&&y10.2)&&y11.2))=true then some (0,false)else ac (bp a0.A) λ(y12:ak×Bool)=>ac (fA y12.1 y6.1) λ(y13:ak×Bool)=>ac (fA y8.1 y11.1) λ(y14:ak×Bool)=>ac (fA y13.1 y14.1) λ(y15:ak×Bool)=>if (!((((((((((((((y1.2&&y2.2)&&y3.2)&&y4.2)&&y5.2)&&y6.2)&&y7.2)&&y8.2)&&y9.2)&&y10.2)&&y11.2)&&y12.2)&&y13.2)&&y14.2)&&y15.2))=true then some (0,false)else ac (lJ y15.1) λ(y16:Int×Bool)=>some (y16.1,y16.2)
abbrev jO(a0:fu):List D:=[.bool a0.A.Num.Neg,.list (zD (eInt .u32) a0.A.Num.Limbs),.bool a0.A.Den.Neg,.list (zD (eInt .u32) a0.A.Den.Limbs),.bool a0.B.Num.Neg,.list (zD (eInt .u32) a0.B.Num.Limbs),.bool a0.B.Den.Neg,.list (zD (eInt .u32) a0.B.Den.Limbs),.bool a0.C.Num.Neg,.list (zD (eInt .u32) a0.C.Num.Limbs),.bool a0.C.Den.Neg,.list (zD (eInt .u32) a0.C.Den.Limbs),.bool a0.D.Num.Neg,.list (zD (eInt .u32) a0.D.Num.Limbs),.bool a0.D.Den.Neg,.list (zD (eInt .u32) a0.D.Den.Limbs),.bool a0.M.Num.Neg,.list (zD (eInt .u32) a0.M.Num.Limbs),.bool a0.M.Den.Neg,.list (zD (eInt .u32) a0.M.Den.Limbs),.bool a0.N.Num.Neg,.list (zD (eInt .u32) a0.N.Num.Limbs),.bool a0.N.Den.Neg,.list (zD (eInt .u32) a0.N.Den.Limbs)]
theorem lV{a0:fu}{y:Int×Bool}(h:i7 a0=some y):Spec gP 181 [.agg (cX a0)] (.tuple [.d (.int .i64 y.1),.d (.bool y.2)]):=by
 refine auA Tryz.func181 (λy:Int×Bool=>.tuple [.d (.int .i64 y.1),.d (.bool y.2)]) ?_ h
 unfold i7
 refine .seqK (.regionW λe h=>regW.alt 0 rfl ?_)
 simp only[seval,EMA]
 refine alt_boxF (jO a0) _ rfl rfl (regW.of ?_)
 simp only[seval,EMA]
 refine mU e (.sA ?_) h
 refine .seqK (.bind λy1 hy1=>.bind λy2 hy2=>.region λe h=>WA ?_)
 refine .byA (bS.1 _ hy1) (WA ?_)
 refine bN rfl rfl ?_
 simp only[seval,EMA,zB,zA]
 refine .byA (oa.1 _ hy2) (WA ?_)
 refine bN rfl rfl ?_
 simp only[seval,EMA,zB,zA]
 refine mU e (.seqK (.bind λy3 hy3=>.bind λy4 hy4=>.region λe h=>WA ?_)) h
 refine .byA (bS.1 _ hy3) (WA ?_)
 refine bN rfl rfl ?_
 simp only[seval,EMA,zB,zA]
 refine .byA (oa.1 _ hy4) (WA ?_)
 refine bN rfl rfl ?_
 simp only[seval,EMA,zB,zA]
 refine mU e (.seqK (.sA ?_)) h
 refine .cond rfl (λhb6=>?_) (λhb6=>?_)
 refine .sA ?_
 refine .ret QA
 refine .skip (Mir.toK (.seqK (.bind λy5 hy7=>.bind λy6 hy8=>Mir.regionA 0 [] ([.agg (cX a0),.iptr (jO a0) 0,dI 0,dB false,.ptr 0 0,.ptr 1 0,.ptr 2 0,.ptr 3 0,U,U,U,.agg [dB true],.ptr 0 0,.ptr 0 0,.ptr 0 0,.iptr (jO a0) 16,.agg (cP a0.M),.tuple [.agg (cW y1.1),dB y1.2],.agg (cW y1.1),dB y1.2,.agg (cW y1.1),.tuple [.agg (cW y2.1),dB y2.2],.agg (cW y2.1),dB y2.2,.agg (cW y2.1),.ptr 0 0,.ptr 0 0,.iptr (jO a0) 20,.agg (cP a0.N),.tuple [.agg (cW y3.1),dB y3.2],.agg (cW y3.1),dB y3.2,.agg (cW y3.1),.tuple [.agg (cW y4.1),dB y4.2],.agg (cW y4.1),dB y4.2,.agg (cW y4.1),.ptr 0 0,.ptr 0 0,.ptr 0 0,dB (((y1.2&&y2.2)&&y3.2)&&y4.2),dB (!(((y1.2&&y2.2)&&y3.2)&&y4.2)),.ptr 0 0,.ptr 0 0,.iptr (jO a0) 4,.agg (cP a0.B),.tuple [.agg (cW y5.1),dB y5.2],.agg (cW y5.1),dB y5.2,.agg (cW y5.1),.agg (cW y2.1),.tuple [.agg (cW y6.1),dB y6.2],.agg (cW y6.1),dB y6.2,.agg (cW y6.1)]++us 71) ⟨[[dB (((((y1.2&&y2.2)&&y3.2)&&y4.2)&&y5.2)&&y6.2)],(cW y2.1),(cW y4.1),(cW y6.1)],[]⟩ (by kernel_rfl) (λe h=>?_) (λe h=>?_))))
 simp only[seval,EMA,SB]
 refine regI.toA (l:=[(1,[(.i64,y2.1.Low),(.i64,y2.1.High)])]) (regI.moveB (j:=0) (by kernel_rfl) rfl rfl ⟨rfl,trivial⟩ ?_)
 simp only[seval,EMA]
 refine regI.moveB (j:=1) (by kernel_rfl) rfl rfl ⟨rfl,trivial⟩ ?_
 simp only[seval,EMA]
 refine regI.fieldB (j:=2) (y:=.iptr (jO a0) 4) (by kernel_rfl) rfl rfl ⟨rfl,trivial⟩ (by first | simp only[seval,EMA,fld_202_1,sz_59,eInt] | kernel_rfl) ?_
 simp only[seval,EMA]
 refine regI.loadI (j:=3) (y:=.agg (cP a0.B)) (by kernel_rfl) rfl rfl ⟨rfl,trivial⟩ rfl (by first | (simp only[↓reduceIte,nA,nL,mo,ag_59,sz_59,fR,iS,SV]<;>rfl) | simp only[seval,EMA,ag_59,sz_59,eInt] | kernel_rfl) ?_
 simp only[seval,EMA]
 refine regI.loadN (j:=8) (k:=1) (y:=.agg (cW y2.1)) (by kernel_rfl) rfl rfl ⟨rfl,trivial⟩ (by first | exact .head _ | exact .tail _ (.head _) | exact .tail _ (.tail _ (.head _))) rfl (by first | (simp only[↓reduceIte,nA,nL,mo,jF,jy,fR,iS,ivs,zE,zF,SV]<;>rfl) | simp only[seval,EMA,jF,jy,eInt] | kernel_rfl) ?_
 simp only[seval,EMA]
 refine regI.two (j:=4) (i:=13) (by kernel_rfl) rfl rfl ?_ ?_
 refine regW.of ?_
 simp only[seval,EMA]
 refine .byA (bS.1 _ hy7) (WA ?_)
 refine⟨⟨rfl,trivial⟩,?_⟩
 refine regI.extB (j:=5) (by kernel_rfl) rfl rfl ⟨rfl,trivial⟩ rfl rfl ?_
 simp only[seval,EMA]
 refine regI.extB (j:=6) (by kernel_rfl) rfl rfl ⟨rfl,trivial⟩ rfl rfl ?_
 simp only[seval,EMA]
 refine regI.two (j:=7) (i:=13) (by kernel_rfl) rfl rfl ?_ ?_
 refine regW.of ?_
 simp only[seval,EMA]
 refine bN rfl rfl ?_
 simp only[seval,EMA,zB,zA]
 refine⟨⟨rfl,trivial⟩,?_⟩
 refine regI.two (j:=9) (i:=13) (by kernel_rfl) rfl rfl ?_ ?_
 refine regW.of ?_
 simp only[seval,EMA]
 refine .byA (bj.1 _ hy8) (WA ?_)
 refine⟨⟨rfl,trivial⟩,?_⟩
 refine regI.extB (j:=10) (by kernel_rfl) rfl rfl ⟨rfl,trivial⟩ rfl rfl ?_
 simp only[seval,EMA]
 refine regI.extB (j:=11) (by kernel_rfl) rfl rfl ⟨rfl,trivial⟩ rfl rfl ?_
 simp only[seval,EMA]
 refine regI.two (j:=12) (i:=13) (by kernel_rfl) rfl rfl ?_ ?_
 refine regW.of ?_
 simp only[seval,EMA]
 refine bN rfl rfl ?_
 simp only[seval,EMA,zB,zA]
 refine⟨⟨rfl,trivial⟩,?_⟩
 refine regI.one (j:=13) (by kernel_rfl) rfl (regW.of ?_)
 simp only[seval,EMA]
 refine⟨⟨rfl,trivial⟩,?_⟩
 refine regI.one (j:=14) (by kernel_rfl) rfl (regW.of ?_)
 simp only[seval,EMA]
 refine⟨⟨rfl,trivial⟩,?_⟩
 exact regI.nil (by kernel_rfl) ⟨by first | rfl | simp only[seval,FMA,eInt,xMA,xLA],by first | rfl | simp only[seval,FMA,eInt,xMA,xLA]⟩
 refine regW.of ?_
 simp only[seval,EMA]
 refine⟨⟨rfl,trivial⟩,?_⟩
 refine regI.one (j:=12) (by kernel_rfl) rfl (regW.of ?_)
 simp only[seval,EMA]
 refine bN rfl rfl ?_
 simp only[seval,EMA,zB,zA]
 refine⟨⟨rfl,trivial⟩,?_⟩
 refine regI.one (j:=14) (by kernel_rfl) rfl (regW.of ?_)
 simp only[seval,EMA]
 refine⟨⟨rfl,trivial⟩,?_⟩
 exact regI.nil (by kernel_rfl) ⟨by first | rfl | simp only[seval,FMA,eInt,xMA,xLA],by first | rfl | simp only[seval,FMA,eInt,xMA,xLA]⟩
 refine regW.of ?_
 simp only[seval,EMA]
 refine⟨⟨rfl,trivial⟩,?_⟩
 refine regI.one (j:=9) (by kernel_rfl) rfl (regW.of ?_)
 simp only[seval,EMA]
 refine .byA (bj.1 _ hy8) (WA ?_)
 refine⟨⟨rfl,trivial⟩,?_⟩
 refine regI.extB (j:=10) (by kernel_rfl) rfl rfl ⟨rfl,trivial⟩ rfl rfl ?_
 simp only[seval,EMA]
 refine regI.extB (j:=11) (by kernel_rfl) rfl rfl ⟨rfl,trivial⟩ rfl rfl ?_
 simp only[seval,EMA]
 refine regI.one (j:=12) (by kernel_rfl) rfl (regW.of ?_)
 simp only[seval,EMA]
 refine bN rfl rfl ?_
 simp only[seval,EMA,zB,zA]
 refine⟨⟨rfl,trivial⟩,?_⟩
 refine regI.one (j:=14) (by kernel_rfl) rfl (regW.of ?_)
 simp only[seval,EMA]
 refine⟨⟨rfl,trivial⟩,?_⟩
 exact regI.nil (by kernel_rfl) ⟨by first | rfl | simp only[seval,FMA,eInt,xMA,xLA],by first | rfl | simp only[seval,FMA,eInt,xMA,xLA]⟩
 refine regW.of ?_
 simp only[seval,EMA]
 refine⟨⟨rfl,trivial⟩,?_⟩
 refine regI.one (j:=7) (by kernel_rfl) rfl (regW.of ?_)
 simp only[seval,EMA]
 refine bN rfl rfl ?_
 simp only[seval,EMA,zB,zA]
 refine⟨⟨rfl,trivial⟩,?_⟩
 refine regI.one (j:=9) (by kernel_rfl) rfl (regW.of ?_)
 simp only[seval,EMA]
 refine .byA (bj.1 _ hy8) (WA ?_)
 refine⟨⟨rfl,trivial⟩,?_⟩
 refine regI.extB (j:=10) (by kernel_rfl) rfl rfl ⟨rfl,trivial⟩ rfl rfl ?_
 simp only[seval,EMA]
 refine regI.extB (j:=11) (by kernel_rfl) rfl rfl ⟨rfl,trivial⟩ rfl rfl ?_
 simp only[seval,EMA]
 refine regI.one (j:=12) (by kernel_rfl) rfl (regW.of ?_)
 simp only[seval,EMA]
 refine bN rfl rfl ?_
 simp only[seval,EMA,zB,zA]
 refine⟨⟨rfl,trivial⟩,?_⟩
 refine regI.one (j:=14) (by kernel_rfl) rfl (regW.of ?_)
 simp only[seval,EMA]
 refine⟨⟨rfl,trivial⟩,?_⟩
 exact regI.nil (by kernel_rfl) ⟨by first | rfl | simp only[seval,FMA,eInt,xMA,xLA],by first | rfl | simp only[seval,FMA,eInt,xMA,xLA]⟩
 refine regW.of ?_
 simp only[seval,EMA]
 refine⟨⟨rfl,trivial⟩,?_⟩
 refine regI.one (j:=4) (by kernel_rfl) rfl (regW.of ?_)
 simp only[seval,EMA]
 refine .byA (bS.1 _ hy7) (WA ?_)
 refine⟨⟨rfl,trivial⟩,?_⟩
 refine regI.extB (j:=5) (by kernel_rfl) rfl rfl ⟨rfl,trivial⟩ rfl rfl ?_
 simp only[seval,EMA]
 refine regI.extB (j:=6) (by kernel_rfl) rfl rfl ⟨rfl,trivial⟩ rfl rfl ?_
 simp only[seval,EMA]
 refine regI.one (j:=7) (by kernel_rfl) rfl (regW.of ?_)
 simp only[seval,EMA]
 refine bN rfl rfl ?_
 simp only[seval,EMA,zB,zA]
 refine⟨⟨rfl,trivial⟩,?_⟩
 refine regI.one (j:=9) (by kernel_rfl) rfl (regW.of ?_)
 simp only[seval,EMA]
 refine .byA (bj.1 _ hy8) (WA ?_)
 refine⟨⟨rfl,trivial⟩,?_⟩
 refine regI.extB (j:=10) (by kernel_rfl) rfl rfl ⟨rfl,trivial⟩ rfl rfl ?_
 simp only[seval,EMA]
 refine regI.extB (j:=11) (by kernel_rfl) rfl rfl ⟨rfl,trivial⟩ rfl rfl ?_
 simp only[seval,EMA]
 refine regI.one (j:=12) (by kernel_rfl) rfl (regW.of ?_)
 simp only[seval,EMA]
 refine bN rfl rfl ?_
 simp only[seval,EMA,zB,zA]
 refine⟨⟨rfl,trivial⟩,?_⟩
 refine regI.one (j:=14) (by kernel_rfl) rfl (regW.of ?_)
 simp only[seval,EMA]
 refine⟨⟨rfl,trivial⟩,?_⟩
 exact regI.nil (by kernel_rfl) ⟨by first | rfl | simp only[seval,FMA,eInt,xMA,xLA],by first | rfl | simp only[seval,FMA,eInt,xMA,xLA]⟩
 refine mU e (.seqK (.bind λy7 hy9=>.bind λy8 hy10=>Mir.regionA 0 [] ([.agg (cX a0),.iptr (jO a0) 0,dI 0,dB false,.ptr 0 0,.ptr 1 0,.ptr 2 0,.ptr 3 0,.ptr 4 0,U,U,.agg [dB true],.ptr 0 0,.ptr 0 0,.ptr 0 0,.iptr (jO a0) 16,.agg (cP a0.M),.tuple [.agg (cW y1.1),dB y1.2],.agg (cW y1.1),dB y1.2,.agg (cW y1.1),.tuple [.agg (cW y2.1),dB y2.2],.agg (cW y2.1),dB y2.2,.agg (cW y2.1),.ptr 0 0,.ptr 0 0,.iptr (jO a0) 20,.agg (cP a0.N),.tuple [.agg (cW y3.1),dB y3.2],.agg (cW y3.1),dB y3.2,.agg (cW y3.1),.tuple [.agg (cW y4.1),dB y4.2],.agg (cW y4.1),dB y4.2,.agg (cW y4.1),.ptr 0 0,.ptr 0 0,.ptr 0 0,dB (((y1.2&&y2.2)&&y3.2)&&y4.2),dB (!(((y1.2&&y2.2)&&y3.2)&&y4.2)),.ptr 0 0,.ptr 0 0,.iptr (jO a0) 4,.agg (cP a0.B),.tuple [.agg (cW y5.1),dB y5.2],.agg (cW y5.1),dB y5.2,.agg (cW y5.1),.agg (cW y2.1),.tuple [.agg (cW y6.1),dB y6.2],.agg (cW y6.1),dB y6.2,.agg (cW y6.1),.ptr 0 0,.ptr 0 0,.iptr (jO a0) 8,.agg (cP a0.C),.tuple [.agg (cW y7.1),dB y7.2],.agg (cW y7.1),dB y7.2,.agg (cW y7.1),.agg (cW y4.1),.tuple [.agg (cW y8.1),dB y8.2],.agg (cW y8.1),dB y8.2,.agg (cW y8.1)]++us 58) ⟨[[dB (((((((y1.2&&y2.2)&&y3.2)&&y4.2)&&y5.2)&&y6.2)&&y7.2)&&y8.2)],(cW y2.1),(cW y4.1),(cW y6.1),(cW y8.1)],[]⟩ (by kernel_rfl) (λe h=>?_) (λe h=>?_))) h
 simp only[seval,EMA,SB]
 refine regI.toA (l:=[(2,[(.i64,y4.1.Low),(.i64,y4.1.High)])]) (regI.moveB (j:=0) (by kernel_rfl) rfl rfl ⟨rfl,trivial⟩ ?_)
 simp only[seval,EMA]
 refine regI.moveB (j:=1) (by kernel_rfl) rfl rfl ⟨rfl,trivial⟩ ?_
 simp only[seval,EMA]
 refine regI.fieldB (j:=2) (y:=.iptr (jO a0) 8) (by kernel_rfl) rfl rfl ⟨rfl,trivial⟩ (by first | simp only[seval,EMA,fld_202_2,sz_59,eInt] | kernel_rfl) ?_
 simp only[seval,EMA]
 refine regI.loadI (j:=3) (y:=.agg (cP a0.C)) (by kernel_rfl) rfl rfl ⟨rfl,trivial⟩ rfl (by first | (simp only[↓reduceIte,nA,nL,mo,ag_59,sz_59,fR,iS,SV]<;>rfl) | simp only[seval,EMA,ag_59,sz_59,eInt] | kernel_rfl) ?_
 simp only[seval,EMA]
 refine regI.loadN (j:=8) (k:=2) (y:=.agg (cW y4.1)) (by kernel_rfl) rfl rfl ⟨rfl,trivial⟩ (by first | exact .head _ | exact .tail _ (.head _) | exact .tail _ (.tail _ (.head _))) rfl (by first | (simp only[↓reduceIte,nA,nL,mo,jF,jy,fR,iS,ivs,zE,zF,SV]<;>rfl) | simp only[seval,EMA,jF,jy,eInt] | kernel_rfl) ?_
 simp only[seval,EMA]
 refine regI.two (j:=4) (i:=13) (by kernel_rfl) rfl rfl ?_ ?_
 refine regW.of ?_
 simp only[seval,EMA]
 refine .byA (bS.1 _ hy9) (WA ?_)
 refine⟨⟨rfl,trivial⟩,?_⟩
 refine regI.extB (j:=5) (by kernel_rfl) rfl rfl ⟨rfl,trivial⟩ rfl rfl ?_
 simp only[seval,EMA]
 refine regI.extB (j:=6) (by kernel_rfl) rfl rfl ⟨rfl,trivial⟩ rfl rfl ?_
 simp only[seval,EMA]
 refine regI.two (j:=7) (i:=13) (by kernel_rfl) rfl rfl ?_ ?_
 refine regW.of ?_
 simp only[seval,EMA]
 refine bN rfl rfl ?_
 simp only[seval,EMA,zB,zA]
 refine⟨⟨rfl,trivial⟩,?_⟩
 refine regI.two (j:=9) (i:=13) (by kernel_rfl) rfl rfl ?_ ?_
 refine regW.of ?_
 simp only[seval,EMA]
 refine .byA (bj.1 _ hy10) (WA ?_)
 refine⟨⟨rfl,trivial⟩,?_⟩
 refine regI.extB (j:=10) (by kernel_rfl) rfl rfl ⟨rfl,trivial⟩ rfl rfl ?_
 simp only[seval,EMA]
 refine regI.extB (j:=11) (by kernel_rfl) rfl rfl ⟨rfl,trivial⟩ rfl rfl ?_
 simp only[seval,EMA]
 refine regI.two (j:=12) (i:=13) (by kernel_rfl) rfl rfl ?_ ?_
 refine regW.of ?_
 simp only[seval,EMA]
 refine bN rfl rfl ?_
 simp only[seval,EMA,zB,zA]
 refine⟨⟨rfl,trivial⟩,?_⟩
 refine regI.one (j:=13) (by kernel_rfl) rfl (regW.of ?_)
 simp only[seval,EMA]
 refine⟨⟨rfl,trivial⟩,?_⟩
 refine regI.one (j:=14) (by kernel_rfl) rfl (regW.of ?_)
 simp only[seval,EMA]
 refine⟨⟨rfl,trivial⟩,?_⟩
 exact regI.nil (by kernel_rfl) ⟨by first | rfl | simp only[seval,FMA,eInt,xMA,xLA],by first | rfl | simp only[seval,FMA,eInt,xMA,xLA]⟩
 refine regW.of ?_
 simp only[seval,EMA]
 refine⟨⟨rfl,trivial⟩,?_⟩
 refine regI.one (j:=12) (by kernel_rfl) rfl (regW.of ?_)
 simp only[seval,EMA]
 refine bN rfl rfl ?_
 simp only[seval,EMA,zB,zA]
 refine⟨⟨rfl,trivial⟩,?_⟩
 refine regI.one (j:=14) (by kernel_rfl) rfl (regW.of ?_)
 simp only[seval,EMA]
 refine⟨⟨rfl,trivial⟩,?_⟩
 exact regI.nil (by kernel_rfl) ⟨by first | rfl | simp only[seval,FMA,eInt,xMA,xLA],by first | rfl | simp only[seval,FMA,eInt,xMA,xLA]⟩
 refine regW.of ?_
 simp only[seval,EMA]
 refine⟨⟨rfl,trivial⟩,?_⟩
 refine regI.one (j:=9) (by kernel_rfl) rfl (regW.of ?_)
 simp only[seval,EMA]
 refine .byA (bj.1 _ hy10) (WA ?_)
 refine⟨⟨rfl,trivial⟩,?_⟩
 refine regI.extB (j:=10) (by kernel_rfl) rfl rfl ⟨rfl,trivial⟩ rfl rfl ?_
 simp only[seval,EMA]
 refine regI.extB (j:=11) (by kernel_rfl) rfl rfl ⟨rfl,trivial⟩ rfl rfl ?_
 simp only[seval,EMA]
 refine regI.one (j:=12) (by kernel_rfl) rfl (regW.of ?_)
 simp only[seval,EMA]
 refine bN rfl rfl ?_
 simp only[seval,EMA,zB,zA]
 refine⟨⟨rfl,trivial⟩,?_⟩
 refine regI.one (j:=14) (by kernel_rfl) rfl (regW.of ?_)
 simp only[seval,EMA]
 refine⟨⟨rfl,trivial⟩,?_⟩
 exact regI.nil (by kernel_rfl) ⟨by first | rfl | simp only[seval,FMA,eInt,xMA,xLA],by first | rfl | simp only[seval,FMA,eInt,xMA,xLA]⟩
 refine regW.of ?_
 simp only[seval,EMA]
 refine⟨⟨rfl,trivial⟩,?_⟩
 refine regI.one (j:=7) (by kernel_rfl) rfl (regW.of ?_)
 simp only[seval,EMA]
 refine bN rfl rfl ?_
 simp only[seval,EMA,zB,zA]
 refine⟨⟨rfl,trivial⟩,?_⟩
 refine regI.one (j:=9) (by kernel_rfl) rfl (regW.of ?_)
 simp only[seval,EMA]
 refine .byA (bj.1 _ hy10) (WA ?_)
 refine⟨⟨rfl,trivial⟩,?_⟩
 refine regI.extB (j:=10) (by kernel_rfl) rfl rfl ⟨rfl,trivial⟩ rfl rfl ?_
 simp only[seval,EMA]
 refine regI.extB (j:=11) (by kernel_rfl) rfl rfl ⟨rfl,trivial⟩ rfl rfl ?_
 simp only[seval,EMA]
 refine regI.one (j:=12) (by kernel_rfl) rfl (regW.of ?_)
 simp only[seval,EMA]
 refine bN rfl rfl ?_
 simp only[seval,EMA,zB,zA]
 refine⟨⟨rfl,trivial⟩,?_⟩
 refine regI.one (j:=14) (by kernel_rfl) rfl (regW.of ?_)
 simp only[seval,EMA]
 refine⟨⟨rfl,trivial⟩,?_⟩
 exact regI.nil (by kernel_rfl) ⟨by first | rfl | simp only[seval,FMA,eInt,xMA,xLA],by first | rfl | simp only[seval,FMA,eInt,xMA,xLA]⟩
 refine regW.of ?_
 simp only[seval,EMA]
 refine⟨⟨rfl,trivial⟩,?_⟩
 refine regI.one (j:=4) (by kernel_rfl) rfl (regW.of ?_)
 simp only[seval,EMA]
 refine .byA (bS.1 _ hy9) (WA ?_)
 refine⟨⟨rfl,trivial⟩,?_⟩
 refine regI.extB (j:=5) (by kernel_rfl) rfl rfl ⟨rfl,trivial⟩ rfl rfl ?_
 simp only[seval,EMA]
 refine regI.extB (j:=6) (by kernel_rfl) rfl rfl ⟨rfl,trivial⟩ rfl rfl ?_
 simp only[seval,EMA]
 refine regI.one (j:=7) (by kernel_rfl) rfl (regW.of ?_)
 simp only[seval,EMA]
 refine bN rfl rfl ?_
 simp only[seval,EMA,zB,zA]
 refine⟨⟨rfl,trivial⟩,?_⟩
 refine regI.one (j:=9) (by kernel_rfl) rfl (regW.of ?_)
 simp only[seval,EMA]
 refine .byA (bj.1 _ hy10) (WA ?_)
 refine⟨⟨rfl,trivial⟩,?_⟩
 refine regI.extB (j:=10) (by kernel_rfl) rfl rfl ⟨rfl,trivial⟩ rfl rfl ?_
 simp only[seval,EMA]
 refine regI.extB (j:=11) (by kernel_rfl) rfl rfl ⟨rfl,trivial⟩ rfl rfl ?_
 simp only[seval,EMA]
 refine regI.one (j:=12) (by kernel_rfl) rfl (regW.of ?_)
 simp only[seval,EMA]
 refine bN rfl rfl ?_
 simp only[seval,EMA,zB,zA]
 refine⟨⟨rfl,trivial⟩,?_⟩
 refine regI.one (j:=14) (by kernel_rfl) rfl (regW.of ?_)
 simp only[seval,EMA]
 refine⟨⟨rfl,trivial⟩,?_⟩
 exact regI.nil (by kernel_rfl) ⟨by first | rfl | simp only[seval,FMA,eInt,xMA,xLA],by first | rfl | simp only[seval,FMA,eInt,xMA,xLA]⟩
 refine mU e (.seqK (.bind λy9 hy11=>.bind λy10 hy12=>.bind λy11 hy13=>Mir.regionA 0 [] ([.agg (cX a0),.iptr (jO a0) 0,dI 0,dB false,.ptr 0 0,.ptr 1 0,.ptr 2 0,.ptr 3 0,.ptr 4 0,.ptr 5 0,U,.agg [dB true],.ptr 0 0,.ptr 0 0,.ptr 0 0,.iptr (jO a0) 16,.agg (cP a0.M),.tuple [.agg (cW y1.1),dB y1.2],.agg (cW y1.1),dB y1.2,.agg (cW y1.1),.tuple [.agg (cW y2.1),dB y2.2],.agg (cW y2.1),dB y2.2,.agg (cW y2.1),.ptr 0 0,.ptr 0 0,.iptr (jO a0) 20,.agg (cP a0.N),.tuple [.agg (cW y3.1),dB y3.2],.agg (cW y3.1),dB y3.2,.agg (cW y3.1),.tuple [.agg (cW y4.1),dB y4.2],.agg (cW y4.1),dB y4.2,.agg (cW y4.1),.ptr 0 0,.ptr 0 0,.ptr 0 0,dB (((y1.2&&y2.2)&&y3.2)&&y4.2),dB (!(((y1.2&&y2.2)&&y3.2)&&y4.2)),.ptr 0 0,.ptr 0 0,.iptr (jO a0) 4,.agg (cP a0.B),.tuple [.agg (cW y5.1),dB y5.2],.agg (cW y5.1),dB y5.2,.agg (cW y5.1),.agg (cW y2.1),.tuple [.agg (cW y6.1),dB y6.2],.agg (cW y6.1),dB y6.2,.agg (cW y6.1),.ptr 0 0,.ptr 0 0,.iptr (jO a0) 8,.agg (cP a0.C),.tuple [.agg (cW y7.1),dB y7.2],.agg (cW y7.1),dB y7.2,.agg (cW y7.1),.agg (cW y4.1),.tuple [.agg (cW y8.1),dB y8.2],.agg (cW y8.1),dB y8.2,.agg (cW y8.1),.ptr 0 0,.ptr 0 0,.iptr (jO a0) 12,.agg (cP a0.D),.tuple [.agg (cW y9.1),dB y9.2],.agg (cW y9.1),dB y9.2,.agg (cW y9.1),.ptr 0 0,.agg (cW y2.1),.agg (cW y4.1),.tuple [.agg (cW y10.1),dB y10.2],.agg (cW y10.1),dB y10.2,.agg (cW y10.1),.tuple [.agg (cW y11.1),dB y11.2],.agg (cW y11.1),dB y11.2,.agg (cW y11.1)]++us 39) ⟨[[dB ((((((((((y1.2&&y2.2)&&y3.2)&&y4.2)&&y5.2)&&y6.2)&&y7.2)&&y8.2)&&y9.2)&&y10.2)&&y11.2)],(cW y2.1),(cW y4.1),(cW y6.1),(cW y8.1),(cW y11.1)],[]⟩ (by kernel_rfl) (λe h=>?_) (λe h=>?_))) h
 simp only[seval,EMA,SB]
 refine regI.toA (l:=[(1,[(.i64,y2.1.Low),(.i64,y2.1.High)]),(2,[(.i64,y4.1.Low),(.i64,y4.1.High)])]) (regI.moveB (j:=0) (by kernel_rfl) rfl rfl ⟨rfl,rfl,trivial⟩ ?_)
 simp only[seval,EMA]
 refine regI.moveB (j:=1) (by kernel_rfl) rfl rfl ⟨rfl,rfl,trivial⟩ ?_
 simp only[seval,EMA]
 refine regI.fieldB (j:=2) (y:=.iptr (jO a0) 12) (by kernel_rfl) rfl rfl ⟨rfl,rfl,trivial⟩ (by first | simp only[seval,EMA,fld_202_3,sz_59,eInt] | kernel_rfl) ?_
 simp only[seval,EMA]
 refine regI.loadI (j:=3) (y:=.agg (cP a0.D)) (by kernel_rfl) rfl rfl ⟨rfl,rfl,trivial⟩ rfl (by first | (simp only[↓reduceIte,nA,nL,mo,ag_59,sz_59,fR,iS,SV]<;>rfl) | simp only[seval,EMA,ag_59,sz_59,eInt] | kernel_rfl) ?_
 simp only[seval,EMA]
 refine regI.moveB (j:=8) (by kernel_rfl) rfl rfl ⟨rfl,rfl,trivial⟩ ?_
 simp only[seval,EMA]
 refine regI.loadN (j:=9) (k:=1) (y:=.agg (cW y2.1)) (by kernel_rfl) rfl rfl ⟨rfl,rfl,trivial⟩ (by first | exact .head _ | exact .tail _ (.head _) | exact .tail _ (.tail _ (.head _))) rfl (by first | (simp only[↓reduceIte,nA,nL,mo,jF,jy,fR,iS,ivs,zE,zF,SV]<;>rfl) | simp only[seval,EMA,jF,jy,eInt] | kernel_rfl) ?_
 simp only[seval,EMA]
 refine regI.loadN (j:=10) (k:=2) (y:=.agg (cW y4.1)) (by kernel_rfl) rfl rfl ⟨rfl,rfl,trivial⟩ (by first | exact .head _ | exact .tail _ (.head _) | exact .tail _ (.tail _ (.head _))) rfl (by first | (simp only[↓reduceIte,nA,nL,mo,jF,jy,fR,iS,ivs,zE,zF,SV]<;>rfl) | simp only[seval,EMA,jF,jy,eInt] | kernel_rfl) ?_
 simp only[seval,EMA]
 refine regI.two (j:=4) (i:=19) (by kernel_rfl) rfl rfl ?_ ?_
 refine regW.of ?_
 simp only[seval,EMA]
 refine .byA (bS.1 _ hy11) (WA ?_)
 refine⟨⟨rfl,rfl,trivial⟩,?_⟩
 refine regI.extB (j:=5) (by kernel_rfl) rfl rfl ⟨rfl,rfl,trivial⟩ rfl rfl ?_
 simp only[seval,EMA]
 refine regI.extB (j:=6) (by kernel_rfl) rfl rfl ⟨rfl,rfl,trivial⟩ rfl rfl ?_
 simp only[seval,EMA]
 refine regI.two (j:=7) (i:=19) (by kernel_rfl) rfl rfl ?_ ?_
 refine regW.of ?_
 simp only[seval,EMA]
 refine bN rfl rfl ?_
 simp only[seval,EMA,zB,zA]
 refine⟨⟨rfl,rfl,trivial⟩,?_⟩
 refine regI.two (j:=11) (i:=19) (by kernel_rfl) rfl rfl ?_ ?_
 refine regW.of ?_
 simp only[seval,EMA]
 refine .byA (bj.1 _ hy12) (WA ?_)
 refine⟨⟨rfl,rfl,trivial⟩,?_⟩
 refine regI.extB (j:=12) (by kernel_rfl) rfl rfl ⟨rfl,rfl,trivial⟩ rfl rfl ?_
 simp only[seval,EMA]
 refine regI.extB (j:=13) (by kernel_rfl) rfl rfl ⟨rfl,rfl,trivial⟩ rfl rfl ?_
 simp only[seval,EMA]
 refine regI.two (j:=14) (i:=19) (by kernel_rfl) rfl rfl ?_ ?_
 refine regW.of ?_
 simp only[seval,EMA]
 refine bN rfl rfl ?_
 simp only[seval,EMA,zB,zA]
 refine⟨⟨rfl,rfl,trivial⟩,?_⟩
 refine regI.two (j:=15) (i:=19) (by kernel_rfl) rfl rfl ?_ ?_
 refine regW.of ?_
 simp only[seval,EMA]
 refine .byA (bj.1 _ hy13) (WA ?_)
 refine⟨⟨rfl,rfl,trivial⟩,?_⟩
 refine regI.extB (j:=16) (by kernel_rfl) rfl rfl ⟨rfl,rfl,trivial⟩ rfl rfl ?_
 simp only[seval,EMA]
 refine regI.extB (j:=17) (by kernel_rfl) rfl rfl ⟨rfl,rfl,trivial⟩ rfl rfl ?_
 simp only[seval,EMA]
 refine regI.two (j:=18) (i:=19) (by kernel_rfl) rfl rfl ?_ ?_
 refine regW.of ?_
 simp only[seval,EMA]
 refine bN rfl rfl ?_
 simp only[seval,EMA,zB,zA]
 refine⟨⟨rfl,rfl,trivial⟩,?_⟩
 refine regI.one (j:=19) (by kernel_rfl) rfl (regW.of ?_)
 simp only[seval,EMA]
 refine⟨⟨rfl,rfl,trivial⟩,?_⟩
 refine regI.one (j:=20) (by kernel_rfl) rfl (regW.of ?_)
 simp only[seval,EMA]
 refine⟨⟨rfl,rfl,trivial⟩,?_⟩
 exact regI.nil (by kernel_rfl) ⟨by first | rfl | simp only[seval,FMA,eInt,xMA,xLA],by first | rfl | simp only[seval,FMA,eInt,xMA,xLA]⟩
 refine regW.of ?_
 simp only[seval,EMA]
 refine⟨⟨rfl,rfl,trivial⟩,?_⟩
 refine regI.one (j:=18) (by kernel_rfl) rfl (regW.of ?_)
 simp only[seval,EMA]
 refine bN rfl rfl ?_
 simp only[seval,EMA,zB,zA]
 refine⟨⟨rfl,rfl,trivial⟩,?_⟩
 refine regI.one (j:=20) (by kernel_rfl) rfl (regW.of ?_)
 simp only[seval,EMA]
 refine⟨⟨rfl,rfl,trivial⟩,?_⟩
 exact regI.nil (by kernel_rfl) ⟨by first | rfl | simp only[seval,FMA,eInt,xMA,xLA],by first | rfl | simp only[seval,FMA,eInt,xMA,xLA]⟩
 refine regW.of ?_
 simp only[seval,EMA]
 refine⟨⟨rfl,rfl,trivial⟩,?_⟩
 refine regI.one (j:=15) (by kernel_rfl) rfl (regW.of ?_)
 simp only[seval,EMA]
 refine .byA (bj.1 _ hy13) (WA ?_)
 refine⟨⟨rfl,rfl,trivial⟩,?_⟩
 refine regI.extB (j:=16) (by kernel_rfl) rfl rfl ⟨rfl,rfl,trivial⟩ rfl rfl ?_
 simp only[seval,EMA]
 refine regI.extB (j:=17) (by kernel_rfl) rfl rfl ⟨rfl,rfl,trivial⟩ rfl rfl ?_
 simp only[seval,EMA]
 refine regI.one (j:=18) (by kernel_rfl) rfl (regW.of ?_)
 simp only[seval,EMA]
 refine bN rfl rfl ?_
 simp only[seval,EMA,zB,zA]
 refine⟨⟨rfl,rfl,trivial⟩,?_⟩
 refine regI.one (j:=20) (by kernel_rfl) rfl (regW.of ?_)
 simp only[seval,EMA]
 refine⟨⟨rfl,rfl,trivial⟩,?_⟩
 exact regI.nil (by kernel_rfl) ⟨by first | rfl | simp only[seval,FMA,eInt,xMA,xLA],by first | rfl | simp only[seval,FMA,eInt,xMA,xLA]⟩
 refine regW.of ?_
 simp only[seval,EMA]
 refine⟨⟨rfl,rfl,trivial⟩,?_⟩
 refine regI.one (j:=14) (by kernel_rfl) rfl (regW.of ?_)
 simp only[seval,EMA]
 refine bN rfl rfl ?_
 simp only[seval,EMA,zB,zA]
 refine⟨⟨rfl,rfl,trivial⟩,?_⟩
 refine regI.one (j:=15) (by kernel_rfl) rfl (regW.of ?_)
 simp only[seval,EMA]
 refine .byA (bj.1 _ hy13) (WA ?_)
 refine⟨⟨rfl,rfl,trivial⟩,?_⟩
 refine regI.extB (j:=16) (by kernel_rfl) rfl rfl ⟨rfl,rfl,trivial⟩ rfl rfl ?_
 simp only[seval,EMA]
 refine regI.extB (j:=17) (by kernel_rfl) rfl rfl ⟨rfl,rfl,trivial⟩ rfl rfl ?_
 simp only[seval,EMA]
 refine regI.one (j:=18) (by kernel_rfl) rfl (regW.of ?_)
 simp only[seval,EMA]
 refine bN rfl rfl ?_
 simp only[seval,EMA,zB,zA]
 refine⟨⟨rfl,rfl,trivial⟩,?_⟩
 refine regI.one (j:=20) (by kernel_rfl) rfl (regW.of ?_)
 simp only[seval,EMA]
 refine⟨⟨rfl,rfl,trivial⟩,?_⟩
 exact regI.nil (by kernel_rfl) ⟨by first | rfl | simp only[seval,FMA,eInt,xMA,xLA],by first | rfl | simp only[seval,FMA,eInt,xMA,xLA]⟩
 refine regW.of ?_
 simp only[seval,EMA]
 refine⟨⟨rfl,rfl,trivial⟩,?_⟩
 refine regI.one (j:=11) (by kernel_rfl) rfl (regW.of ?_)
 simp only[seval,EMA]
 refine .byA (bj.1 _ hy12) (WA ?_)
 refine⟨⟨rfl,rfl,trivial⟩,?_⟩
 refine regI.extB (j:=12) (by kernel_rfl) rfl rfl ⟨rfl,rfl,trivial⟩ rfl rfl ?_
 simp only[seval,EMA]
 refine regI.extB (j:=13) (by kernel_rfl) rfl rfl ⟨rfl,rfl,trivial⟩ rfl rfl ?_
 simp only[seval,EMA]
 refine regI.one (j:=14) (by kernel_rfl) rfl (regW.of ?_)
 simp only[seval,EMA]
 refine bN rfl rfl ?_
 simp only[seval,EMA,zB,zA]
 refine⟨⟨rfl,rfl,trivial⟩,?_⟩
 refine regI.one (j:=15) (by kernel_rfl) rfl (regW.of ?_)
 simp only[seval,EMA]
 refine .byA (bj.1 _ hy13) (WA ?_)
 refine⟨⟨rfl,rfl,trivial⟩,?_⟩
 refine regI.extB (j:=16) (by kernel_rfl) rfl rfl ⟨rfl,rfl,trivial⟩ rfl rfl ?_
 simp only[seval,EMA]
 refine regI.extB (j:=17) (by kernel_rfl) rfl rfl ⟨rfl,rfl,trivial⟩ rfl rfl ?_
 simp only[seval,EMA]
 refine regI.one (j:=18) (by kernel_rfl) rfl (regW.of ?_)
 simp only[seval,EMA]
 refine bN rfl rfl ?_
 simp only[seval,EMA,zB,zA]
 refine⟨⟨rfl,rfl,trivial⟩,?_⟩
 refine regI.one (j:=20) (by kernel_rfl) rfl (regW.of ?_)
 simp only[seval,EMA]
 refine⟨⟨rfl,rfl,trivial⟩,?_⟩
 exact regI.nil (by kernel_rfl) ⟨by first | rfl | simp only[seval,FMA,eInt,xMA,xLA],by first | rfl | simp only[seval,FMA,eInt,xMA,xLA]⟩
 refine regW.of ?_
 simp only[seval,EMA]
 refine⟨⟨rfl,rfl,trivial⟩,?_⟩
 refine regI.one (j:=7) (by kernel_rfl) rfl (regW.of ?_)
 simp only[seval,EMA]
 refine bN rfl rfl ?_
 simp only[seval,EMA,zB,zA]
 refine⟨⟨rfl,rfl,trivial⟩,?_⟩
 refine regI.one (j:=11) (by kernel_rfl) rfl (regW.of ?_)
 simp only[seval,EMA]
 refine .byA (bj.1 _ hy12) (WA ?_)
 refine⟨⟨rfl,rfl,trivial⟩,?_⟩
 refine regI.extB (j:=12) (by kernel_rfl) rfl rfl ⟨rfl,rfl,trivial⟩ rfl rfl ?_
 simp only[seval,EMA]
 refine regI.extB (j:=13) (by kernel_rfl) rfl rfl ⟨rfl,rfl,trivial⟩ rfl rfl ?_
 simp only[seval,EMA]
 refine regI.one (j:=14) (by kernel_rfl) rfl (regW.of ?_)
 simp only[seval,EMA]
 refine bN rfl rfl ?_
 simp only[seval,EMA,zB,zA]
 refine⟨⟨rfl,rfl,trivial⟩,?_⟩
 refine regI.one (j:=15) (by kernel_rfl) rfl (regW.of ?_)
 simp only[seval,EMA]
 refine .byA (bj.1 _ hy13) (WA ?_)
 refine⟨⟨rfl,rfl,trivial⟩,?_⟩
 refine regI.extB (j:=16) (by kernel_rfl) rfl rfl ⟨rfl,rfl,trivial⟩ rfl rfl ?_
 simp only[seval,EMA]
 refine regI.extB (j:=17) (by kernel_rfl) rfl rfl ⟨rfl,rfl,trivial⟩ rfl rfl ?_
 simp only[seval,EMA]
 refine regI.one (j:=18) (by kernel_rfl) rfl (regW.of ?_)
 simp only[seval,EMA]
 refine bN rfl rfl ?_
 simp only[seval,EMA,zB,zA]
 refine⟨⟨rfl,rfl,trivial⟩,?_⟩
 refine regI.one (j:=20) (by kernel_rfl) rfl (regW.of ?_)
 simp only[seval,EMA]
 refine⟨⟨rfl,rfl,trivial⟩,?_⟩
 exact regI.nil (by kernel_rfl) ⟨by first | rfl | simp only[seval,FMA,eInt,xMA,xLA],by first | rfl | simp only[seval,FMA,eInt,xMA,xLA]⟩
 refine regW.of ?_
 simp only[seval,EMA]
 refine⟨⟨rfl,rfl,trivial⟩,?_⟩
 refine regI.one (j:=4) (by kernel_rfl) rfl (regW.of ?_)
 simp only[seval,EMA]
 refine .byA (bS.1 _ hy11) (WA ?_)
 refine⟨⟨rfl,rfl,trivial⟩,?_⟩
 refine regI.extB (j:=5) (by kernel_rfl) rfl rfl ⟨rfl,rfl,trivial⟩ rfl rfl ?_
 simp only[seval,EMA]
 refine regI.extB (j:=6) (by kernel_rfl) rfl rfl ⟨rfl,rfl,trivial⟩ rfl rfl ?_
 simp only[seval,EMA]
 refine regI.one (j:=7) (by kernel_rfl) rfl (regW.of ?_)
 simp only[seval,EMA]
 refine bN rfl rfl ?_
 simp only[seval,EMA,zB,zA]
 refine⟨⟨rfl,rfl,trivial⟩,?_⟩
 refine regI.one (j:=11) (by kernel_rfl) rfl (regW.of ?_)
 simp only[seval,EMA]
 refine .byA (bj.1 _ hy12) (WA ?_)
 refine⟨⟨rfl,rfl,trivial⟩,?_⟩
 refine regI.extB (j:=12) (by kernel_rfl) rfl rfl ⟨rfl,rfl,trivial⟩ rfl rfl ?_
 simp only[seval,EMA]
 refine regI.extB (j:=13) (by kernel_rfl) rfl rfl ⟨rfl,rfl,trivial⟩ rfl rfl ?_
 simp only[seval,EMA]
 refine regI.one (j:=14) (by kernel_rfl) rfl (regW.of ?_)
 simp only[seval,EMA]
 refine bN rfl rfl ?_
 simp only[seval,EMA,zB,zA]
 refine⟨⟨rfl,rfl,trivial⟩,?_⟩
 refine regI.one (j:=15) (by kernel_rfl) rfl (regW.of ?_)
 simp only[seval,EMA]
 refine .byA (bj.1 _ hy13) (WA ?_)
 refine⟨⟨rfl,rfl,trivial⟩,?_⟩
 refine regI.extB (j:=16) (by kernel_rfl) rfl rfl ⟨rfl,rfl,trivial⟩ rfl rfl ?_
 simp only[seval,EMA]
 refine regI.extB (j:=17) (by kernel_rfl) rfl rfl ⟨rfl,rfl,trivial⟩ rfl rfl ?_
 simp only[seval,EMA]
 refine regI.one (j:=18) (by kernel_rfl) rfl (regW.of ?_)
 simp only[seval,EMA]
 refine bN rfl rfl ?_
 simp only[seval,EMA,zB,zA]
 refine⟨⟨rfl,rfl,trivial⟩,?_⟩
 refine regI.one (j:=20) (by kernel_rfl) rfl (regW.of ?_)
 simp only[seval,EMA]
 refine⟨⟨rfl,rfl,trivial⟩,?_⟩
 exact regI.nil (by kernel_rfl) ⟨by first | rfl | simp only[seval,FMA,eInt,xMA,xLA],by first | rfl | simp only[seval,FMA,eInt,xMA,xLA]⟩
 refine mU e (.seqK (.sA ?_)) h
 refine .cond rfl (λhb15=>?_) (λhb15=>?_)
 refine .sA ?_
 refine .ret QA
 refine .skip (Mir.toK (.seqK (.bind λy12 hy16=>.bind λy13 hy17=>.bind λy14 hy18=>.bind λy15 hy19=>Mir.regionA 0 [] ([.agg (cX a0),.iptr (jO a0) 0,dI 0,dB false,.ptr 0 0,.ptr 1 0,.ptr 2 0,.ptr 3 0,.ptr 4 0,.ptr 5 0,.ptr 6 0,.agg [dB true],.ptr 0 0,.ptr 0 0,.ptr 0 0,.iptr (jO a0) 16,.agg (cP a0.M),.tuple [.agg (cW y1.1),dB y1.2],.agg (cW y1.1),dB y1.2,.agg (cW y1.1),.tuple [.agg (cW y2.1),dB y2.2],.agg (cW y2.1),dB y2.2,.agg (cW y2.1),.ptr 0 0,.ptr 0 0,.iptr (jO a0) 20,.agg (cP a0.N),.tuple [.agg (cW y3.1),dB y3.2],.agg (cW y3.1),dB y3.2,.agg (cW y3.1),.tuple [.agg (cW y4.1),dB y4.2],.agg (cW y4.1),dB y4.2,.agg (cW y4.1),.ptr 0 0,.ptr 0 0,.ptr 0 0,dB (((y1.2&&y2.2)&&y3.2)&&y4.2),dB (!(((y1.2&&y2.2)&&y3.2)&&y4.2)),.ptr 0 0,.ptr 0 0,.iptr (jO a0) 4,.agg (cP a0.B),.tuple [.agg (cW y5.1),dB y5.2],.agg (cW y5.1),dB y5.2,.agg (cW y5.1),.agg (cW y2.1),.tuple [.agg (cW y6.1),dB y6.2],.agg (cW y6.1),dB y6.2,.agg (cW y6.1),.ptr 0 0,.ptr 0 0,.iptr (jO a0) 8,.agg (cP a0.C),.tuple [.agg (cW y7.1),dB y7.2],.agg (cW y7.1),dB y7.2,.agg (cW y7.1),.agg (cW y4.1),.tuple [.agg (cW y8.1),dB y8.2],.agg (cW y8.1),dB y8.2,.agg (cW y8.1),.ptr 0 0,.ptr 0 0,.iptr (jO a0) 12,.agg (cP a0.D),.tuple [.agg (cW y9.1),dB y9.2],.agg (cW y9.1),dB y9.2,.agg (cW y9.1),.ptr 0 0,.agg (cW y2.1),.agg (cW y4.1),.tuple [.agg (cW y10.1),dB y10.2],.agg (cW y10.1),dB y10.2,.agg (cW y10.1),.tuple [.agg (cW y11.1),dB y11.2],.agg (cW y11.1),dB y11.2,.agg (cW y11.1),.ptr 0 0,.ptr 0 0,.ptr 0 0,dB ((((((((((y1.2&&y2.2)&&y3.2)&&y4.2)&&y5.2)&&y6.2)&&y7.2)&&y8.2)&&y9.2)&&y10.2)&&y11.2),dB (!((((((((((y1.2&&y2.2)&&y3.2)&&y4.2)&&y5.2)&&y6.2)&&y7.2)&&y8.2)&&y9.2)&&y10.2)&&y11.2)),.ptr 0 0,.ptr 0 0,.ptr 0 0,.iptr (jO a0) 0,.agg (cP a0.A),.tuple [.agg (cW y12.1),dB y12.2],.agg (cW y12.1),dB y12.2,.agg (cW y12.1),.agg (cW y6.1),.tuple [.agg (cW y13.1),dB y13.2],.agg (cW y13.1),dB y13.2,.agg (cW y13.1),.ptr 0 0,.agg (cW y8.1),.agg (cW y11.1),.tuple [.agg (cW y14.1),dB y14.2],.agg (cW y14.1),dB y14.2,.agg (cW y14.1),.tuple [.agg (cW y15.1),dB y15.2],.agg (cW y15.1),dB y15.2,.agg (cW y15.1)]++us 9) ⟨[[dB ((((((((((((((y1.2&&y2.2)&&y3.2)&&y4.2)&&y5.2)&&y6.2)&&y7.2)&&y8.2)&&y9.2)&&y10.2)&&y11.2)&&y12.2)&&y13.2)&&y14.2)&&y15.2)],(cW y2.1),(cW y4.1),(cW y6.1),(cW y8.1),(cW y11.1),(cW y15.1)],[]⟩ (by kernel_rfl) (λe h=>?_) (λe h=>?_))))
 simp only[seval,EMA,SB]
 refine regI.toA (l:=[(3,[(.i64,y6.1.Low),(.i64,y6.1.High)]),(4,[(.i64,y8.1.Low),(.i64,y8.1.High)]),(5,[(.i64,y11.1.Low),(.i64,y11.1.High)])]) (regI.moveB (j:=0) (by kernel_rfl) rfl rfl ⟨rfl,rfl,rfl,trivial⟩ ?_)
 simp only[seval,EMA]
 refine regI.moveB (j:=1) (by kernel_rfl) rfl rfl ⟨rfl,rfl,rfl,trivial⟩ ?_
 simp only[seval,EMA]
 refine regI.moveB (j:=2) (by kernel_rfl) rfl rfl ⟨rfl,rfl,rfl,trivial⟩ ?_
 simp only[seval,EMA]
 refine regI.fieldB (j:=3) (y:=.iptr (jO a0) 0) (by kernel_rfl) rfl rfl ⟨rfl,rfl,rfl,trivial⟩ (by first | simp only[seval,EMA,fld_202_0,sz_59,eInt] | kernel_rfl) ?_
 simp only[seval,EMA]
 refine regI.loadI (j:=4) (y:=.agg (cP a0.A)) (by kernel_rfl) rfl rfl ⟨rfl,rfl,rfl,trivial⟩ rfl (by first | (simp only[↓reduceIte,nA,nL,mo,ag_59,sz_59,fR,iS,SV]<;>rfl) | simp only[seval,EMA,ag_59,sz_59,eInt] | kernel_rfl) ?_
 simp only[seval,EMA]
 refine regI.loadN (j:=9) (k:=3) (y:=.agg (cW y6.1)) (by kernel_rfl) rfl rfl ⟨rfl,rfl,rfl,trivial⟩ (by first | exact .head _ | exact .tail _ (.head _) | exact .tail _ (.tail _ (.head _))) rfl (by first | (simp only[↓reduceIte,nA,nL,mo,jF,jy,fR,iS,ivs,zE,zF,SV]<;>rfl) | simp only[seval,EMA,jF,jy,eInt] | kernel_rfl) ?_
 simp only[seval,EMA]
 refine regI.moveB (j:=14) (by kernel_rfl) rfl rfl ⟨rfl,rfl,rfl,trivial⟩ ?_
 simp only[seval,EMA]
 refine regI.loadN (j:=15) (k:=4) (y:=.agg (cW y8.1)) (by kernel_rfl) rfl rfl ⟨rfl,rfl,rfl,trivial⟩ (by first | exact .head _ | exact .tail _ (.head _) | exact .tail _ (.tail _ (.head _))) rfl (by first | (simp only[↓reduceIte,nA,nL,mo,jF,jy,fR,iS,ivs,zE,zF,SV]<;>rfl) | simp only[seval,EMA,jF,jy,eInt] | kernel_rfl) ?_
 simp only[seval,EMA]
 refine regI.loadN (j:=16) (k:=5) (y:=.agg (cW y11.1)) (by kernel_rfl) rfl rfl ⟨rfl,rfl,rfl,trivial⟩ (by first | exact .head _ | exact .tail _ (.head _) | exact .tail _ (.tail _ (.head _))) rfl (by first | (simp only[↓reduceIte,nA,nL,mo,jF,jy,fR,iS,ivs,zE,zF,SV]<;>rfl) | simp only[seval,EMA,jF,jy,eInt] | kernel_rfl) ?_
 simp only[seval,EMA]
 refine regI.two (j:=5) (i:=25) (by kernel_rfl) rfl rfl ?_ ?_
 refine regW.of ?_
 simp only[seval,EMA]
 refine .byA (bS.1 _ hy16) (WA ?_)
 refine⟨⟨rfl,rfl,rfl,trivial⟩,?_⟩
 refine regI.extB (j:=6) (by kernel_rfl) rfl rfl ⟨rfl,rfl,rfl,trivial⟩ rfl rfl ?_
 simp only[seval,EMA]
 refine regI.extB (j:=7) (by kernel_rfl) rfl rfl ⟨rfl,rfl,rfl,trivial⟩ rfl rfl ?_
 simp only[seval,EMA]
 refine regI.two (j:=8) (i:=25) (by kernel_rfl) rfl rfl ?_ ?_
 refine regW.of ?_
 simp only[seval,EMA]
 refine bN rfl rfl ?_
 simp only[seval,EMA,zB,zA]
 refine⟨⟨rfl,rfl,rfl,trivial⟩,?_⟩
 refine regI.two (j:=10) (i:=25) (by kernel_rfl) rfl rfl ?_ ?_
 refine regW.of ?_
 simp only[seval,EMA]
 refine .byA (bk.1 _ hy17) (WA ?_)
 refine⟨⟨rfl,rfl,rfl,trivial⟩,?_⟩
 refine regI.extB (j:=11) (by kernel_rfl) rfl rfl ⟨rfl,rfl,rfl,trivial⟩ rfl rfl ?_
 simp only[seval,EMA]
 refine regI.extB (j:=12) (by kernel_rfl) rfl rfl ⟨rfl,rfl,rfl,trivial⟩ rfl rfl ?_
 simp only[seval,EMA]
 refine regI.two (j:=13) (i:=25) (by kernel_rfl) rfl rfl ?_ ?_
 refine regW.of ?_
 simp only[seval,EMA]
 refine bN rfl rfl ?_
 simp only[seval,EMA,zB,zA]
 refine⟨⟨rfl,rfl,rfl,trivial⟩,?_⟩
 refine regI.two (j:=17) (i:=25) (by kernel_rfl) rfl rfl ?_ ?_
 refine regW.of ?_
 simp only[seval,EMA]
 refine .byA (bk.1 _ hy18) (WA ?_)
 refine⟨⟨rfl,rfl,rfl,trivial⟩,?_⟩
 refine regI.extB (j:=18) (by kernel_rfl) rfl rfl ⟨rfl,rfl,rfl,trivial⟩ rfl rfl ?_
 simp only[seval,EMA]
 refine regI.extB (j:=19) (by kernel_rfl) rfl rfl ⟨rfl,rfl,rfl,trivial⟩ rfl rfl ?_
 simp only[seval,EMA]
 refine regI.two (j:=20) (i:=25) (by kernel_rfl) rfl rfl ?_ ?_
 refine regW.of ?_
 simp only[seval,EMA]
 refine bN rfl rfl ?_
 simp only[seval,EMA,zB,zA]
 refine⟨⟨rfl,rfl,rfl,trivial⟩,?_⟩
 refine regI.two (j:=21) (i:=25) (by kernel_rfl) rfl rfl ?_ ?_
 refine regW.of ?_
 simp only[seval,EMA]
 refine .byA (bk.1 _ hy19) (WA ?_)
 refine⟨⟨rfl,rfl,rfl,trivial⟩,?_⟩
 refine regI.extB (j:=22) (by kernel_rfl) rfl rfl ⟨rfl,rfl,rfl,trivial⟩ rfl rfl ?_
 simp only[seval,EMA]
 refine regI.extB (j:=23) (by kernel_rfl) rfl rfl ⟨rfl,rfl,rfl,trivial⟩ rfl rfl ?_
 simp only[seval,EMA]
 refine regI.two (j:=24) (i:=25) (by kernel_rfl) rfl rfl ?_ ?_
 refine regW.of ?_
 simp only[seval,EMA]
 refine bN rfl rfl ?_
 simp only[seval,EMA,zB,zA]
 refine⟨⟨rfl,rfl,rfl,trivial⟩,?_⟩
 refine regI.one (j:=25) (by kernel_rfl) rfl (regW.of ?_)
 simp only[seval,EMA]
 refine⟨⟨rfl,rfl,rfl,trivial⟩,?_⟩
 refine regI.one (j:=26) (by kernel_rfl) rfl (regW.of ?_)
 simp only[seval,EMA]
 refine⟨⟨rfl,rfl,rfl,trivial⟩,?_⟩
 exact regI.nil (by kernel_rfl) ⟨by first | rfl | simp only[seval,FMA,eInt,xMA,xLA],by first | rfl | simp only[seval,FMA,eInt,xMA,xLA]⟩
 refine regW.of ?_
 simp only[seval,EMA]
 refine⟨⟨rfl,rfl,rfl,trivial⟩,?_⟩
 refine regI.one (j:=24) (by kernel_rfl) rfl (regW.of ?_)
 simp only[seval,EMA]
 refine bN rfl rfl ?_
 simp only[seval,EMA,zB,zA]
 refine⟨⟨rfl,rfl,rfl,trivial⟩,?_⟩
 refine regI.one (j:=26) (by kernel_rfl) rfl (regW.of ?_)
 simp only[seval,EMA]
 refine⟨⟨rfl,rfl,rfl,trivial⟩,?_⟩
 exact regI.nil (by kernel_rfl) ⟨by first | rfl | simp only[seval,FMA,eInt,xMA,xLA],by first | rfl | simp only[seval,FMA,eInt,xMA,xLA]⟩
 refine regW.of ?_
 simp only[seval,EMA]
 refine⟨⟨rfl,rfl,rfl,trivial⟩,?_⟩
 refine regI.one (j:=21) (by kernel_rfl) rfl (regW.of ?_)
 simp only[seval,EMA]
 refine .byA (bk.1 _ hy19) (WA ?_)
 refine⟨⟨rfl,rfl,rfl,trivial⟩,?_⟩
 refine regI.extB (j:=22) (by kernel_rfl) rfl rfl ⟨rfl,rfl,rfl,trivial⟩ rfl rfl ?_
 simp only[seval,EMA]
 refine regI.extB (j:=23) (by kernel_rfl) rfl rfl ⟨rfl,rfl,rfl,trivial⟩ rfl rfl ?_
 simp only[seval,EMA]
 refine regI.one (j:=24) (by kernel_rfl) rfl (regW.of ?_)
 simp only[seval,EMA]
 refine bN rfl rfl ?_
 simp only[seval,EMA,zB,zA]
 refine⟨⟨rfl,rfl,rfl,trivial⟩,?_⟩
 refine regI.one (j:=26) (by kernel_rfl) rfl (regW.of ?_)
 simp only[seval,EMA]
 refine⟨⟨rfl,rfl,rfl,trivial⟩,?_⟩
 exact regI.nil (by kernel_rfl) ⟨by first | rfl | simp only[seval,FMA,eInt,xMA,xLA],by first | rfl | simp only[seval,FMA,eInt,xMA,xLA]⟩
 refine regW.of ?_
 simp only[seval,EMA]
 refine⟨⟨rfl,rfl,rfl,trivial⟩,?_⟩
 refine regI.one (j:=20) (by kernel_rfl) rfl (regW.of ?_)
 simp only[seval,EMA]
 refine bN rfl rfl ?_
 simp only[seval,EMA,zB,zA]
 refine⟨⟨rfl,rfl,rfl,trivial⟩,?_⟩
 refine regI.one (j:=21) (by kernel_rfl) rfl (regW.of ?_)
 simp only[seval,EMA]
 refine .byA (bk.1 _ hy19) (WA ?_)
 refine⟨⟨rfl,rfl,rfl,trivial⟩,?_⟩
 refine regI.extB (j:=22) (by kernel_rfl) rfl rfl ⟨rfl,rfl,rfl,trivial⟩ rfl rfl ?_
 simp only[seval,EMA]
 refine regI.extB (j:=23) (by kernel_rfl) rfl rfl ⟨rfl,rfl,rfl,trivial⟩ rfl rfl ?_
 simp only[seval,EMA]
 refine regI.one (j:=24) (by kernel_rfl) rfl (regW.of ?_)
 simp only[seval,EMA]
 refine bN rfl rfl ?_
 simp only[seval,EMA,zB,zA]
 refine⟨⟨rfl,rfl,rfl,trivial⟩,?_⟩
 refine regI.one (j:=26) (by kernel_rfl) rfl (regW.of ?_)
 simp only[seval,EMA]
 refine⟨⟨rfl,rfl,rfl,trivial⟩,?_⟩
 exact regI.nil (by kernel_rfl) ⟨by first | rfl | simp only[seval,FMA,eInt,xMA,xLA],by first | rfl | simp only[seval,FMA,eInt,xMA,xLA]⟩
 refine regW.of ?_
 simp only[seval,EMA]
 refine⟨⟨rfl,rfl,rfl,trivial⟩,?_⟩
 refine regI.one (j:=17) (by kernel_rfl) rfl (regW.of ?_)
 simp only[seval,EMA]
 refine .byA (bk.1 _ hy18) (WA ?_)
 refine⟨⟨rfl,rfl,rfl,trivial⟩,?_⟩
 refine regI.extB (j:=18) (by kernel_rfl) rfl rfl ⟨rfl,rfl,rfl,trivial⟩ rfl rfl ?_
 simp only[seval,EMA]
 refine regI.extB (j:=19) (by kernel_rfl) rfl rfl ⟨rfl,rfl,rfl,trivial⟩ rfl rfl ?_
 simp only[seval,EMA]
 refine regI.one (j:=20) (by kernel_rfl) rfl (regW.of ?_)
 simp only[seval,EMA]
 refine bN rfl rfl ?_
 simp only[seval,EMA,zB,zA]
 refine⟨⟨rfl,rfl,rfl,trivial⟩,?_⟩
 refine regI.one (j:=21) (by kernel_rfl) rfl (regW.of ?_)
 simp only[seval,EMA]
 refine .byA (bk.1 _ hy19) (WA ?_)
 refine⟨⟨rfl,rfl,rfl,trivial⟩,?_⟩
 refine regI.extB (j:=22) (by kernel_rfl) rfl rfl ⟨rfl,rfl,rfl,trivial⟩ rfl rfl ?_
 simp only[seval,EMA]
 refine regI.extB (j:=23) (by kernel_rfl) rfl rfl ⟨rfl,rfl,rfl,trivial⟩ rfl rfl ?_
 simp only[seval,EMA]
 refine regI.one (j:=24) (by kernel_rfl) rfl (regW.of ?_)
 simp only[seval,EMA]
 refine bN rfl rfl ?_
 simp only[seval,EMA,zB,zA]
 refine⟨⟨rfl,rfl,rfl,trivial⟩,?_⟩
 refine regI.one (j:=26) (by kernel_rfl) rfl (regW.of ?_)
 simp only[seval,EMA]
 refine⟨⟨rfl,rfl,rfl,trivial⟩,?_⟩
 exact regI.nil (by kernel_rfl) ⟨by first | rfl | simp only[seval,FMA,eInt,xMA,xLA],by first | rfl | simp only[seval,FMA,eInt,xMA,xLA]⟩
 refine regW.of ?_
 simp only[seval,EMA]
 refine⟨⟨rfl,rfl,rfl,trivial⟩,?_⟩
 refine regI.one (j:=13) (by kernel_rfl) rfl (regW.of ?_)
 simp only[seval,EMA]
 refine bN rfl rfl ?_
 simp only[seval,EMA,zB,zA]
 refine⟨⟨rfl,rfl,rfl,trivial⟩,?_⟩
 refine regI.one (j:=17) (by kernel_rfl) rfl (regW.of ?_)
 simp only[seval,EMA]
 refine .byA (bk.1 _ hy18) (WA ?_)
 refine⟨⟨rfl,rfl,rfl,trivial⟩,?_⟩
 refine regI.extB (j:=18) (by kernel_rfl) rfl rfl ⟨rfl,rfl,rfl,trivial⟩ rfl rfl ?_
 simp only[seval,EMA]
 refine regI.extB (j:=19) (by kernel_rfl) rfl rfl ⟨rfl,rfl,rfl,trivial⟩ rfl rfl ?_
 simp only[seval,EMA]
 refine regI.one (j:=20) (by kernel_rfl) rfl (regW.of ?_)
 simp only[seval,EMA]
 refine bN rfl rfl ?_
 simp only[seval,EMA,zB,zA]
 refine⟨⟨rfl,rfl,rfl,trivial⟩,?_⟩
 refine regI.one (j:=21) (by kernel_rfl) rfl (regW.of ?_)
 simp only[seval,EMA]
 refine .byA (bk.1 _ hy19) (WA ?_)
 refine⟨⟨rfl,rfl,rfl,trivial⟩,?_⟩
 refine regI.extB (j:=22) (by kernel_rfl) rfl rfl ⟨rfl,rfl,rfl,trivial⟩ rfl rfl ?_
 simp only[seval,EMA]
 refine regI.extB (j:=23) (by kernel_rfl) rfl rfl ⟨rfl,rfl,rfl,trivial⟩ rfl rfl ?_
 simp only[seval,EMA]
 refine regI.one (j:=24) (by kernel_rfl) rfl (regW.of ?_)
 simp only[seval,EMA]
 refine bN rfl rfl ?_
 simp only[seval,EMA,zB,zA]
 refine⟨⟨rfl,rfl,rfl,trivial⟩,?_⟩
 refine regI.one (j:=26) (by kernel_rfl) rfl (regW.of ?_)
 simp only[seval,EMA]
 refine⟨⟨rfl,rfl,rfl,trivial⟩,?_⟩
 exact regI.nil (by kernel_rfl) ⟨by first | rfl | simp only[seval,FMA,eInt,xMA,xLA],by first | rfl | simp only[seval,FMA,eInt,xMA,xLA]⟩
 refine regW.of ?_
 simp only[seval,EMA]
 refine⟨⟨rfl,rfl,rfl,trivial⟩,?_⟩
 refine regI.one (j:=10) (by kernel_rfl) rfl (regW.of ?_)
 simp only[seval,EMA]
 refine .byA (bk.1 _ hy17) (WA ?_)
 refine⟨⟨rfl,rfl,rfl,trivial⟩,?_⟩
 refine regI.extB (j:=11) (by kernel_rfl) rfl rfl ⟨rfl,rfl,rfl,trivial⟩ rfl rfl ?_
 simp only[seval,EMA]
 refine regI.extB (j:=12) (by kernel_rfl) rfl rfl ⟨rfl,rfl,rfl,trivial⟩ rfl rfl ?_
 simp only[seval,EMA]
 refine regI.one (j:=13) (by kernel_rfl) rfl (regW.of ?_)
 simp only[seval,EMA]
 refine bN rfl rfl ?_
 simp only[seval,EMA,zB,zA]
 refine⟨⟨rfl,rfl,rfl,trivial⟩,?_⟩
 refine regI.one (j:=17) (by kernel_rfl) rfl (regW.of ?_)
 simp only[seval,EMA]
 refine .byA (bk.1 _ hy18) (WA ?_)
 refine⟨⟨rfl,rfl,rfl,trivial⟩,?_⟩
 refine regI.extB (j:=18) (by kernel_rfl) rfl rfl ⟨rfl,rfl,rfl,trivial⟩ rfl rfl ?_
 simp only[seval,EMA]
 refine regI.extB (j:=19) (by kernel_rfl) rfl rfl ⟨rfl,rfl,rfl,trivial⟩ rfl rfl ?_
 simp only[seval,EMA]
 refine regI.one (j:=20) (by kernel_rfl) rfl (regW.of ?_)
 simp only[seval,EMA]
 refine bN rfl rfl ?_
 simp only[seval,EMA,zB,zA]
 refine⟨⟨rfl,rfl,rfl,trivial⟩,?_⟩
 refine regI.one (j:=21) (by kernel_rfl) rfl (regW.of ?_)
 simp only[seval,EMA]
 refine .byA (bk.1 _ hy19) (WA ?_)
 refine⟨⟨rfl,rfl,rfl,trivial⟩,?_⟩
 refine regI.extB (j:=22) (by kernel_rfl) rfl rfl ⟨rfl,rfl,rfl,trivial⟩ rfl rfl ?_
 simp only[seval,EMA]
 refine regI.extB (j:=23) (by kernel_rfl) rfl rfl ⟨rfl,rfl,rfl,trivial⟩ rfl rfl ?_
 simp only[seval,EMA]
 refine regI.one (j:=24) (by kernel_rfl) rfl (regW.of ?_)
 simp only[seval,EMA]
 refine bN rfl rfl ?_
 simp only[seval,EMA,zB,zA]
 refine⟨⟨rfl,rfl,rfl,trivial⟩,?_⟩
 refine regI.one (j:=26) (by kernel_rfl) rfl (regW.of ?_)
 simp only[seval,EMA]
 refine⟨⟨rfl,rfl,rfl,trivial⟩,?_⟩
 exact regI.nil (by kernel_rfl) ⟨by first | rfl | simp only[seval,FMA,eInt,xMA,xLA],by first | rfl | simp only[seval,FMA,eInt,xMA,xLA]⟩
 refine regW.of ?_
 simp only[seval,EMA]
 refine⟨⟨rfl,rfl,rfl,trivial⟩,?_⟩
 refine regI.one (j:=8) (by kernel_rfl) rfl (regW.of ?_)
 simp only[seval,EMA]
 refine bN rfl rfl ?_
 simp only[seval,EMA,zB,zA]
 refine⟨⟨rfl,rfl,rfl,trivial⟩,?_⟩
 refine regI.one (j:=10) (by kernel_rfl) rfl (regW.of ?_)
 simp only[seval,EMA]
 refine .byA (bk.1 _ hy17) (WA ?_)
 refine⟨⟨rfl,rfl,rfl,trivial⟩,?_⟩
 refine regI.extB (j:=11) (by kernel_rfl) rfl rfl ⟨rfl,rfl,rfl,trivial⟩ rfl rfl ?_
 simp only[seval,EMA]
 refine regI.extB (j:=12) (by kernel_rfl) rfl rfl ⟨rfl,rfl,rfl,trivial⟩ rfl rfl ?_
 simp only[seval,EMA]
 refine regI.one (j:=13) (by kernel_rfl) rfl (regW.of ?_)
 simp only[seval,EMA]
 refine bN rfl rfl ?_
 simp only[seval,EMA,zB,zA]
 refine⟨⟨rfl,rfl,rfl,trivial⟩,?_⟩
 refine regI.one (j:=17) (by kernel_rfl) rfl (regW.of ?_)
 simp only[seval,EMA]
 refine .byA (bk.1 _ hy18) (WA ?_)
 refine⟨⟨rfl,rfl,rfl,trivial⟩,?_⟩
 refine regI.extB (j:=18) (by kernel_rfl) rfl rfl ⟨rfl,rfl,rfl,trivial⟩ rfl rfl ?_
 simp only[seval,EMA]
 refine regI.extB (j:=19) (by kernel_rfl) rfl rfl ⟨rfl,rfl,rfl,trivial⟩ rfl rfl ?_
 simp only[seval,EMA]
 refine regI.one (j:=20) (by kernel_rfl) rfl (regW.of ?_)
 simp only[seval,EMA]
 refine bN rfl rfl ?_
 simp only[seval,EMA,zB,zA]
 refine⟨⟨rfl,rfl,rfl,trivial⟩,?_⟩
 refine regI.one (j:=21) (by kernel_rfl) rfl (regW.of ?_)
 simp only[seval,EMA]
 refine .byA (bk.1 _ hy19) (WA ?_)
 refine⟨⟨rfl,rfl,rfl,trivial⟩,?_⟩
 refine regI.extB (j:=22) (by kernel_rfl) rfl rfl ⟨rfl,rfl,rfl,trivial⟩ rfl rfl ?_
 simp only[seval,EMA]
 refine regI.extB (j:=23) (by kernel_rfl) rfl rfl ⟨rfl,rfl,rfl,trivial⟩ rfl rfl ?_
 simp only[seval,EMA]
 refine regI.one (j:=24) (by kernel_rfl) rfl (regW.of ?_)
 simp only[seval,EMA]
 refine bN rfl rfl ?_
 simp only[seval,EMA,zB,zA]
 refine⟨⟨rfl,rfl,rfl,trivial⟩,?_⟩
 refine regI.one (j:=26) (by kernel_rfl) rfl (regW.of ?_)
 simp only[seval,EMA]
 refine⟨⟨rfl,rfl,rfl,trivial⟩,?_⟩
 exact regI.nil (by kernel_rfl) ⟨by first | rfl | simp only[seval,FMA,eInt,xMA,xLA],by first | rfl | simp only[seval,FMA,eInt,xMA,xLA]⟩
 refine regW.of ?_
 simp only[seval,EMA]
 refine⟨⟨rfl,rfl,rfl,trivial⟩,?_⟩
 refine regI.one (j:=5) (by kernel_rfl) rfl (regW.of ?_)
 simp only[seval,EMA]
 refine .byA (bS.1 _ hy16) (WA ?_)
 refine⟨⟨rfl,rfl,rfl,trivial⟩,?_⟩
 refine regI.extB (j:=6) (by kernel_rfl) rfl rfl ⟨rfl,rfl,rfl,trivial⟩ rfl rfl ?_
 simp only[seval,EMA]
 refine regI.extB (j:=7) (by kernel_rfl) rfl rfl ⟨rfl,rfl,rfl,trivial⟩ rfl rfl ?_
 simp only[seval,EMA]
 refine regI.one (j:=8) (by kernel_rfl) rfl (regW.of ?_)
 simp only[seval,EMA]
 refine bN rfl rfl ?_
 simp only[seval,EMA,zB,zA]
 refine⟨⟨rfl,rfl,rfl,trivial⟩,?_⟩
 refine regI.one (j:=10) (by kernel_rfl) rfl (regW.of ?_)
 simp only[seval,EMA]
 refine .byA (bk.1 _ hy17) (WA ?_)
 refine⟨⟨rfl,rfl,rfl,trivial⟩,?_⟩
 refine regI.extB (j:=11) (by kernel_rfl) rfl rfl ⟨rfl,rfl,rfl,trivial⟩ rfl rfl ?_
 simp only[seval,EMA]
 refine regI.extB (j:=12) (by kernel_rfl) rfl rfl ⟨rfl,rfl,rfl,trivial⟩ rfl rfl ?_
 simp only[seval,EMA]
 refine regI.one (j:=13) (by kernel_rfl) rfl (regW.of ?_)
 simp only[seval,EMA]
 refine bN rfl rfl ?_
 simp only[seval,EMA,zB,zA]
 refine⟨⟨rfl,rfl,rfl,trivial⟩,?_⟩
 refine regI.one (j:=17) (by kernel_rfl) rfl (regW.of ?_)
 simp only[seval,EMA]
 refine .byA (bk.1 _ hy18) (WA ?_)
 refine⟨⟨rfl,rfl,rfl,trivial⟩,?_⟩
 refine regI.extB (j:=18) (by kernel_rfl) rfl rfl ⟨rfl,rfl,rfl,trivial⟩ rfl rfl ?_
 simp only[seval,EMA]
 refine regI.extB (j:=19) (by kernel_rfl) rfl rfl ⟨rfl,rfl,rfl,trivial⟩ rfl rfl ?_
 simp only[seval,EMA]
 refine regI.one (j:=20) (by kernel_rfl) rfl (regW.of ?_)
 simp only[seval,EMA]
 refine bN rfl rfl ?_
 simp only[seval,EMA,zB,zA]
 refine⟨⟨rfl,rfl,rfl,trivial⟩,?_⟩
 refine regI.one (j:=21) (by kernel_rfl) rfl (regW.of ?_)
 simp only[seval,EMA]
 refine .byA (bk.1 _ hy19) (WA ?_)
 refine⟨⟨rfl,rfl,rfl,trivial⟩,?_⟩
 refine regI.extB (j:=22) (by kernel_rfl) rfl rfl ⟨rfl,rfl,rfl,trivial⟩ rfl rfl ?_
 simp only[seval,EMA]
 refine regI.extB (j:=23) (by kernel_rfl) rfl rfl ⟨rfl,rfl,rfl,trivial⟩ rfl rfl ?_
 simp only[seval,EMA]
 refine regI.one (j:=24) (by kernel_rfl) rfl (regW.of ?_)
 simp only[seval,EMA]
 refine bN rfl rfl ?_
 simp only[seval,EMA,zB,zA]
 refine⟨⟨rfl,rfl,rfl,trivial⟩,?_⟩
 refine regI.one (j:=26) (by kernel_rfl) rfl (regW.of ?_)
 simp only[seval,EMA]
 refine⟨⟨rfl,rfl,rfl,trivial⟩,?_⟩
 exact regI.nil (by kernel_rfl) ⟨by first | rfl | simp only[seval,FMA,eInt,xMA,xLA],by first | rfl | simp only[seval,FMA,eInt,xMA,xLA]⟩
 refine mU e (.seqK (.sA ?_)) h
 refine .cond rfl (λhb21=>?_) (λhb21=>?_)
 refine .sA ?_
 refine .ret QA
 refine .skip (Mir.toK (.seqK (.bind λy16 hy22=>.region λe h=>WA ?_)))
 refine .byA (kr hy22) (mA ?_ h)
 refine .ret QA
instance:Sp 181 (type_of% @lV):=⟨@lV⟩
def fp(a0:ah)(a1:ah):Option ah:=ac (lf a0 a1) λ(y1:ah)=>some y1
instance radical_Sign_c1_spec:Sp 182 (∀{a0:ah} {a1:ah},Ct 182 [.agg (cP a0),.agg (cP a1)] (λy:ah=>.agg [.d (.bool y.Num.Neg),.d (.list (zD (eInt .u32) y.Num.Limbs)),.d (.bool y.Den.Neg),.d (.list (zD (eInt .u32) y.Den.Limbs))]) (fp a0 a1)):=⟨zzF Tryz.func182 (fp.eq_1 ..)⟩
def fV(a0:fu):Option Int:=ac (ac (bG a0.M) λ(y1:Int)=>if (decide (y1<0))=true then some true else ac (bG a0.N) λ(y2:Int)=>some (decide (y2<0))) λ(v1:Bool)=>jR 1 ([U,.ptr 0 0]++us 18++[dB v1]++us 106) ⟨[(cX a0)],[]⟩ ( if v1=true then some 0 else ac (i7 (fu.mk a0.A a0.B a0.C a0.D a0.M a0.N)) λ(y3:Int×Bool)=>if y3.2=true then some y3.1 else ac (dq a0.A a0.B a0.M) λ(y4:Int)=>ac (dq a0.C a0.D a0.M) λ(y5:Int)=>ac (bG a0.N) λ(y6:Int)=>jV 7 ([U,.ptr 0 0,U,U,U,dI y4,dI (zG.wrap (y5*y6))]++us 39++[dB (((zG.wrap (y5*y6))==0)||(y4==(zG.wrap (y5*y6))))]++us 80) ⟨[(cX a0)],[]⟩ ( if (((zG.wrap (y5*y6))==0)||(y4==(zG.wrap (y5*y6))))=true then some y4 else if (y4==0)=true then some (zG.wrap (y5*y6))else ac (im a0.A a0.A) λ(y7:ah)=>ac (im a0.B a0.B) λ(y8:ah)=>ac (im a0.M y8) λ(y9:ah)=>ac (fp y7 y9) λ(y10:ah)=>ac (im a0.C a0.C) λ(y11:ah)=>ac (im a0.D a0.D) λ(y12:ah)=>ac (im a0.M y12) λ(y13:ah)=>ac (fp y11 y13) λ(y14:ah)=>ac (im a0.N y14) λ(y15:ah)=>ac (jA y10 y15) λ(y16:ah)=>ac (im a0.A a0.B) λ(y17:ah)=>ac (im a0.C a0.D) λ(y18:ah)=>ac (im a0.N y18) λ(y19:ah)=>ac (jA y17 y19) λ(y20:ah)=>ac (fp y20 y20) λ(y21:ah)=>ac (dq y16 y21 a0.M) λ(y22:Int)=>some (zG.wrap (y4*y22))))
instance radical_Sign_spec:Sp 108 (∀{a0:fu},Ct 108 [.agg (cX a0)] (λy:Int=>.d (.int .i64 y)) (fV a0)):=⟨zzF Tryz.func108 (fV.eq_1 ..)⟩
def fq(a0:aL)(a1:aL):Option Int:=ac (ac (bG a0.B) λ(y1:Int)=>if (y1==0)=true then ac (bG a1.B) λ(y2:Int)=>some (y2==0)else some false) λ(v1:Bool)=>jR 1 ([U,U,.ptr 0 0,.ptr 1 0]++us 12++[dB v1]++us 36) ⟨[(cS a0),(cS a1)],[]⟩ ( if v1=true then ac (fO a0.A a1.A) λ(y3:Int)=>some y3 else ac (eZ a0 a1) λ(y4:Int×Bool)=>if y4.2=true then some y4.1 else ac (fO a0.C a1.C) λ(y5:Int)=>if (y5==0)=true then ac (jA a0.A a1.A) λ(y6:ah)=>ac (jA a0.B a1.B) λ(y7:ah)=>ac (dq y6 y7 a0.C) λ(y8:Int)=>some y8 else ac (ix (aL.mk a0.A a0.B a0.C) a1) λ(y9:fu)=>ac (fV (fu.mk y9.A y9.B y9.C y9.D y9.M y9.N)) λ(y10:Int)=>some y10)
instance radical_Cmp_spec:Sp 38 (∀{a0:aL} {a1:aL},Ct 38 [.agg (cS a0),.agg (cS a1)] (λy:Int=>.d (.int .i64 y)) (fq a0 a1)):=⟨zzF Tryz.func38 (fq.eq_1 ..)⟩
def fY(a0:aL)(a1:aL):Option Bool:=ac (fq a0 a1) λ(y1:Int)=>some (y1==0)
instance radical_Equal_spec:Sp 18 (∀{a0:aL} {a1:aL},Ct 18 [.agg (cS a0),.agg (cS a1)] (λy:Bool=>.d (.bool y)) (fY a0 a1)):=⟨zzF Tryz.func18 (fY.eq_1 ..)⟩
end Go.Proofs.YtphbhdoljnokkaaGreatDoor
