import Derived.Test.YtjemmjpdmbenkaaGreatDoorMA
import Derived.Test.YtjemmjpdmbenkaaGreatDoorMB
import Derived.Test.YtjemmjpdmbenkaaGreatDoorMH
import Derived.Test.YtjemmjpdmbenkaaGreatDoorMW
open List renaming map → zA
open Go.IntKind renaming i64 → zB,u64 → zD
namespace Go.Proofs.YtjemmjpdmbenkaaGreatDoor
open Go.RowKit
open Nat renaming reduceAdd → nA,reduceSub → nS,reduceMul → nM,reduceEqDiff → nE,reduceLeDiff → nL,reduceLT → nT,reduceBEq → nB
open Int renaming reduceLT → iT,reduceToNat → iN,reduceEq → iE
set_option linter.unusedVariables false
set_option linter.unusedSimpArgs false
set_option maxRecDepth 100000
set_option maxHeartbeats 8000000
def dQ(a0:(List UInt8))(a1:(List UInt8)):Option Bool:=ah (if (decide ((a0.length:Int)≥(a1.length:Int)))=true then ah (cutF a0 (zB.wrap ((a0.length:Int)-(a1.length:Int)))) λ(s1:(List UInt8))=>some (s1==a1)else some false) λ(v1:Bool)=>jR 1 ([U,U,U,U,dB v1]++us 16) ⟨[],[]⟩ ( some v1)
instance stringslite_HasSuffix_spec:Sp 94 (∀{a0:(List UInt8)} {a1:(List UInt8)},Ct 94 [dS a0,dS a1] (λy:Bool=>.d (.bool y)) (dQ a0 a1)):=⟨zzF Tryz.func94 (dQ.eq_1 ..)⟩
def d8(a0:(List UInt8))(a1:(List UInt8)):Option Bool:=ah (dQ a0 a1) λ(y1:Bool)=>some y1
instance strings_HasSuffix_spec:Sp 45 (∀{a0:(List UInt8)} {a1:(List UInt8)},Ct 45 [dS a0,dS a1] (λy:Bool=>.d (.bool y)) (d8 a0 a1)):=⟨zzF Tryz.func45 (d8.eq_1 ..)⟩
def bO(a0:(List UInt8))(a1:(List UInt8)):Option Int:=jV 2 ([dS a0,dS a1,U,U,U,dI (a1.length:Int)]++us 10++[dB (((a1.length:Int)==0)||(a1==a0))]++us 126) ⟨[],[]⟩ ( if (((a1.length:Int)==0)||(a1==a0))=true then some 0 else if ((a1.length:Int)==1)=true then ah (gt a1 0) λ(c1:UInt8)=>ah (stringslite_IndexByte a0 (c1.toNat:Int)) λ(y1:Int)=>some y1 else if (decide ((a1.length:Int)≥(a0.length:Int)))=true then some (-1)else none)
instance stringslite_Index_spec:Sp 131 (∀{a0:(List UInt8)} {a1:(List UInt8)},Ct 131 [dS a0,dS a1] (λy:Int=>.d (.int .i64 y)) (bO a0 a1)):=⟨zzF Tryz.func131 (bO.eq_1 ..)⟩
def dR(a0:(List UInt8))(a1:(List UInt8)):Option ((List UInt8)×(List UInt8)×Bool):=ah (bO a0 a1) λ(y1:Int)=>if (decide (y1≥0))=true then ah (cutT a0 y1) λ(s1:(List UInt8))=>ah (cutF a0 (zB.wrap (y1+(a1.length:Int)))) λ(s2:(List UInt8))=>some (s1,s2,true)else some (a0,[],false)
instance stringslite_Cut_spec:Sp 95 (∀{a0:(List UInt8)} {a1:(List UInt8)},Ct 95 [dS a0,dS a1] (λy:(List UInt8)×(List UInt8)×Bool=>.tuple [.d (.str y.1),.d (.str y.2.1),.d (.bool y.2.2)]) (dR a0 a1)):=⟨zzF Tryz.func95 (dR.eq_1 ..)⟩
def dU(a0:(List UInt8))(a1:(List UInt8)):Option ((List UInt8)×(List UInt8)×Bool):=ah (dR a0 a1) λ(y1:(List UInt8)×(List UInt8)×Bool)=>some (y1.1,y1.2.1,y1.2.2)
instance strings_Cut_spec:Sp 46 (∀{a0:(List UInt8)} {a1:(List UInt8)},Ct 46 [dS a0,dS a1] (λy:(List UInt8)×(List UInt8)×Bool=>.tuple [.d (.str y.1),.d (.str y.2.1),.d (.bool y.2.2)]) (dU a0 a1)):=⟨zzF Tryz.func46 (dU.eq_1 ..)⟩
def ck(a0:(List UInt8))(a1:(List UInt8)):Option Bool:=ah (if (decide ((a0.length:Int)≥(a1.length:Int)))=true then ah (cutT a0 (a1.length:Int)) λ(s1:(List UInt8))=>some (s1==a1)else some false) λ(v1:Bool)=>jR 1 ([U,U,U,U,dB v1]++us 13) ⟨[],[]⟩ ( some v1)
instance stringslite_HasPrefix_spec:Sp 213 (∀{a0:(List UInt8)} {a1:(List UInt8)},Ct 213 [dS a0,dS a1] (λy:Bool=>.d (.bool y)) (ck a0 a1)):=⟨zzF Tryz.func213 (ck.eq_1 ..)⟩
def cm(a0:(List UInt8))(a1:(List UInt8)):Option ((List UInt8)×Bool):=ah (ck a0 a1) λ(y1:Bool)=>if (!y1)=true then some (a0,false)else ah (cutF a0 (a1.length:Int)) λ(s1:(List UInt8))=>some (s1,true)
instance stringslite_CutPrefix_spec:Sp 207 (∀{a0:(List UInt8)} {a1:(List UInt8)},Ct 207 [dS a0,dS a1] (λy:(List UInt8)×Bool=>.tuple [.d (.str y.1),.d (.bool y.2)]) (cm a0 a1)):=⟨zzF Tryz.func207 (cm.eq_1 ..)⟩
def da(a0:(List UInt8))(a1:(List UInt8)):Option ((List UInt8)×Bool):=ah (cm a0 a1) λ(y1:(List UInt8)×Bool)=>some (y1.1,y1.2)
instance strings_CutPrefix_spec:Sp 192 (∀{a0:(List UInt8)} {a1:(List UInt8)},Ct 192 [dS a0,dS a1] (λy:(List UInt8)×Bool=>.tuple [.d (.str y.1),.d (.bool y.2)]) (da a0 a1)):=⟨zzF Tryz.func192 (da.eq_1 ..)⟩
def eC(a0:(List UInt8)):Option Bool:=ah (if (a0==[])=true then some false else ah (li a0 [48,49,50,51,52,53,54,55,56,57]) λ(y1:(List UInt8))=>some (y1==[])) λ(v1:Bool)=>jR 1 ([U,U,dB v1]++us 7) ⟨[],[]⟩ ( some v1)
instance bk_digits_spec:Sp 193 (∀{a0:(List UInt8)},Ct 193 [dS a0] (λy:Bool=>.d (.bool y)) (eC a0)):=⟨zzF Tryz.func193 (eC.eq_1 ..)⟩
def bk_Value(a0:(List UInt8)):Option (Int×Int):=ah (da a0 [45]) λ(y1:(List UInt8)×Bool)=>ah (dU y1.1 [46]) λ(y2:(List UInt8)×(List UInt8)×Bool)=>ah (ah (eC y2.1) λ(y3:Bool)=>if y3=true then if (decide ((y2.1.length:Int)>1))=true then ah (gt y2.1 0) λ(c1:UInt8)=>if ((c1.toNat:Int)==48)=true then some true else if y2.2.2=true then ah (eC y2.2.1) λ(y4:Bool)=>if y4=true then if (decide ((y2.2.1.length:Int)>3))=true then some true else ah (gt y2.2.1 (zB.wrap ((y2.2.1.length:Int)-1))) λ(c2:UInt8)=>if ((c2.toNat:Int)==48)=true then some true else if y1.2=true then some (y1.1==[48])else some false else some true else if y1.2=true then some (y1.1==[48])else some false else if y2.2.2=true then ah (eC y2.2.1) λ(y5:Bool)=>if y5=true then if (decide ((y2.2.1.length:Int)>3))=true then some true else ah (gt y2.2.1 (zB.wrap ((y2.2.1.length:Int)-1))) λ(c3:UInt8)=>if ((c3.toNat:Int)==48)=true then some true else if y1.2=true then some (y1.1==[48])else some false else some true else if y1.2=true then some (y1.1==[48])else some false else some true) λ(v1:Bool)=>jR 3 ([U,U,U,U,U,dB y1.2,dS y2.1,dS y2.2.1]++us 54++[dB v1]++us 20) ⟨[],[]⟩ ( if v1=true then some (0,2)else if (decide ((y2.1.length:Int)>10))=true then some (0,11)else av (okStr y2.1 y2.2.1) ( ah (cutF [48,48,48] (y2.2.1.length:Int)) λ(s1:(List UInt8))=>av (okStr (y2.1++y2.2.1) s1) ( ah (eK ((y2.1++y2.2.1)++s1) 10 64) λ(y6:Int)=>if (decide (y6>1000000000000))=true then some (0,11)else ah (if y1.2=true then some (zB.wrap (0-y6))else some y6) λ(v2:Int)=>jC (us 9++[dI v2]++us 73) ⟨[],[]⟩ ( some (v2,0)))))
instance bk_Value_spec:Sp 161 (∀{a0:(List UInt8)},Ct 161 [dS a0] (λy:Int×Int=>.tuple [.d (.int .i64 y.1),.d (.int .i64 y.2)]) (bk_Value a0)):=⟨zzF Tryz.func161 (bk_Value.eq_1 ..)⟩
def bk_Parse(a0:(List UInt8)):Option (aa×Int×Int):=if (decide ((a0.length:Int)>65536))=true then some (aa.mk false [] [],0,3)else ah (iF 96 (λv1:Int×bs=>.d (.int .i64 v1.1)) (λv1:Int×bs=>⟨[[dB false,.nil,dS []],[dS v1.2.s,dI v1.2.at_,dB v1.2.b.Skip,.own 0 (zA aw v1.2.b.Words),dS v1.2.b.Comment]],[(95,v1.2.b.Words.length)]⟩) (gF [.cell 1 3 95] ( ah (iF 132 (λv2:Bool×Int=>.d (.bool v2.1)) (λv2:Bool×Int=>⟨[[dB false,.nil,dS []],[dS a0,dI v2.2,dB false,.own 0 (zA aw []),dS []]],[(95,0)]⟩) (ah (ah (iF 133 (λv3:Unit=>.d (.bool (0==(a0.length:Int)))) (λv3:Unit=>⟨[[dB false,.nil,dS []],[dS a0,dI 0,dB false,.own 0 (zA aw []),dS []]],[(95,0)]⟩) (some ())) λ(v3:Unit)=>if (0==(a0.length:Int))=true then some true else ah (gt a0 0) λ(c1:UInt8)=>some ((c1.toNat:Int) != 47)) λ(v4:Bool)=>jR 1 ([.ptr 1 0]++us 18++[dB v4]++us 7) ⟨[[dB false,.nil,dS []],[dS a0,dI 0,dB false,.own 0 (zA aw []),dS []]],[(95,0)]⟩ ( if v4=true then some (false,0)else some (true,1)))) λ(v2:Bool×Int)=>bt (λ(v5:Bool×bs)=>lF ([.ptr 1 0,U,U,dB v5.1]++us 34) ⟨[[dB false,.nil,dS []],[dS v5.2.s,dI v5.2.at_,dB v5.2.b.Skip,.own 0 (zA aw v5.2.b.Words),dS v5.2.b.Comment]],[(95,v5.2.b.Words.length)]⟩ ( ah (iF 133 (λv6:Unit=>.d (.bool (v5.2.at_==(v5.2.s.length:Int)))) (λv6:Unit=>⟨[[dB false,.nil,dS []],[dS v5.2.s,dI v5.2.at_,dB v5.2.b.Skip,.own 0 (zA aw v5.2.b.Words),dS v5.2.b.Comment]],[(95,v5.2.b.Words.length)]⟩) (some ())) λ(v6:Unit)=>if (v5.2.at_==(v5.2.s.length:Int))=true then if v5.1=true then some (.ret (2,v5.2))else some (.ret (0,v5.2))else ah (gt v5.2.s v5.2.at_) λ(c2:UInt8)=>if ((c2.toNat:Int)==40)=true then ah (iF 134 (λv7:Int×bs=>.d (.int .i64 v7.1)) (λv7:Int×bs=>⟨[[dB false,.nil,dS []],[dS v7.2.s,dI v7.2.at_,dB v7.2.b.Skip,.own 0 (zA aw v7.2.b.Words),dS v7.2.b.Comment]],[(95,v7.2.b.Words.length)]⟩) (ah (bt (λ(v8:Int)=>lF ([.ptr 1 0,U,U,dI v5.2.at_]++us 67) ⟨[[dB false,.nil,dS []],[dS v5.2.s,dI v8,dB v5.2.b.Skip,.own 0 (zA aw v5.2.b.Words),dS v5.2.b.Comment]],[(95,v5.2.b.Words.length)]⟩ ( ah (ah (iF 133 (λv9:Unit=>.d (.bool (v8==(v5.2.s.length:Int)))) (λv9:Unit=>⟨[[dB false,.nil,dS []],[dS v5.2.s,dI v8,dB v5.2.b.Skip,.own 0 (zA aw v5.2.b.Words),dS v5.2.b.Comment]],[(95,v5.2.b.Words.length)]⟩) (some ())) λ(v9:Unit)=>if (v8==(v5.2.s.length:Int))=true then some false else ah (gt v5.2.s v8) λ(c3:UInt8)=>ah (fk (c3.toNat:Int)) λ(y1:Bool)=>some y1) λ(v10:Bool)=>jR 3 ([.ptr 1 0,U,U,dI v5.2.at_]++us 26++[dB v10]++us 40) ⟨[[dB false,.nil,dS []],[dS v5.2.s,dI v8,dB v5.2.b.Skip,.own 0 (zA aw v5.2.b.Words),dS v5.2.b.Comment]],[(95,v5.2.b.Words.length)]⟩ ( if v10=true then some (.go (zB.wrap (v8+1)))else some (.ret v8)))) fuel (zB.wrap (v5.2.at_+1))) λ(v11:Int)=>jB 0 ([.ptr 1 0,U,U,dI v5.2.at_]++us 67) ⟨[[dB false,.nil,dS []],[dS v5.2.s,dI v11,dB v5.2.b.Skip,.own 0 (zA aw v5.2.b.Words),dS v5.2.b.Comment]],[(95,v5.2.b.Words.length)]⟩ ( ah (cutL v5.2.s (zB.wrap (v5.2.at_+1)) v11) λ(s1:(List UInt8))=>if (decide ((s1.length:Int)>100))=true then some (3,v5.2)else ah (if (s1==[])=true then some (true,v11)else ah (iF 132 (λv12:Bool×Int=>.d (.bool v12.1)) (λv12:Bool×Int=>⟨[[dB false,.nil,dS []],[dS v5.2.s,dI v12.2,dB v5.2.b.Skip,.own 0 (zA aw v5.2.b.Words),dS v5.2.b.Comment]],[(95,v5.2.b.Words.length)]⟩) (ah (ah (iF 133 (λv13:Unit=>.d (.bool (v11==(v5.2.s.length:Int)))) (λv13:Unit=>⟨[[dB false,.nil,dS []],[dS v5.2.s,dI v11,dB v5.2.b.Skip,.own 0 (zA aw v5.2.b.Words),dS v5.2.b.Comment]],[(95,v5.2.b.Words.length)]⟩) (some ())) λ(v13:Unit)=>if (v11==(v5.2.s.length:Int))=true then some true else ah (gt v5.2.s v11) λ(c4:UInt8)=>some ((c4.toNat:Int) != 41)) λ(v14:Bool)=>jR 1 ([.ptr 1 0]++us 18++[dB v14]++us 7) ⟨[[dB false,.nil,dS []],[dS v5.2.s,dI v11,dB v5.2.b.Skip,.own 0 (zA aw v5.2.b.Words),dS v5.2.b.Comment]],[(95,v5.2.b.Words.length)]⟩ ( if v14=true then some (false,v11)else some (true,zB.wrap (v11+1))))) λ(v12:Bool×Int)=>some (!v12.1,v12.2)) λ(v15:Bool×Int)=>jR 9 ([.ptr 1 0,U,U,U,dS s1]++us 57++[dB v15.1]++us 8) ⟨[[dB false,.nil,dS []],[dS v5.2.s,dI v15.2,dB v5.2.b.Skip,.own 0 (zA aw v5.2.b.Words),dS v5.2.b.Comment]],[(95,v5.2.b.Words.length)]⟩ ( if v15.1=true then some (2,bs.mk v5.2.s v15.2 v5.2.b)else ah (iF 133 (λv16:Unit=>.d (.bool (v15.2==(v5.2.s.length:Int)))) (λv16:Unit=>⟨[[dB false,.nil,dS []],[dS v5.2.s,dI v15.2,dB v5.2.b.Skip,.own 0 (zA aw v5.2.b.Words),dS s1]],[(95,v5.2.b.Words.length)]⟩) (some ())) λ(v16:Unit)=>if (!(v15.2==(v5.2.s.length:Int)))=true then some (2,bs.mk v5.2.s v15.2 (aa.mk v5.2.b.Skip v5.2.b.Words s1))else some (0,bs.mk v5.2.s v15.2 (aa.mk v5.2.b.Skip v5.2.b.Words s1)))))) λ(v7:Int×bs)=>some (.ret (v7.1,v7.2))else ah (iF 135 (λv17:Int×bs=>.d (.int .i64 v17.1)) (λv17:Int×bs=>⟨[[dB false,.nil,dS []],[dS v17.2.s,dI v17.2.at_,dB v17.2.b.Skip,.own 0 (zA aw v17.2.b.Words),dS v17.2.b.Comment]],[(95,v17.2.b.Words.length)]⟩) (ah (gt v5.2.s v5.2.at_) λ(c5:UInt8)=>jV 2 ([.ptr 1 0,U,U,.d (.int .u8 (c5.toNat:Int))]++us 17++[dB ((decide ((c5.toNat:Int)<65))||(decide ((c5.toNat:Int)>90)))]++us 93) ⟨[[dB false,.nil,dS []],[dS v5.2.s,dI v5.2.at_,dB v5.2.b.Skip,.own 0 (zA aw v5.2.b.Words),dS v5.2.b.Comment]],[(95,v5.2.b.Words.length)]⟩ ( if ((decide ((c5.toNat:Int)<65))||(decide ((c5.toNat:Int)>90)))=true then some (2,v5.2)else if ((v5.2.b.Words.length:Int)==16)=true then some (3,v5.2)else ah (bt (λ(v18:Int)=>lF ([.ptr 1 0,U,U,.d (.int .u8 (c5.toNat:Int)),dI v18]++us 110) ⟨[[dB false,.nil,dS []],[dS v5.2.s,dI v5.2.at_,dB v5.2.b.Skip,.own 0 (zA aw v5.2.b.Words),dS v5.2.b.Comment]],[(95,v5.2.b.Words.length)]⟩ ( ah (if (decide (v18<(v5.2.s.length:Int)))=true then ah (gt v5.2.s v18) λ(c6:UInt8)=>if (decide ((c6.toNat:Int)≥48))=true then if (decide ((c6.toNat:Int)≤57))=true then some true else if ((c6.toNat:Int)==45)=true then some true else some ((c6.toNat:Int)==46)else if ((c6.toNat:Int)==45)=true then some true else some ((c6.toNat:Int)==46)else some false) λ(v19:Bool)=>jR 7 ([.ptr 1 0,U,U,.d (.int .u8 (c5.toNat:Int)),dI v18]++us 71++[dB v19]++us 38) ⟨[[dB false,.nil,dS []],[dS v5.2.s,dI v5.2.at_,dB v5.2.b.Skip,.own 0 (zA aw v5.2.b.Words),dS v5.2.b.Comment]],[(95,v5.2.b.Words.length)]⟩ ( if v19=true then some (.go (zB.wrap (v18+1)))else some (.ret v18)))) fuel (zB.wrap (v5.2.at_+1))) λ(v20:Int)=>jB 0 ([.ptr 1 0,U,U,.d (.int .u8 (c5.toNat:Int)),dI v20]++us 110) ⟨[[dB false,.nil,dS []],[dS v5.2.s,dI v5.2.at_,dB v5.2.b.Skip,.own 0 (zA aw v5.2.b.Words),dS v5.2.b.Comment]],[(95,v5.2.b.Words.length)]⟩ ( ah (cutL v5.2.s (zB.wrap (v5.2.at_+1)) v20) λ(s2:(List UInt8))=>ah (bk_Value s2) λ(y2:Int×Int)=>if (y2.2 != 0)=true then some (y2.2,v5.2)else av (bo (v5.2.b.Words.length+1)) ( some (0,bs.mk v5.2.s v20 (aa.mk v5.2.b.Skip (v5.2.b.Words++[ay.mk (c5.toNat:Int) y2.1]) v5.2.b.Comment))))))) λ(v17:Int×bs)=>if (v17.1 != 0)=true then some (.ret (v17.1,v17.2))else ah (iF 133 (λv21:Unit=>.d (.bool (v17.2.at_==(v17.2.s.length:Int)))) (λv21:Unit=>⟨[[dB false,.nil,dS []],[dS v17.2.s,dI v17.2.at_,dB v17.2.b.Skip,.own 0 (zA aw v17.2.b.Words),dS v17.2.b.Comment]],[(95,v17.2.b.Words.length)]⟩) (some ())) λ(v21:Unit)=>if (v17.2.at_==(v17.2.s.length:Int))=true then some (.ret (0,v17.2))else ah (iF 132 (λv22:Bool×Int=>.d (.bool v22.1)) (λv22:Bool×Int=>⟨[[dB false,.nil,dS []],[dS v17.2.s,dI v22.2,dB v17.2.b.Skip,.own 0 (zA aw v17.2.b.Words),dS v17.2.b.Comment]],[(95,v17.2.b.Words.length)]⟩) (ah (ah (iF 133 (λv23:Unit=>.d (.bool (v17.2.at_==(v17.2.s.length:Int)))) (λv23:Unit=>⟨[[dB false,.nil,dS []],[dS v17.2.s,dI v17.2.at_,dB v17.2.b.Skip,.own 0 (zA aw v17.2.b.Words),dS v17.2.b.Comment]],[(95,v17.2.b.Words.length)]⟩) (some ())) λ(v23:Unit)=>if (v17.2.at_==(v17.2.s.length:Int))=true then some true else ah (gt v17.2.s v17.2.at_) λ(c7:UInt8)=>some ((c7.toNat:Int) != 32)) λ(v24:Bool)=>jR 1 ([.ptr 1 0]++us 18++[dB v24]++us 7) ⟨[[dB false,.nil,dS []],[dS v17.2.s,dI v17.2.at_,dB v17.2.b.Skip,.own 0 (zA aw v17.2.b.Words),dS v17.2.b.Comment]],[(95,v17.2.b.Words.length)]⟩ ( if v24=true then some (false,v17.2.at_)else some (true,zB.wrap (v17.2.at_+1))))) λ(v22:Bool×Int)=>if (!v22.1)=true then some (.ret (2,bs.mk v17.2.s v22.2 v17.2.b))else some (.go (true,bs.mk v17.2.s v22.2 v17.2.b)))) fuel (false,bs.mk a0 v2.2 (aa.mk v2.1 [] []))))) λ(v1:Int×bs)=>if (v1.1 != 0)=true then some (aa.mk false [] [],v1.2.at_,v1.1)else some (v1.2.b,0,0)
theorem bk_Parse_spec{a0:(List UInt8)}{y:aa×Int×Int}(h:bk_Parse a0=some y):Spec gP 47 [dS a0] (.tuple [.agg [.d (.bool y.1.Skip),.d (.list (zA aw y.1.Words)),.d (.str y.1.Comment)],.d (.int .i64 y.2.1),.d (.int .i64 y.2.2)]):=by
 refine auA Tryz.func47 (λy:aa×Int×Int=>.tuple [.agg [.d (.bool y.1.Skip),.d (.list (zA aw y.1.Words)),.d (.str y.1.Comment)],.d (.int .i64 y.2.1),.d (.int .i64 y.2.2)]) ?_ h
 unfold bk_Parse
 refine .sA ?_
 refine .seqK (.sA ?_)
 refine .cond rfl (λhb2=>?_) (λhb2=>?_)
 exact zzA
 refine .skip (Mir.toK (.sA ?_))
 refine .seqK (.seqK (.bind λv1 h1=>.region λe h=>WA ?_))
 refine aY.inlA h1 ?_ ?_
 refine Mir.gF rfl (.sA ?_)
 refine .seqK (.bind λv2 h2=>.region λe h=>WA ?_)
 refine aY.inlA h2 ?_ ?_
 refine .sA ?_
 refine .seqK (.seqK (Mir.jOR (λ_=>rfl) ?_ ?_))
 refine .bind λv3 h3=>.ite (λh4=>?_) (λh4=>?_)
 refine Mir.regionA 1 [] ([.ptr 1 0,.d (.int .u8 47),U,U,dB false,.ptr 1 0,dB (0==(a0.length:Int)),dB (0==(a0.length:Int)),.skip,.skip,.skip,.skip,.skip,.skip,.skip,.skip,.skip,.skip,.skip,dB true]++us 7) ⟨[[dB false,.nil,dS []],[dS a0,dI 0,dB false,.own 0 (zA aw []),dS []]],[(95,0)]⟩ (by kernel_rfl) (λe h=>?_) (λe h=>?_)
 simp only[seval,EMA,SB,h4]
 refine regA.one (j:=1) (by kernel_rfl) rfl (regW.of ?_)
 simp only[seval,EMA,h4]
 refine aY.inlA h3 ?_ ?_
 exact zzA
 simp only[seval,EMA,h4]
 refine regA.draw 2 [] (by kernel_rfl) ?_
 simp only[seval,EMA,SB,h4]
 exact⟨rfl,rfl⟩
 exact zzA
 refine .bind λc1 q1=>?_
 replace q1:=gM q1
 simp only[Int.reduceToNat,Int.reduceLT,Nat.sub_zero,dp0]at q1
 refine Mir.regionA 1 [] ([.ptr 1 0,.d (.int .u8 47),U,U,dB false,.ptr 1 0,dB (0==(a0.length:Int)),dB (0==(a0.length:Int)),.ptr 1 0,.ptr 1 0,.ptr 1 0,dS a0,.ptr 1 0,.ptr 1 0,.ptr 1 1,dI 0,.d (.int .u8 (c1.toNat:Int)),.d (.int .u8 47),dB ((c1.toNat:Int) != 47),dB ((c1.toNat:Int) != 47)]++us 7) ⟨[[dB false,.nil,dS []],[dS a0,dI 0,dB false,.own 0 (zA aw []),dS []]],[(95,0)]⟩ (by kernel_rfl) (λe h=>?_) (λe h=>?_)
 simp only[seval,EMA,SB,h4]
 refine regA.one (j:=1) (by kernel_rfl) rfl (regW.of ?_)
 simp only[seval,EMA,h4]
 refine aY.inlA h3 ?_ ?_
 exact zzA
 simp only[seval,EMA,h4]
 refine regA.draw 2 [] (by kernel_rfl) ?_
 simp only[seval,EMA,SB,q1,h4]
 exact⟨rfl,rfl⟩
 exact zzA
 exact zzA
 simp only[seval,EMA]
 refine mU e (.sA ?_) h
 refine .block (Mir.lF (λ_=>rfl) (by simp only[seval,FMA]) (by simp only[seval,FMA]) λv5=>.seqK (.block (.seqK (.block (.seqK (.bind λv6 h6=>.region λe h=>WA ?_))))))
 refine aY.inlA h6 ?_ ?_
 exact zzA
 simp only[seval,EMA]
 refine mU e (.cond rfl (λh7=>?_) (λh7=>?_)) h
 exact zzA
 refine .seqK (.bind λc2 q2=>?_)
 replace q2:=gM q2
 refine .regionD [] (by kernel_rfl) λe h=>?_
 simp only[seval,EMA,SB,q2]
 refine mU e (.cond rfl (λh9=>?_) (λh9=>?_)) h
 refine .seqK (.bind λv7 h10=>.region λe h=>WA ?_)
 refine aY.inlA h10 ?_ ?_
 refine .sA ?_
 refine .sA ?_
 refine .sA ?_
 refine .seqK (Mir.jOB (λ_=>rfl) ?_ ?_)
 refine .block (Mir.lF (λ_=>rfl) (by simp only[seval,FMA]) (by simp only[seval,FMA]) λv8=>.seqK (.seqK (Mir.jOR (λ_=>rfl) ?_ ?_)))
 refine .bind λv9 h11=>.ite (λh12=>?_) (λh12=>?_)
 refine Mir.regionA 1 [] ([.ptr 1 0,U,U,dI v5.2.at_]++us 12++[.ptr 1 0,dB (v8==(v5.2.s.length:Int)),dB (!(v8==(v5.2.s.length:Int))),dB (!(v8==(v5.2.s.length:Int))),.skip,.skip,.skip,.skip,.skip,.skip,.skip,.skip,.skip,.skip,dB false]++us 40) ⟨[[dB false,.nil,dS []],[dS v5.2.s,dI v8,dB v5.2.b.Skip,.own 0 (zA aw v5.2.b.Words),dS v5.2.b.Comment]],[(95,v5.2.b.Words.length)]⟩ (by kernel_rfl) (λe h=>?_) (λe h=>?_)
 simp only[seval,EMA,SB,h12]
 refine regA.one (j:=1) (by kernel_rfl) rfl (regW.of ?_)
 simp only[seval,EMA,h12]
 refine aY.inlA h11 ?_ ?_
 refine .sA ?_
 refine .seqK (.regionD [] (by kernel_rfl) λe h=>?_)
 simp only[seval,EMA,SB]
 exact zzA
 simp only[seval,EMA,h12]
 refine regA.draw 2 [] (by kernel_rfl) ?_
 simp only[seval,EMA,SB,h12]
 exact⟨rfl,rfl⟩
 exact zzA
 refine .bind λc3 q3=>?_
 replace q3:=gM q3
 refine .bind λy1 h13=>Mir.regionA 1 [] ([.ptr 1 0,U,U,dI v5.2.at_]++us 12++[.ptr 1 0,dB (v8==(v5.2.s.length:Int)),dB (!(v8==(v5.2.s.length:Int))),dB (!(v8==(v5.2.s.length:Int))),.ptr 1 0,.ptr 1 0,.ptr 1 0,dS v5.2.s,.ptr 1 0,.ptr 1 0,.ptr 1 1,dI v8,.d (.int .u8 (c3.toNat:Int)),dB y1,dB y1]++us 40) ⟨[[dB false,.nil,dS []],[dS v5.2.s,dI v8,dB v5.2.b.Skip,.own 0 (zA aw v5.2.b.Words),dS v5.2.b.Comment]],[(95,v5.2.b.Words.length)]⟩ (by kernel_rfl) (λe h=>?_) (λe h=>?_)
 simp only[seval,EMA,SB,h12]
 refine regA.one (j:=1) (by kernel_rfl) rfl (regW.of ?_)
 simp only[seval,EMA,h12]
 refine aY.inlA h11 ?_ ?_
 exact zzA
 simp only[seval,EMA,h12]
 refine regA.draw 2 [] (by kernel_rfl) ?_
 simp only[seval,EMA,SB,q3,h12]
 refine Spec.by (bk_printable_spec.1 _ h13) (by simp only[seval,FMA,h12]) ?_
 simp only[seval,EMA,SB,h12]
 exact⟨rfl,rfl⟩
 exact zzA
 exact zzA
 intro v11
 refine Mir.toK (.seqK (.bind λs1 q4=>?_))
 replace q4:=cutL_ok q4
 refine .regionD [] (by kernel_rfl) λe h=>?_
 simp only[seval,EMA,SB,q4,Nat.le_refl,and_true,true_and,dm,tm]
 refine mU e (.seqK (.sA ?_)) h
 refine .cond rfl (λh15=>?_) (λh15=>?_)
 exact zzA
 refine .skip (Mir.toK (.seqK (.seqK (Mir.jOR (λ_=>rfl) ?_ ?_))))
 refine .ite (λh16=>?_) (λh16=>?_)
 exact zzA
 refine .bind λv12 h17=>.region λe h=>?_
 simp only[seval,EMA,h16]
 refine aY.inlA h17 ?_ ?_
 refine .sA ?_
 refine .seqK (.seqK (Mir.jOR (λ_=>rfl) ?_ ?_))
 refine .bind λv13 h18=>.ite (λh19=>?_) (λh19=>?_)
 refine Mir.regionA 1 [] ([.ptr 1 0,.d (.int .u8 41),U,U,dB false,.ptr 1 0,dB (v11==(v5.2.s.length:Int)),dB (v11==(v5.2.s.length:Int)),.skip,.skip,.skip,.skip,.skip,.skip,.skip,.skip,.skip,.skip,.skip,dB true]++us 7) ⟨[[dB false,.nil,dS []],[dS v5.2.s,dI v11,dB v5.2.b.Skip,.own 0 (zA aw v5.2.b.Words),dS v5.2.b.Comment]],[(95,v5.2.b.Words.length)]⟩ (by kernel_rfl) (λe h=>?_) (λe h=>?_)
 simp only[seval,EMA,SB,h19]
 refine regA.one (j:=1) (by kernel_rfl) rfl (regW.of ?_)
 simp only[seval,EMA,h19]
 refine aY.inlA h18 ?_ ?_
 exact zzA
 simp only[seval,EMA,h19]
 refine regA.draw 2 [] (by kernel_rfl) ?_
 simp only[seval,EMA,SB,h19]
 exact⟨rfl,rfl⟩
 exact zzA
 refine .bind λc4 q5=>?_
 replace q5:=gM q5
 refine Mir.regionA 1 [] ([.ptr 1 0,.d (.int .u8 41),U,U,dB false,.ptr 1 0,dB (v11==(v5.2.s.length:Int)),dB (v11==(v5.2.s.length:Int)),.ptr 1 0,.ptr 1 0,.ptr 1 0,dS v5.2.s,.ptr 1 0,.ptr 1 0,.ptr 1 1,dI v11,.d (.int .u8 (c4.toNat:Int)),.d (.int .u8 41),dB ((c4.toNat:Int) != 41),dB ((c4.toNat:Int) != 41)]++us 7) ⟨[[dB false,.nil,dS []],[dS v5.2.s,dI v11,dB v5.2.b.Skip,.own 0 (zA aw v5.2.b.Words),dS v5.2.b.Comment]],[(95,v5.2.b.Words.length)]⟩ (by kernel_rfl) (λe h=>?_) (λe h=>?_)
 simp only[seval,EMA,SB,h19]
 refine regA.one (j:=1) (by kernel_rfl) rfl (regW.of ?_)
 simp only[seval,EMA,h19]
 refine aY.inlA h18 ?_ ?_
 exact zzA
 simp only[seval,EMA,h19]
 refine regA.draw 2 [] (by kernel_rfl) ?_
 simp only[seval,EMA,SB,q5,h19]
 exact⟨rfl,rfl⟩
 exact zzA
 exact zzA
 exact zzA
 exact zzA
 exact zzA
 refine .skip (Mir.toB (Mir.toK (.seqK (.seqK (.bind λv17 h24=>.region λe h=>WA ?_)))))
 refine aY.inlA h24 ?_ ?_
 refine .sA ?_
 refine .seqK (.bind λc5 q6=>?_)
 replace q6:=gM q6
 refine .regionD [] (by kernel_rfl) λe h=>?_
 simp only[seval,EMA,SB,q6]
 refine mU e (.seqK (.seqK (Mir.jV rfl ?_ ?_))) h
 exact zzA
 refine Mir.toK (.cond rfl (λh26=>?_) (λh26=>?_))
 exact zzA
 refine .skip (Mir.toK (.seqK (.sA ?_)))
 refine .cond rfl (λh27=>?_) (λh27=>?_)
 exact zzA
 refine .skip (Mir.toK (.sA ?_))
 refine .seqK (Mir.jOB (λ_=>rfl) ?_ ?_)
 refine .block (Mir.lF (λ_=>rfl) (by simp only[seval,FMA]) (by simp only[seval,FMA]) λv18=>.seqK (.seqK (Mir.jOR (λ_=>rfl) ?_ ?_)))
 refine .ite (λh28=>?_) (λh28=>?_)
 refine .bind λc6 q7=>?_
 replace q7:=gM q7
 refine .ite (λh29=>?_) (λh29=>?_)
 refine .ite (λh30=>?_) (λh30=>?_)
 refine .region λe h=>?_
 simp only[seval,EMA,q7,h28,h29,h30]
 exact zzA
 refine .ite (λh31=>?_) (λh31=>?_)
 refine .region λe h=>?_
 simp only[seval,EMA,q7,h28,h29,h30,h31]
 exact zzA
 refine .region λe h=>?_
 simp only[seval,EMA,q7,h28,h29,h30,h31]
 exact zzA
 refine .ite (λh32=>?_) (λh32=>?_)
 refine .region λe h=>?_
 simp only[seval,EMA,q7,h28,h29,h32]
 exact zzA
 refine .region λe h=>?_
 simp only[seval,EMA,q7,h28,h29,h32]
 exact zzA
 refine .region λe h=>?_
 simp only[seval,EMA,h28]
 exact zzA
 exact zzA
 exact zzA
 simp only[seval,EMA]
 refine mU e (.sA ?_) h
 refine .cond rfl (λh36=>?_) (λh36=>?_)
 exact zzA
 refine .skip (Mir.toK (.seqK (.seqK (.bind λv21 h37=>.region λe h=>WA ?_))))
 refine aY.inlA h37 ?_ ?_
 exact zzA
 simp only[seval,EMA]
 refine mU e (.cond rfl (λh38=>?_) (λh38=>?_)) h
 exact zzA
 refine .skip (Mir.toK (.seqK (.bind λv22 h39=>.region λe h=>WA ?_)))
 refine aY.inlA h39 ?_ ?_
 refine .sA ?_
 refine .seqK (.seqK (Mir.jOR (λ_=>rfl) ?_ ?_))
 refine .bind λv23 h40=>.ite (λh41=>?_) (λh41=>?_)
 exact zzA
 refine .bind λc7 q10=>?_
 replace q10:=gM q10
 refine Mir.regionA 1 [] ([.ptr 1 0,.d (.int .u8 32),U,U,dB false,.ptr 1 0,dB (v17.2.at_==(v17.2.s.length:Int)),dB (v17.2.at_==(v17.2.s.length:Int)),.ptr 1 0,.ptr 1 0,.ptr 1 0,dS v17.2.s,.ptr 1 0,.ptr 1 0,.ptr 1 1,dI v17.2.at_,.d (.int .u8 (c7.toNat:Int)),.d (.int .u8 32),dB ((c7.toNat:Int) != 32),dB ((c7.toNat:Int) != 32)]++us 7) ⟨[[dB false,.nil,dS []],[dS v17.2.s,dI v17.2.at_,dB v17.2.b.Skip,.own 0 (zA aw v17.2.b.Words),dS v17.2.b.Comment]],[(95,v17.2.b.Words.length)]⟩ (by kernel_rfl) (λe h=>?_) (λe h=>?_)
 simp only[seval,EMA,SB,h41]
 refine regA.one (j:=1) (by kernel_rfl) rfl (regW.of ?_)
 simp only[seval,EMA,h41]
 refine aY.inlA h40 ?_ ?_
 exact zzA
 simp only[seval,EMA,h41]
 refine regA.draw 2 [] (by kernel_rfl) ?_
 simp only[seval,EMA,SB,q10,h41]
 exact⟨rfl,rfl⟩
 exact zzA
 exact zzA
 exact zzA
 simp only[seval,EMA]
 refine mU e (.sA ?_) h
 refine .cond rfl (λh44=>?_) (λh44=>?_)
 refine .seqK (.regionD [(17,2)] (by kernel_rfl) λe h=>?_)
 simp only[seval,EMA,SB]
 refine mU e (.ret QA) h
 refine .skip (Mir.toK (.sA ?_))
 refine .ret QA
instance:Sp 47 (type_of% @bk_Parse_spec):=⟨@bk_Parse_spec⟩
def ku(a0:(List UInt8)):Option ((List aa)×Int×Int):=ah (if (decide ((a0.length:Int)>65536))=true then some true else ah (dj a0 [10]) λ(y1:Int)=>if (decide (y1>20000))=true then some true else ah (dj a0 [10]) λ(y2:Int)=>if (y2==20000)=true then ah (d8 a0 [10]) λ(y3:Bool)=>some (!y3)else some false) λ(v1:Bool)=>jR 1 ([dS a0]++us 29++[dB v1]++us 28) ⟨[],[]⟩ ( if v1=true then some ([],0,3)else gF [.slot 5 87] ( bindX (bt (λ(v2:(List UInt8)×(List aa)×Int)=>lF ([dS v2.1,U,U,U,U,.own 0 (zA ac v2.2.1),dI v2.2.2]++us 52) ⟨[],[(87,v2.2.1.length)]⟩ ( if (!(v2.1==[]))=true then ah (dU v2.1 [10]) λ(y4:(List UInt8)×(List UInt8)×Bool)=>ah (bk_Parse y4.1) λ(y5:aa×Int×Int)=>ah (if (!y4.2.2)=true then some 2 else some y5.2.2) λ(v3:Int)=>jC ([U,U,U,U,U,.own 0 (zA ac v2.2.1),dI v2.2.2,U,dS y4.2.1,U,.ptr 0 0,U,dI v3]++us 46) ⟨[(cC y5.1)],[(87,v2.2.1.length)]⟩ ( if (v3 != 0)=true then some (.ret (.ret ([],v2.2.2,v3)))else av (bo (v2.2.1.length+1)) ( some (.go (y4.2.1,v2.2.1++[y5.1],zB.wrap (v2.2.2+1)))))else some (.ret (.go v2.2.1)))) fuel (a0,[],1)) λ(v4:(List aa))=>jB 0 ([U,U,U,U,U,.own 0 (zA ac v4)]++us 53) ⟨[],[(87,v4.length)]⟩ ( some (v4,0,0))))
theorem l8{a0:(List UInt8)}{y:(List aa)×Int×Int}(h:ku a0=some y):Spec gP 19 [dS a0] (.tuple [.d (.list (zA ac y.1)),.d (.int .i64 y.2.1),.d (.int .i64 y.2.2)]):=by
 refine auA Tryz.func19 (λy:(List aa)×Int×Int=>.tuple [.d (.list (zA ac y.1)),.d (.int .i64 y.2.1),.d (.int .i64 y.2.2)]) ?_ h
 unfold ku
 refine .sA ?_
 refine .seqK (.seqK (Mir.jOR (λ_=>rfl) ?_ ?_))
 refine .ite (λhb1=>?_) (λhb1=>?_)
 exact zzA
 refine .bind λy1 hy2=>.ite (λhb3=>?_) (λhb3=>?_)
 exact zzA
 refine .bind λy2 hy4=>.ite (λhb5=>?_) (λhb5=>?_)
 refine .bind λy3 hy6=>.region λe h=>?_
 simp only[seval,EMA,hb1,hb3,hb5]
 refine aY.by (dH hy2) (by simp only[seval,FMA,hb1,hb3,hb5]) ?_
 exact zzA
 refine .region λe h=>?_
 simp only[seval,EMA,hb1,hb3,hb5]
 refine aY.by (dH hy2) (by simp only[seval,FMA,hb1,hb3,hb5]) ?_
 exact zzA
 exact zzA
instance:Sp 19 (type_of% @l8):=⟨@l8⟩
def iY(a0:(List UInt8))(a1:Int):Option ((List UInt8)×Int×Int):=ah (bt (λ(v1:Int)=>lF ([dS a0,dI a1,U,U,U,U,U,dI v1]++us 51) ⟨[],[]⟩ ( ah (if (decide (v1<(a0.length:Int)))=true then ah (gt a0 v1) λ(c1:UInt8)=>ah (ec (c1.toNat:Int)) λ(y1:Bool)=>some y1 else some false) λ(v2:Bool)=>jR 2 ([dS a0,dI a1,U,U,U,U,U,dI v1]++us 11++[dB v2]++us 39) ⟨[],[]⟩ ( if v2=true then some (.go (zB.wrap (v1+1)))else some (.ret v1)))) fuel (zB.wrap (a1+1))) λ(v3:Int)=>jB 0 ([dS a0,dI a1,U,U,U,U,U,dI v3]++us 51) ⟨[],[]⟩ ( if (decide ((zB.wrap ((zB.wrap (v3-a1))-1))>100))=true then some ([],a1,3)else ah (if (v3==(a0.length:Int))=true then some true else ah (gt a0 v3) λ(c2:UInt8)=>if ((c2.toNat:Int) != 41)=true then some true else some (v3==(zB.wrap (a1+1)))) λ(v4:Bool)=>jR 6 ([dS a0,dI a1,U,U,U,U,U,dI v3]++us 35++[dB v4]++us 15) ⟨[],[]⟩ ( if v4=true then some ([],v3,2)else if (decide ((zB.wrap (v3+1))<(a0.length:Int)))=true then some ([],zB.wrap (v3+1),2)else ah (cutL a0 (zB.wrap (a1+1)) v3) λ(s1:(List UInt8))=>some (s1,zB.wrap (v3+1),0)))
instance r41_comment_spec:Sp 77 (∀{a0:(List UInt8)} {a1:Int},Ct 77 [dS a0,dI a1] (λy:(List UInt8)×Int×Int=>.tuple [.d (.str y.1),.d (.int .i64 y.2.1),.d (.int .i64 y.2.2)]) (iY a0 a1)):=⟨zzF Tryz.func77 (iY.eq_1 ..)⟩
def kb(a0:Int):Option Bool:=jV 1 ([U,U,dB (if (decide (a0≥48))=true then (decide (a0≤57))||((a0==45)||(a0==46))else (a0==45)||(a0==46))]++us 14) ⟨[],[]⟩ ( some (if (decide (a0≥48))=true then (decide (a0≤57))||((a0==45)||(a0==46))else (a0==45)||(a0==46)))
instance r41_number_spec:Sp 78 (∀{a0:Int},Ct 78 [.d (.int .u8 a0)] (λy:Bool=>.d (.bool y)) (kb a0)):=⟨zzF Tryz.func78 (kb.eq_1 ..)⟩
def ed(a0:(List UInt8)):Option Bool:=ah (if (decide ((a0.length:Int)>0))=true then ah (gt a0 0) λ(c1:UInt8)=>some ((c1.toNat:Int)==45)else some false) λ(v1:Bool)=>jR 1 ([dS a0]++us 11++[dB v1]++us 47) ⟨[],[]⟩ ( bindX (if v1=true then if (a0==[45,48])=true then some (.ret false)else ah (cutF a0 1) λ(s1:(List UInt8))=>some (.go s1)else some (.go a0)) λ(v2:(List UInt8))=>jC ([dS v2]++us 59) ⟨[],[]⟩ ( ah (av (be v2) ( az (λ(i1:Nat) (c2:UInt8) (v3:Int)=>rF ([dS v2,U,U,dI v3,dI (i1:Int)]++us 55) ⟨[],[]⟩ ( ah (if ((c2.toNat:Int)==46)=true then some (i1:Int)else some v3) λ(v4:Int)=>jB 1 ([dS v2,U,U,dI v4,dI (i1:Int)]++us 55) ⟨[],[]⟩ ( some (.go v4)))) (λ(v3:Int)=>some v3) v2 0 (v2.length:Int))) λ(v5:Int)=>jB 0 ([dS v2,U,U,dI v5]++us 56) ⟨[],[]⟩ ( ah (if (v5==0)=true then some true else if (decide (v5>1))=true then ah (gt v2 0) λ(c3:UInt8)=>some ((c3.toNat:Int)==48)else some false) λ(v6:Bool)=>jR 11 ([dS v2,U,U,dI v5]++us 36++[dB v6]++us 19) ⟨[],[]⟩ ( if v6=true then some false else ah (if (v5==(v2.length:Int))=true then some true else if (decide (v5<(zB.wrap ((v2.length:Int)-1))))=true then ah (gt v2 (zB.wrap ((v2.length:Int)-1))) λ(c4:UInt8)=>some ((c4.toNat:Int) != 48)else some false) λ(v7:Bool)=>jR 13 ([U,U,dB v7]++us 57) ⟨[],[]⟩ ( some v7)))))
instance r41_canonical_spec:Sp 127 (∀{a0:(List UInt8)},Ct 127 [dS a0] (λy:Bool=>.d (.bool y)) (ed a0)):=⟨zzF Tryz.func127 (ed.eq_1 ..)⟩
def lJ(a0:(List UInt8)):Option (Int×Int):=bindX (av (be a0) ( az (λ(i1:Nat) (c1:UInt8) (v1:Int×Int×Int×Bool×Bool)=>rF ([dS a0,U,U,U,.d (.int .u64 v1.1),.d (.int .u64 v1.2.1),dI v1.2.2.1,dB v1.2.2.2.1,dB v1.2.2.2.2,dI (i1:Int)]++us 107) ⟨[],[]⟩ ( bindX (jV 7 ([dS a0,U,U,U,.d (.int .u64 v1.1),.d (.int .u64 v1.2.1),dI v1.2.2.1,dB v1.2.2.2.1,dB v1.2.2.2.2,dI (i1:Int)]++us 7++[dB (((i1:Int)==0)&&((c1.toNat:Int)==45))]++us 99) ⟨[],[]⟩ ( if (((i1:Int)==0)&&((c1.toNat:Int)==45))=true then some (.go (v1.1,v1.2.1,v1.2.2.1,true,v1.2.2.2.2))else jV 9 ([dS a0,U,U,U,.d (.int .u64 v1.1),.d (.int .u64 v1.2.1),dI v1.2.2.1,dB v1.2.2.2.1,dB v1.2.2.2.2,dI (i1:Int)]++us 16++[dB (((c1.toNat:Int)==46)&&((decide (v1.2.2.1<0))&&(decide ((i1:Int)>0))))]++us 90) ⟨[],[]⟩ ( if (((c1.toNat:Int)==46)&&((decide (v1.2.2.1<0))&&(decide ((i1:Int)>0))))=true then some (.go (v1.1,v1.2.1,0,v1.2.2.2.1,v1.2.2.2.2))else jV 11 ([dS a0,U,U,U,.d (.int .u64 v1.1),.d (.int .u64 v1.2.1),dI v1.2.2.1,dB v1.2.2.2.1,dB v1.2.2.2.2,dI (i1:Int)]++us 29++[dB ((decide ((c1.toNat:Int)≥48))&&((decide ((c1.toNat:Int)≤57))&&(decide (v1.2.2.1<0))))]++us 77) ⟨[],[]⟩ ( if ((decide ((c1.toNat:Int)≥48))&&((decide ((c1.toNat:Int)≤57))&&(decide (v1.2.2.1<0))))=true then if (decide ((zD.wrap ((zD.wrap (10*v1.1))+(zD.wrap (IntKind.u8.wrap ((c1.toNat:Int)-48)))))>1000000000000))=true then some (.go (1000000000000,v1.2.1,v1.2.2.1,v1.2.2.2.1,true))else some (.go (zD.wrap ((zD.wrap (10*v1.1))+(zD.wrap (IntKind.u8.wrap ((c1.toNat:Int)-48)))),v1.2.1,v1.2.2.1,v1.2.2.2.1,v1.2.2.2.2))else jV 15 ([dS a0,U,U,U,.d (.int .u64 v1.1),.d (.int .u64 v1.2.1),dI v1.2.2.1,dB v1.2.2.2.1,dB v1.2.2.2.2,dI (i1:Int)]++us 54++[dB ((decide ((c1.toNat:Int)≥48))&&((decide ((c1.toNat:Int)≤57))&&(decide (v1.2.2.1<3))))]++us 52) ⟨[],[]⟩ ( if ((decide ((c1.toNat:Int)≥48))&&((decide ((c1.toNat:Int)≤57))&&(decide (v1.2.2.1<3))))=true then some (.go (v1.1,zD.wrap ((zD.wrap (10*v1.2.1))+(zD.wrap (IntKind.u8.wrap ((c1.toNat:Int)-48)))),zB.wrap (v1.2.2.1+1),v1.2.2.2.1,v1.2.2.2.2))else some (.ret (.ret (.ret (0,2))))))))) λ(v2:Int×Int×Int×Bool×Bool)=>jB 1 ([dS a0,U,U,U,.d (.int .u64 v2.1),.d (.int .u64 v2.2.1),dI v2.2.2.1,dB v2.2.2.2.1,dB v2.2.2.2.2,dI (i1:Int)]++us 107) ⟨[],[]⟩ ( some (.go (v2.1,v2.2.1,v2.2.2.1,v2.2.2.2.1,v2.2.2.2.2))))) (λ(v1:Int×Int×Int×Bool×Bool)=>some (.go (v1.1,v1.2.1,v1.2.2.1,v1.2.2.2.1,v1.2.2.2.2))) a0 0 (0,0,-1,false,false))) λ(v3:Int×Int×Int×Bool×Bool)=>jB 0 ([dS a0,U,U,U,.d (.int .u64 v3.1),.d (.int .u64 v3.2.1),dI v3.2.2.1,dB v3.2.2.2.1,dB v3.2.2.2.2]++us 108) ⟨[],[]⟩ ( ah (ed a0) λ(y1:Bool)=>if (!y1)=true then some (0,2)else ah (bt (λ(v4:Int×Int)=>lF ([U,U,U,U,.d (.int .u64 v3.1),.d (.int .u64 v4.1),dI v4.2,dB v3.2.2.2.1,dB v3.2.2.2.2]++us 108) ⟨[],[]⟩ ( jV 19 ([U,U,U,U,.d (.int .u64 v3.1),.d (.int .u64 v4.1),dI v4.2,dB v3.2.2.2.1,dB v3.2.2.2.2]++us 88++[dB ((decide (v4.2≥0))&&(decide (v4.2<3)))]++us 19) ⟨[],[]⟩ ( if ((decide (v4.2≥0))&&(decide (v4.2<3)))=true then some (.go (zD.wrap (10*v4.1),zB.wrap (v4.2+1)))else some (.ret v4.1)))) fuel (v3.2.1,v3.2.2.1)) λ(v5:Int)=>jB 3 ([U,U,U,U,.d (.int .u64 v3.1),.d (.int .u64 v5),U,dB v3.2.2.2.1,dB v3.2.2.2.2]++us 108) ⟨[],[]⟩ ( jV 22 (us 7++[dB v3.2.2.2.1,U,U,.d (.int .u64 (zD.wrap ((zD.wrap (1000*v3.1))+v5)))]++us 99++[dB (v3.2.2.2.2||(decide ((zD.wrap ((zD.wrap (1000*v3.1))+v5))>1000000000000)))]++us 6) ⟨[],[]⟩ ( if (v3.2.2.2.2||(decide ((zD.wrap ((zD.wrap (1000*v3.1))+v5))>1000000000000)))=true then some (0,11)else if v3.2.2.2.1=true then some (zB.wrap (0-(zB.wrap (zD.wrap ((zD.wrap (1000*v3.1))+v5)))),0)else some (zB.wrap (zD.wrap ((zD.wrap (1000*v3.1))+v5)),0))))
instance r41_Value_spec:Sp 79 (∀{a0:(List UInt8)},Ct 79 [dS a0] (λy:Int×Int=>.tuple [.d (.int .i64 y.1),.d (.int .i64 y.2)]) (lJ a0)):=⟨zzF Tryz.func79 (lJ.eq_1 ..)⟩
def lK(a0:(List UInt8)):Option (aa×Int×Int):=if (decide ((a0.length:Int)>65536))=true then some (aa.mk false [] [],0,3)else ah (if (a0==[])=true then some false else ah (gt a0 0) λ(c1:UInt8)=>some ((c1.toNat:Int)==47)) λ(v1:Bool)=>jR 5 ([dS a0,U,.ptr 0 0,U,U,.ptr 1 0,dI 0]++us 17++[dB v1]++us 104) ⟨[[dB false,.nil,dS []],[dB false,.nil,dS []]],[]⟩ ( ah (if v1=true then some (1,true)else some (0,false)) λ(v2:Int×Bool)=>jC ([dS a0,U,.ptr 0 0,U,U,.ptr 1 0,dI v2.1]++us 122) ⟨[[dB false,.nil,dS []],[dB v2.2,.nil,dS []]],[]⟩ ( gF [.cell 1 1 95] ( bindX (bt (λ(v3:Int×Bool×(List ay))=>lF ([dS a0,U,.ptr 0 0,U,U,.ptr 1 0,dI v3.1,dB v3.2.1]++us 121) ⟨[[dB false,.nil,dS []],[dB v2.2,.own 0 (zA aw v3.2.2),dS []]],[(95,v3.2.2.length)]⟩ ( jV 8 ([dS a0,U,.ptr 0 0,U,U,.ptr 1 0,dI v3.1]++us 26++[dB ((decide (v3.1<(a0.length:Int)))||(!v3.2.1))]++us 95) ⟨[[dB false,.nil,dS []],[dB v2.2,.own 0 (zA aw v3.2.2),dS []]],[(95,v3.2.2.length)]⟩ ( if ((decide (v3.1<(a0.length:Int)))||(!v3.2.1))=true then bindX (if (v3.1==(a0.length:Int))=true then some (.ret (.ret (.ret (aa.mk false [] [],v3.1,2))))else ah (gt a0 v3.1) λ(c2:UInt8)=>if ((c2.toNat:Int)==40)=true then ah (iY a0 v3.1) λ(y1:(List UInt8)×Int×Int)=>if (y1.2.2 != 0)=true then some (.ret (.ret (.ret (aa.mk false [] [],y1.2.1,y1.2.2))))else some (.ret (.ret (.ret (aa.mk v2.2 v3.2.2 y1.1,0,0))))else jV 18 ([dS a0,U,.ptr 0 0,U,U,.ptr 1 0,dI v3.1]++us 61++[dB ((decide ((c2.toNat:Int)<65))||(decide ((c2.toNat:Int)>90)))]++us 60) ⟨[[dB false,.nil,dS []],[dB v2.2,.own 0 (zA aw v3.2.2),dS []]],[(95,v3.2.2.length)]⟩ ( if ((decide ((c2.toNat:Int)<65))||(decide ((c2.toNat:Int)>90)))=true then some (.ret (.ret (.ret (aa.mk false [] [],v3.1,2))))else if ((v3.2.2.length:Int)==16)=true then some (.ret (.ret (.ret (aa.mk false [] [],v3.1,3))))else ah (bt (λ(v4:Int)=>lF ([dS a0,U,.ptr 0 0,U,U,.ptr 1 0,dI v3.1,U,U,U,U,dI v4]++us 117) ⟨[[dB false,.nil,dS []],[dB v2.2,.own 0 (zA aw v3.2.2),dS []]],[(95,v3.2.2.length)]⟩ ( ah (if (decide (v4<(a0.length:Int)))=true then ah (gt a0 v4) λ(c3:UInt8)=>ah (kb (c3.toNat:Int)) λ(y2:Bool)=>some y2 else some false) λ(v5:Bool)=>jR 23 ([dS a0,U,.ptr 0 0,U,U,.ptr 1 0,dI v3.1,U,U,U,U,dI v4]++us 76++[dB v5]++us 40) ⟨[[dB false,.nil,dS []],[dB v2.2,.own 0 (zA aw v3.2.2),dS []]],[(95,v3.2.2.length)]⟩ ( if v5=true then some (.go (zB.wrap (v4+1)))else some (.ret v4)))) fuel (zB.wrap (v3.1+1))) λ(v6:Int)=>jB 2 ([dS a0,U,.ptr 0 0,U,U,.ptr 1 0,dI v3.1,U,U,U,U,dI v6]++us 117) ⟨[[dB false,.nil,dS []],[dB v2.2,.own 0 (zA aw v3.2.2),dS []]],[(95,v3.2.2.length)]⟩ ( ah (cutL a0 (zB.wrap (v3.1+1)) v6) λ(s1:(List UInt8))=>ah (lJ s1) λ(y3:Int×Int)=>if (y3.2 != 0)=true then some (.ret (.ret (.ret (aa.mk false [] [],v3.1,y3.2))))else av (bo (v3.2.2.length+1)) ( if (v6==(a0.length:Int))=true then some (.ret (.ret (.ret (aa.mk v2.2 (v3.2.2++[ay.mk (c2.toNat:Int) y3.1]) [],0,0))))else ah (gt a0 v6) λ(c4:UInt8)=>if ((c4.toNat:Int) != 32)=true then some (.ret (.ret (.ret (aa.mk false [] [],v6,2))))else some (.go (zB.wrap (v6+1),v3.2.2++[ay.mk (c2.toNat:Int) y3.1])))))) λ(v7:Int×(List ay))=>jB 1 ([dS a0,U,.ptr 0 0,U,U,.ptr 1 0,dI v7.1]++us 122) ⟨[[dB false,.nil,dS []],[dB v2.2,.own 0 (zA aw v7.2),dS []]],[(95,v7.2.length)]⟩ ( some (.go (v7.1,false,v7.2)))else some (.ret (.go v3.2.2))))) fuel (v2.1,true,[])) λ(v8:(List ay))=>jB 0 ([U,U,.ptr 0 0,U,U,.ptr 1 0]++us 123) ⟨[[dB false,.nil,dS []],[dB v2.2,.own 0 (zA aw v8),dS []]],[(95,v8.length)]⟩ ( some (aa.mk v2.2 v8 [],0,0)))))
instance r41_Parse_spec:Sp 32 (∀{a0:(List UInt8)},Ct 32 [dS a0] (λy:aa×Int×Int=>.tuple [.agg [.d (.bool y.1.Skip),.d (.list (zA aw y.1.Words)),.d (.str y.1.Comment)],.d (.int .i64 y.2.1),.d (.int .i64 y.2.2)]) (lK a0)):=⟨zzF Tryz.func32 (lK.eq_1 ..)⟩
def i6(a0:(List UInt8)):Option ((List aa)×Int×Int):=ah (av (be a0) ( az (λ(i1:Nat) (c1:UInt8) (v1:Int)=>rF ([dS a0,U,U,U,U,dI v1,dI (i1:Int)]++us 71) ⟨[],[]⟩ ( ah (jV 5 ([dS a0,U,U,U,U,dI v1,dI (i1:Int)]++us 22++[dB (((c1.toNat:Int)==10)&&(decide ((zB.wrap ((i1:Int)+1))<(a0.length:Int))))]++us 48) ⟨[],[]⟩ ( if (((c1.toNat:Int)==10)&&(decide ((zB.wrap ((i1:Int)+1))<(a0.length:Int))))=true then some (zB.wrap (v1+1))else some v1)) λ(v2:Int)=>jB 1 ([dS a0,U,U,U,U,dI v2,dI (i1:Int)]++us 71) ⟨[],[]⟩ ( some (.go v2)))) (λ(v1:Int)=>some v1) a0 0 1)) λ(v3:Int)=>jB 0 ([dS a0,U,U,U,U,dI v3]++us 72) ⟨[],[]⟩ ( jV 7 ([dS a0]++us 37++[dB ((decide ((a0.length:Int)>65536))||(decide (v3>20000)))]++us 39) ⟨[],[]⟩ ( if ((decide ((a0.length:Int)>65536))||(decide (v3>20000)))=true then some ([],0,3)else gF [.slot 7 87] ( bindX (av (be a0) ( az (λ(i2:Nat) (c2:UInt8) (v4:(List aa)×Int)=>rF ([dS a0]++us 6++[.own 0 (zA ac v4.1),dI v4.2,dI (i2:Int)]++us 68) ⟨[],[(87,v4.1.length)]⟩ ( bindX (if ((c2.toNat:Int)==10)=true then ah (cutL a0 v4.2 (i2:Int)) λ(s1:(List UInt8))=>ah (lK s1) λ(y1:aa×Int×Int)=>if (y1.2.2 != 0)=true then some (.ret (.ret (.ret ([],zB.wrap ((v4.1.length:Int)+1),y1.2.2))))else av (bo (v4.1.length+1)) ( some (.go (v4.1++[y1.1],zB.wrap ((i2:Int)+1))))else some (.go (v4.1,v4.2))) λ(v5:(List aa)×Int)=>jB 3 ([dS a0]++us 6++[.own 0 (zA ac v5.1),dI v5.2,dI (i2:Int)]++us 68) ⟨[],[(87,v5.1.length)]⟩ ( some (.go (v5.1,v5.2))))) (λ(v4:(List aa)×Int)=>some (.go (v4.1,v4.2))) a0 0 ([],0))) λ(v6:(List aa)×Int)=>jB 2 ([dS a0]++us 6++[.own 0 (zA ac v6.1),dI v6.2]++us 69) ⟨[],[(87,v6.1.length)]⟩ ( if (decide (v6.2<(a0.length:Int)))=true then some ([],zB.wrap ((v6.1.length:Int)+1),2)else some (v6.1,0,0)))))
instance r41_Program_spec:Sp 14 (∀{a0:(List UInt8)},Ct 14 [dS a0] (λy:(List aa)×Int×Int=>.tuple [.d (.list (zA ac y.1)),.d (.int .i64 y.2.1),.d (.int .i64 y.2.2)]) (i6 a0)):=⟨zzF Tryz.func14 (i6.eq_1 ..)⟩
end Go.Proofs.YtjemmjpdmbenkaaGreatDoor
