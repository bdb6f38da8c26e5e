import Derived.Test.YtphbhdoljnokkaaGreatDoorMA
import Derived.Test.YtphbhdoljnokkaaGreatDoorMI
open List renaming map → zA
namespace Go.Proofs.YtphbhdoljnokkaaGreatDoor
open Go.RowKit
open Nat renaming reduceAdd → nA,reduceSub → nS,reduceMul → nM,reduceEqDiff → nE,reduceLeDiff → nL,reduceLT → nT,reduceBEq → nB
open Int renaming reduceLT → iT,reduceToNat → iN,reduceEq → iE
set_option linter.unusedVariables false
set_option linter.unusedSimpArgs false
set_option maxRecDepth 100000
set_option maxHeartbeats 8000000
def ra_unit :Option am:=ac (dW 1) λ(y1:am)=>some y1
instance ra_unit_spec:Sp 187 (Ct 187 [] (λy:am=>.agg [.d (.bool y.Neg),.d (.list (zA (eInt .u32) y.Limbs))]) (ra_unit)):=⟨zzF Tryz.func187 (ra_unit.eq_1 ..)⟩
def ra_exact(a0:am)(a1:am):Option am:=ac (jf a0 a1) λ(y1:am×am×Int)=>some y1.1
instance ra_exact_spec:Sp 188 (∀{a0:am} {a1:am},Ct 188 [.agg (cU a0),.agg (cU a1)] (λy:am=>.agg [.d (.bool y.Neg),.d (.list (zA (eInt .u32) y.Limbs))]) (ra_exact a0 a1)):=⟨zzF Tryz.func188 (ra_exact.eq_1 ..)⟩
def gk(a0:am)(a1:am):Option ah:=ac (qI a1) λ(y1:Int)=>ac (if (decide (y1<0))=true then ac (it_Neg a0) λ(y2:am)=>ac (it_Neg a1) λ(y3:am)=>some (y2,y3)else some (a0,a1)) λ(v1:am×am)=>jC ([U,U,.ptr 0 0,.ptr 1 0,.ptr 2 0]++us 24) ⟨[(cU v1.1),(cU v1.2),[dB false,.nil,dB false,.nil]],[]⟩ ( ac (it_GCD v1.1 v1.2) λ(y4:am)=>ac (ra_unit ) λ(y5:am)=>ac (ls y4 y5) λ(y6:Int)=>ac (if (y6 != 0)=true then ac (ra_exact v1.1 y4) λ(y7:am)=>ac (ra_exact v1.2 y4) λ(y8:am)=>some (y7,y8)else some (v1.1,v1.2)) λ(v2:am×am)=>jC ([U,U,.ptr 0 0,.ptr 1 0,.ptr 2 0]++us 24) ⟨[(cU v2.1),(cU v2.2),[dB false,.nil,dB false,.nil],(cU y4)],[]⟩ ( some (ah.mk v2.1 v2.2)))
instance ra_reduce_spec:Sp 111 (∀{a0:am} {a1:am},Ct 111 [.agg (cU a0),.agg (cU a1)] (λy:ah=>.agg [.d (.bool y.Num.Neg),.d (.list (zA (eInt .u32) y.Num.Limbs)),.d (.bool y.Den.Neg),.d (.list (zA (eInt .u32) y.Den.Limbs))]) (gk a0 a1)):=⟨zzF Tryz.func111 (gk.eq_1 ..)⟩
def lf(a0:ah)(a1:ah):Option ah:=ac (ls a0.Den a1.Den) λ(y1:Int)=>if (y1==0)=true then ac (oZ a0.Num a1.Num) λ(y2:am)=>ac (gk y2 a0.Den) λ(y3:ah)=>some y3 else ac (fW a0.Num a1.Den) λ(y4:am)=>ac (fW a1.Num a0.Den) λ(y5:am)=>ac (oZ y4 y5) λ(y6:am)=>ac (fW a0.Den a1.Den) λ(y7:am)=>ac (gk y6 y7) λ(y8:ah)=>some y8
instance ra_Add_spec:Sp 41 (∀{a0:ah} {a1:ah},Ct 41 [.agg (cP a0),.agg (cP a1)] (λy:ah=>.agg [.d (.bool y.Num.Neg),.d (.list (zA (eInt .u32) y.Num.Limbs)),.d (.bool y.Den.Neg),.d (.list (zA (eInt .u32) y.Den.Limbs))]) (lf a0 a1)):=⟨zzF Tryz.func41 (lf.eq_1 ..)⟩
def qk(a0:ah):Option ah:=ac (it_Neg a0.Num) λ(y1:am)=>some (ah.mk y1 a0.Den)
instance ra_Neg_spec:Sp 180 (∀{a0:ah},Ct 180 [.agg (cP a0)] (λy:ah=>.agg [.d (.bool y.Num.Neg),.d (.list (zA (eInt .u32) y.Num.Limbs)),.d (.bool y.Den.Neg),.d (.list (zA (eInt .u32) y.Den.Limbs))]) (qk a0)):=⟨zzF Tryz.func180 (qk.eq_1 ..)⟩
def jA(a0:ah)(a1:ah):Option ah:=ac (qk a1) λ(y1:ah)=>ac (lf a0 y1) λ(y2:ah)=>some y2
instance ra_Sub_spec:Sp 107 (∀{a0:ah} {a1:ah},Ct 107 [.agg (cP a0),.agg (cP a1)] (λy:ah=>.agg [.d (.bool y.Num.Neg),.d (.list (zA (eInt .u32) y.Num.Limbs)),.d (.bool y.Den.Neg),.d (.list (zA (eInt .u32) y.Den.Limbs))]) (jA a0 a1)):=⟨zzF Tryz.func107 (jA.eq_1 ..)⟩
def im(a0:ah)(a1:ah):Option ah:=ac (fW a0.Num a1.Num) λ(y1:am)=>ac (fW a0.Den a1.Den) λ(y2:am)=>ac (gk y1 y2) λ(y3:ah)=>some y3
instance ra_Mul_spec:Sp 176 (∀{a0:ah} {a1:ah},Ct 176 [.agg (cP a0),.agg (cP a1)] (λy:ah=>.agg [.d (.bool y.Num.Neg),.d (.list (zA (eInt .u32) y.Num.Limbs)),.d (.bool y.Den.Neg),.d (.list (zA (eInt .u32) y.Den.Limbs))]) (im a0 a1)):=⟨zzF Tryz.func176 (im.eq_1 ..)⟩
def bG(a0:ah):Option Int:=ac (qI a0.Num) λ(y1:Int)=>some y1
instance ra_Sign_spec:Sp 104 (∀{a0:ah},Ct 104 [.agg (cP a0)] (λy:Int=>.d (.int .i64 y)) (bG a0)):=⟨zzF Tryz.func104 (bG.eq_1 ..)⟩
def oz(a0:ah)(a1:ah):Option (ah×Int):=ac (bG a1) λ(y1:Int)=>if (y1==0)=true then some (ah.mk (am.mk false []) (am.mk false []),6)else ac (fW a0.Num a1.Den) λ(y2:am)=>ac (fW a0.Den a1.Num) λ(y3:am)=>ac (gk y2 y3) λ(y4:ah)=>some (y4,0)
instance ra_Div_spec:Sp 100 (∀{a0:ah} {a1:ah},Ct 100 [.agg (cP a0),.agg (cP a1)] (λy:ah×Int=>.tuple [.agg [.d (.bool y.1.Num.Neg),.d (.list (zA (eInt .u32) y.1.Num.Limbs)),.d (.bool y.1.Den.Neg),.d (.list (zA (eInt .u32) y.1.Den.Limbs))],.d (.int .i64 y.2)]) (oz a0 a1)):=⟨zzF Tryz.func100 (oz.eq_1 ..)⟩
def jm(a0:Int):Option Bool:=some (a0 != a0)
instance cmp_isNaN_int_spec:Sp 224 (∀{a0:Int},Ct 224 [dI a0] (λy:Bool=>.d (.bool y)) (jm a0)):=⟨zzF Tryz.func224 (jm.eq_1 ..)⟩
def gO(a0:Int)(a1:Int):Option Int:=ac (jm a0) λ(y1:Bool)=>ac (jm a1) λ(y2:Bool)=>if y1=true then if y2=true then some 0 else some (-1)else if y2=true then some 1 else if (decide (a0<a1))=true then some (-1)else if (decide (a0>a1))=true then some 1 else some 0
instance cmp_Compare_int_spec:Sp 174 (∀{a0:Int} {a1:Int},Ct 174 [dI a0,dI a1] (λy:Int=>.d (.int .i64 y)) (gO a0 a1)):=⟨zzF Tryz.func174 (gO.eq_1 ..)⟩
def fO(a0:ah)(a1:ah):Option Int:=ac (bG a0) λ(y1:Int)=>ac (bG a1) λ(y2:Int)=>ac (gO y1 y2) λ(y3:Int)=>if (y3 != 0)=true then some y3 else ac (fW a0.Num a1.Den) λ(y4:am)=>ac (fW a1.Num a0.Den) λ(y5:am)=>ac (ls y4 y5) λ(y6:Int)=>some y6
instance ra_Cmp_spec:Sp 97 (∀{a0:ah} {a1:ah},Ct 97 [.agg (cP a0),.agg (cP a1)] (λy:Int=>.d (.int .i64 y)) (fO a0 a1)):=⟨zzF Tryz.func97 (fO.eq_1 ..)⟩
def ra_whole(a0:am):Option ah:=ac (ra_unit ) λ(y1:am)=>some (ah.mk a0 y1)
instance ra_whole_spec:Sp 171 (∀{a0:am},Ct 171 [.agg (cU a0)] (λy:ah=>.agg [.d (.bool y.Num.Neg),.d (.list (zA (eInt .u32) y.Num.Limbs)),.d (.bool y.Den.Neg),.d (.list (zA (eInt .u32) y.Den.Limbs))]) (ra_whole a0)):=⟨zzF Tryz.func171 (ra_whole.eq_1 ..)⟩
def eI(a0:Int):Option ah:=ac (dW a0) λ(y1:am)=>ac (ra_whole y1) λ(y2:ah)=>some y2
instance ra_FromInt64_spec:Sp 92 (∀{a0:Int},Ct 92 [dI a0] (λy:ah=>.agg [.d (.bool y.Num.Neg),.d (.list (zA (eInt .u32) y.Num.Limbs)),.d (.bool y.Den.Neg),.d (.list (zA (eInt .u32) y.Den.Limbs))]) (eI a0)):=⟨zzF Tryz.func92 (eI.eq_1 ..)⟩
def pF(a0:ah):Option am:=ac (jf a0.Num a0.Den) λ(y1:am×am×Int)=>some y1.1
instance ra_Floor_spec:Sp 266 (∀{a0:ah},Ct 266 [.agg (cP a0)] (λy:am=>.agg [.d (.bool y.Neg),.d (.list (zA (eInt .u32) y.Limbs))]) (pF a0)):=⟨zzF Tryz.func266 (pF.eq_1 ..)⟩
def ra_side(a0:am):Option (am×Bool):=ac (it_Sqrt a0) λ(y1:am×Int)=>ac (if (y1.2==0)=true then ac (fW y1.1 y1.1) λ(y2:am)=>ac (ls y2 a0) λ(y3:Int)=>some (y3==0)else some false) λ(v1:Bool)=>jR 2 ([U,U,.ptr 1 0,dB v1]++us 18) ⟨[(cU a0),(cU y1.1),(cU y1.1)],[]⟩ ( some (y1.1,v1))
instance ra_side_spec:Sp 225 (∀{a0:am},Ct 225 [.agg (cU a0)] (λy:am×Bool=>.tuple [.agg [.d (.bool y.1.Neg),.d (.list (zA (eInt .u32) y.1.Limbs))],.d (.bool y.2)]) (ra_side a0)):=⟨zzF Tryz.func225 (ra_side.eq_1 ..)⟩
def ra_Sqrt(a0:ah):Option (ah×Bool):=ac (ra_side a0.Num) λ(y1:am×Bool)=>bindX (if y1.2=true then ac (ra_side a0.Den) λ(y2:am×Bool)=>if y2.2=true then some (.ret (ah.mk y1.1 y2.1,true))else some (.go ())else some (.go ())) λ(v1:Unit)=>jC ([U,U,.ptr 1 0]++us 23) ⟨[(cP a0),[dB false,.nil,dB false,.nil],(cU y1.1)],[]⟩ ( some (ah.mk (am.mk false []) (am.mk false []),false))
instance ra_Sqrt_spec:Sp 177 (∀{a0:ah},Ct 177 [.agg (cP a0)] (λy:ah×Bool=>.tuple [.agg [.d (.bool y.1.Num.Neg),.d (.list (zA (eInt .u32) y.1.Num.Limbs)),.d (.bool y.1.Den.Neg),.d (.list (zA (eInt .u32) y.1.Den.Limbs))],.d (.bool y.2)]) (ra_Sqrt a0)):=⟨zzF Tryz.func177 (ra_Sqrt.eq_1 ..)⟩
def r02_Of(a0:am)(a1:am):Option ah:=ac (r01_Sign a1) λ(y1:Int)=>ac (if (decide (y1<0))=true then ac (qC a0) λ(y2:am)=>ac (qC a1) λ(y3:am)=>some (y2,y3)else some (a0,a1)) λ(v1:am×am)=>jC ([U,U,.ptr 0 0,.ptr 1 0,.ptr 2 0]++us 34) ⟨[(cU v1.1),(cU v1.2),[dB false,.nil,dB false,.nil]],[]⟩ ( ac (r01_GCD v1.1 v1.2) λ(y4:am)=>ac (kP v1.1 y4) λ(y5:am×am×Int)=>ac (kP v1.2 y4) λ(y6:am×am×Int)=>some (ah.mk y5.1 y6.1))
instance r02_Of_spec:Sp 32 (∀{a0:am} {a1:am},Ct 32 [.agg (cU a0),.agg (cU a1)] (λy:ah=>.agg [.d (.bool y.Num.Neg),.d (.list (zA (eInt .u32) y.Num.Limbs)),.d (.bool y.Den.Neg),.d (.list (zA (eInt .u32) y.Den.Limbs))]) (r02_Of a0 a1)):=⟨zzF Tryz.func32 (r02_Of.eq_1 ..)⟩
def pH(a0:Int)(a1:Int):Option ah:=ac (if (a1==0)=true then some (0,1)else some (a0,a1)) λ(v1:Int×Int)=>jC ([dI v1.1,dI v1.2,U,U,.ptr 0 0]++us 7) ⟨[[dB false,.nil,dB false,.nil]],[]⟩ ( ac (fa v1.1) λ(y1:am)=>ac (fa v1.2) λ(y2:am)=>ac (r02_Of y1 y2) λ(y3:ah)=>some y3)
instance r02_Frac_spec:Sp 30 (∀{a0:Int} {a1:Int},Ct 30 [dI a0,dI a1] (λy:ah=>.agg [.d (.bool y.Num.Neg),.d (.list (zA (eInt .u32) y.Num.Limbs)),.d (.bool y.Den.Neg),.d (.list (zA (eInt .u32) y.Den.Limbs))]) (pH a0 a1)):=⟨zzF Tryz.func30 (pH.eq_1 ..)⟩
def r02_unit :Option am:=ac (fa 1) λ(y1:am)=>some y1
instance r02_unit_spec:Sp 35 (Ct 35 [] (λy:am=>.agg [.d (.bool y.Neg),.d (.list (zA (eInt .u32) y.Limbs))]) (r02_unit)):=⟨zzF Tryz.func35 (r02_unit.eq_1 ..)⟩
def dt(a0:Int):Option ah:=ac (fa a0) λ(y1:am)=>ac (r02_unit ) λ(y2:am)=>some (ah.mk y1 y2)
instance r02_FromInt64_spec:Sp 14 (∀{a0:Int},Ct 14 [dI a0] (λy:ah=>.agg [.d (.bool y.Num.Neg),.d (.list (zA (eInt .u32) y.Num.Limbs)),.d (.bool y.Den.Neg),.d (.list (zA (eInt .u32) y.Den.Limbs))]) (dt a0)):=⟨zzF Tryz.func14 (dt.eq_1 ..)⟩
def mm(a0:ah)(a1:ah):Option ah:=ac (mn a0.Num a1.Den) λ(y1:am)=>ac (mn a1.Num a0.Den) λ(y2:am)=>ac (oI y1 y2) λ(y3:am)=>ac (mn a0.Den a1.Den) λ(y4:am)=>ac (r02_Of y3 y4) λ(y5:ah)=>some y5
instance r02_Add_spec:Sp 13 (∀{a0:ah} {a1:ah},Ct 13 [.agg (cP a0),.agg (cP a1)] (λy:ah=>.agg [.d (.bool y.Num.Neg),.d (.list (zA (eInt .u32) y.Num.Limbs)),.d (.bool y.Den.Neg),.d (.list (zA (eInt .u32) y.Den.Limbs))]) (mm a0 a1)):=⟨zzF Tryz.func13 (mm.eq_1 ..)⟩
end Go.Proofs.YtphbhdoljnokkaaGreatDoor
