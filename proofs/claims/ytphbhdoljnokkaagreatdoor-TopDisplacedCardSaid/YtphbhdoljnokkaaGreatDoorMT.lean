import Derived.Test.YtphbhdoljnokkaaGreatDoorMA
import Derived.Test.YtphbhdoljnokkaaGreatDoorMI
import Derived.Test.YtphbhdoljnokkaaGreatDoorMQ
import Derived.Test.YtphbhdoljnokkaaGreatDoorMR
import Derived.Test.YtphbhdoljnokkaaGreatDoorMD
open List renaming map → zA
open Go.IntKind renaming i64 → zB
namespace Go.Proofs.YtphbhdoljnokkaaGreatDoor
open Go.RowKit
open Nat renaming reduceAdd → nA,reduceSub → nS,reduceMul → nM,reduceEqDiff → nE,reduceLeDiff → nL,reduceLT → nT,reduceBEq → nB
open Int renaming reduceLT → iT,reduceToNat → iN,reduceEq → iE
set_option linter.unusedVariables false
set_option linter.unusedSimpArgs false
set_option maxRecDepth 100000
set_option maxHeartbeats 8000000
def jY(a0:Int):Option Bool:=jV 1 ([U,U,dB ((decide (a0≥1))&&(decide (a0≤10000000)))]++us 6) ⟨[],[]⟩ ( some ((decide (a0≥1))&&(decide (a0≤10000000))))
instance to_length_spec:Sp 166 (∀{a0:Int},Ct 166 [dI a0] (λy:Bool=>.d (.bool y)) (jY a0)):=⟨zzF Tryz.func166 (jY.eq_1 ..)⟩
def to_Valid(a0:cf):Option Int:=ac (if (decide (a0.Number<1))=true then some true else if (decide (a0.Number>9999))=true then some true else ac (to_KindName a0.Kind) λ(y1:(List UInt8))=>some (y1==[])) λ(v1:Bool)=>jR 1 ([U,.ptr 0 0]++us 16++[dB v1]++us 34) ⟨[(cY a0)],[]⟩ ( if v1=true then some 1 else bindX (ac (jY a0.Radius) λ(y2:Bool)=>if (!y2)=true then some (.ret 1)else ac (jY a0.Flute) λ(y3:Bool)=>if (!y3)=true then some (.ret 1)else ac (jY a0.Holder) λ(y4:Bool)=>if (!y4)=true then some (.ret 1)else ac (jY a0.Step) λ(y5:Bool)=>if (!y5)=true then some (.ret 1)else ac (jY a0.Feed) λ(y6:Bool)=>if (!y6)=true then some (.ret 1)else ac (jY a0.Plunge) λ(y7:Bool)=>if (!y7)=true then some (.ret 1)else some (.go ())) λ(v2:Unit)=>jB 0 ([U,.ptr 0 0]++us 51) ⟨[(cY a0)],[]⟩ ( jV 9 (us 52++[dB ((decide (a0.Holder<a0.Radius))||(decide (a0.Step>a0.Flute)))]) ⟨[(cY a0)],[]⟩ ( if ((decide (a0.Holder<a0.Radius))||(decide (a0.Step>a0.Flute)))=true then some 1 else some 0)))
instance to_Valid_spec:Sp 79 (∀{a0:cf},Ct 79 [.agg (cY a0)] (λy:Int=>.d (.int .i64 y)) (to_Valid a0)):=⟨zzF Tryz.func79 (to_Valid.eq_1 ..)⟩
def to_Find(a0:(List cf))(a1:Int):Option (Int×Int):=ac (iF 80 (λv1:Int=>.d (.int .i64 v1)) (λv1:Int=>⟨[[dI a1]],[]⟩) (bindX (aA (dN a0) ( aM (λ(i1:Nat) (e1:cf) (v2:Unit)=>rF ([dL eO a0,.fn 81 [.ptr 0 0],U,U,U,U,U,dI (a0.length:Int),dI (i1:Int)]++us 10) ⟨[[dI a1]],[]⟩ ( ac (iF 81 (λv3:Unit=>.d (.bool (e1.Number==a1))) (λv3:Unit=>⟨[[dI a1]],[]⟩) (some ())) λ(v3:Unit)=>if (e1.Number==a1)=true then some (.ret (.ret (i1:Int)))else some (.go ()))) (λ(v2:Unit)=>some (.go ())) a0 0 ())) λ(v4:Unit)=>jB 0 (us 19) ⟨[[dI a1]],[]⟩ ( some (-1)))) λ(v1:Int)=>if (decide (v1<0))=true then some (0,4)else some (v1,0)
instance to_Find_spec:Sp 29 (∀{a0:(List cf)} {a1:Int},Ct 29 [.d (.list (zA eO a0)),dI a1] (λy:Int×Int=>.tuple [.d (.int .i64 y.1),.d (.int .i64 y.2)]) (to_Find a0 a1)):=⟨zzF Tryz.func29 (to_Find.eq_1 ..)⟩
def nj(a0:(List cf)):Option Int:=if (decide ((a0.length:Int)>200))=true then some 3 else bindX (aA (dN a0) ( aM (λ(i1:Nat) (e1:cf) (v1:Unit)=>rF ([dL eO a0]++us 12++[dL eO a0,dI (a0.length:Int),dI (i1:Int)]++us 27) ⟨[],[]⟩ ( ac (to_Valid e1) λ(y1:Int)=>if (y1 != 0)=true then some (.ret (.ret y1))else some (.go ()))) (λ(v1:Unit)=>some (.go ())) a0 0 ())) λ(v2:Unit)=>jB 0 ([dL eO a0]++us 42) ⟨[],[]⟩ ( bindX (aA (dN a0) ( aM (λ(i2:Nat) (e2:cf) (v3:Unit)=>rF ([dL eO a0]++us 24++[dL eO a0,dI (a0.length:Int),dI (i2:Int)]++us 15) ⟨[],[]⟩ ( ac (to_Find a0 e2.Number) λ(y2:Int×Int)=>if (decide (y2.1<(i2:Int)))=true then some (.ret (.ret 5))else some (.go ()))) (λ(v3:Unit)=>some (.go ())) a0 0 ())) λ(v4:Unit)=>jB 2 (us 43) ⟨[],[]⟩ ( some 0))
instance to_Magazine_spec:Sp 28 (∀{a0:(List cf)},Ct 28 [.d (.list (zA eO a0))] (λy:Int=>.d (.int .i64 y)) (nj a0)):=⟨zzF Tryz.func28 (nj.eq_1 ..)⟩
def ff(a0:(List aq))(a1:(List cf)):Option ((List aO)×Int):=ac (nj a1) λ(y1:Int)=>if (y1 != 0)=true then some ([],y1)else gF [.slot 7 107] ( bindX (aA (dN a0) ( aM (λ(i1:Nat) (e1:aq) (v1:(List aO))=>rF ([U,dL eO a1,U,U,U,U,U,.own 0 (zA de v1)]++us 9++[dL aS a0,dI (a0.length:Int),dI (i1:Int)]++us 28) ⟨[],[(107,v1.length)]⟩ ( ac (to_Find a1 e1.Tool) λ(y2:Int×Int)=>if (y2.2 != 0)=true then some (.ret (.ret ([],y2.2)))else ac (gt a1 y2.1) λ(e2:cf)=>aA (cd (v1.length+1)) ( some (.go (v1++[aO.mk e1.From e1.To e2.Radius]))))) (λ(v1:(List aO))=>some (.go v1)) a0 0 [])) λ(v2:(List aO))=>jB 0 (us 7++[.own 0 (zA de v2)]++us 40) ⟨[],[(107,v2.length)]⟩ ( some (v2,0)))
instance material_Cuts_spec:Sp 11 (∀{a0:(List aq)} {a1:(List cf)},Ct 11 [.d (.list (zA aS a0)),.d (.list (zA eO a1))] (λy:(List aO)×Int=>.tuple [.d (.list (zA de y.1)),.d (.int .i64 y.2)]) (ff a0 a1)):=⟨zzF Tryz.func11 (ff.eq_1 ..)⟩
def bK(a0:Int)(a1:Int):Option cf:=some (cf.mk a0 1 a1 20000 (zB.wrap (a1+7000)) 1500 20000 5000)
instance r27_Standard_spec:Sp 10 (∀{a0:Int} {a1:Int},Ct 10 [dI a0,dI a1] (λy:cf=>.agg [.d (.int .i64 y.Number),.d (.int .i64 y.Kind),.d (.int .i64 y.Radius),.d (.int .i64 y.Flute),.d (.int .i64 y.Holder),.d (.int .i64 y.Step),.d (.int .i64 y.Feed),.d (.int .i64 y.Plunge)]) (bK a0 a1)):=⟨zzF Tryz.func10 (bK.eq_1 ..)⟩
def r07_At2(a0:mw):Option aI:=ac (pH (zB.wrap a0.X) (zB.wrap ((zB.wrap a0.D)+1))) λ(y1:ah)=>ac (pH (zB.wrap a0.Y) (zB.wrap ((zB.wrap a0.D)+1))) λ(y2:ah)=>some (aI.mk y1 y2)
instance r07_At2_spec:Sp 12 (∀{a0:mw},Ct 12 [.agg (cV a0)] (λy:aI=>.agg [.d (.bool y.X.Num.Neg),.d (.list (zA (eInt .u32) y.X.Num.Limbs)),.d (.bool y.X.Den.Neg),.d (.list (zA (eInt .u32) y.X.Den.Limbs)),.d (.bool y.Y.Num.Neg),.d (.list (zA (eInt .u32) y.Y.Num.Limbs)),.d (.bool y.Y.Den.Neg),.d (.list (zA (eInt .u32) y.Y.Den.Limbs))]) (r07_At2 a0)):=⟨zzF Tryz.func12 (r07_At2.eq_1 ..)⟩
end Go.Proofs.YtphbhdoljnokkaaGreatDoor
