import Derived.Test.YtjemmjpdmbenkaaGreatDoorMA
import Derived.Test.YtjemmjpdmbenkaaGreatDoorSzj2
import Derived.Test.YtjemmjpdmbenkaaGreatDoorMB
import Derived.Test.YtjemmjpdmbenkaaGreatDoorMH
import Derived.Test.YtjemmjpdmbenkaaGreatDoorMW
import Derived.Test.YtjemmjpdmbenkaaGreatDoorMP
import Derived.Test.YtjemmjpdmbenkaaGreatDoorME
open List renaming map → zA,replicate → zD
open Int renaming toNat → zB,toNat_natCast → zF
open Nat renaming le_of_ble_eq_true → zE
open Go.IntKind renaming i64 → zG
namespace Go.Proofs.YtjemmjpdmbenkaaGreatDoor
open Go.RowKit
open Nat renaming reduceAdd → nA,reduceSub → nS,reduceMul → nM,reduceEqDiff → nE,reduceLeDiff → nL,reduceLT → nT,reduceBEq → nB
open Int renaming reduceLT → iT,reduceToNat → iN,reduceEq → iE
set_option linter.unusedVariables false
set_option linter.unusedSimpArgs false
set_option maxRecDepth 100000
set_option maxHeartbeats 8000000
def nF(a0:aa)(a1:Int)(a2:Int):Option Bool:=bindX (av (be a0.Words) ( az (λ(i1:Nat) (e1:ay) (v1:Unit)=>rF ([U,.d (.int .u8 a1),dI a2,.ptr 0 0,U,U,U,dI (i1:Int)]++us 25) ⟨[(cC a0)],[]⟩ ( jV 4 ([U,.d (.int .u8 a1),dI a2,.ptr 0 0,U,U,U,dI (i1:Int)]++us 24++[dB ((e1.Letter==a1)&&(e1.Value==a2))]) ⟨[(cC a0)],[]⟩ ( if ((e1.Letter==a1)&&(e1.Value==a2))=true then some (.ret (.ret true))else some (.go ())))) (λ(v1:Unit)=>some (.go ())) a0.Words 0 ())) λ(v2:Unit)=>jB 0 (us 33) ⟨[(cC a0)],[]⟩ ( some false)
instance r43_has_spec:Sp 80 (∀{a0:aa} {a1:Int} {a2:Int},Ct 80 [.agg (cC a0),.d (.int .u8 a1),dI a2] (λy:Bool=>.d (.bool y)) (nF a0 a1 a2)):=⟨zzF Tryz.func80 (nF.eq_1 ..)⟩
def fe(a0:aa):Option Bool:=ah (nF a0 77 99000) λ(y1:Bool)=>some y1
instance r43_Return_spec:Sp 34 (∀{a0:aa},Ct 34 [.agg (cC a0)] (λy:Bool=>.d (.bool y)) (fe a0)):=⟨zzF Tryz.func34 (fe.eq_1 ..)⟩
def fc(a0:aa)(a1:Int):Option Bool:=ah (i7 a0 a1) λ(y1:(List Int))=>some (decide ((y1.length:Int)>0))
instance r43_letter_spec:Sp 35 (∀{a0:aa} {a1:Int},Ct 35 [.agg (cC a0),.d (.int .u8 a1)] (λy:Bool=>.d (.bool y)) (fc a0 a1)):=⟨zzF Tryz.func35 (fc.eq_1 ..)⟩
def gU(a0:aa):Option Bool:=ah (nF a0 77 30000) λ(y1:Bool)=>some y1
instance r43_End_spec:Sp 33 (∀{a0:aa},Ct 33 [.agg (cC a0)] (λy:Bool=>.d (.bool y)) (gU a0)):=⟨zzF Tryz.func33 (gU.eq_1 ..)⟩
def jt(a0:aa)(a1:Int):Option Bool:=ah (if ((a0.Words.length:Int)==1)=true then ah (gt a0.Words 0) λ(e1:ay)=>if (e1.Letter==a1)=true then if a0.Skip=true then some false else some (a0.Comment==[])else some false else some false) λ(v1:Bool)=>jR 1 ([U,U,U,U,dB v1]++us 23) ⟨[(cC a0)],[]⟩ ( some v1)
instance r43_only_spec:Sp 36 (∀{a0:aa} {a1:Int},Ct 36 [.agg (cC a0),.d (.int .u8 a1)] (λy:Bool=>.d (.bool y)) (jt a0 a1)):=⟨zzF Tryz.func36 (jt.eq_1 ..)⟩
def ez(a0:Int):Option Int:=jV 1 ([dI a0]++us 12++[dB (((Int.tmod a0 1000) != 0)||((decide (a0<1000))||(decide (a0>9999000)))),U,U]) ⟨[],[]⟩ ( if (((Int.tmod a0 1000) != 0)||((decide (a0<1000))||(decide (a0>9999000))))=true then some 0 else some (zG.wrap (Int.tdiv a0 1000)))
instance r43_whole_spec:Sp 37 (∀{a0:Int},Ct 37 [dI a0] (λy:Int=>.d (.int .i64 y)) (ez a0)):=⟨zzF Tryz.func37 (ez.eq_1 ..)⟩
def dl(a0:aZ)(a1:Int):Option Int:=bindX (av (be a0.Subs) ( az (λ(i1:Nat) (e1:dg) (v1:Unit)=>rF ([U,dI a1,.ptr 0 0,U,U,dI (i1:Int)]++us 16) ⟨[(cP a0)],[]⟩ ( if (e1.Number==a1)=true then some (.ret (.ret (i1:Int)))else some (.go ()))) (λ(v1:Unit)=>some (.go ())) a0.Subs 0 ())) λ(v2:Unit)=>jB 0 (us 22) ⟨[(cP a0)],[]⟩ ( some (-1))
instance r43_Find_spec:Sp 38 (∀{a0:aZ} {a1:Int},Ct 38 [.agg (cP a0),dI a1] (λy:Int=>.d (.int .i64 y)) (dl a0 a1)):=⟨zzF Tryz.func38 (dl.eq_1 ..)⟩
def lB(a0:(List aa)):Option (aZ×Int):=gF [.cell 1 0 87] ( bindX (bt (λ(v1:Int×(List aa))=>lF ([dL ac a0,U,.ptr 0 0,U,.ptr 1 0,dI v1.1]++us 158) ⟨[[.nil,.nil],[.own 0 (zA ac v1.2),.nil]],[(87,v1.2.length)]⟩ ( ah (if (decide (v1.1<(a0.length:Int)))=true then if (v1.1==0)=true then some true else ah (gt a0 (zG.wrap (v1.1-1))) λ(e1:aa)=>ah (gU e1) λ(y1:Bool)=>some (!y1)else some false) λ(v2:Bool)=>jR 3 ([dL ac a0,U,.ptr 0 0,U,.ptr 1 0,dI v1.1]++us 18++[dB v2]++us 139) ⟨[[.nil,.nil],[.own 0 (zA ac v1.2),.nil]],[(87,v1.2.length)]⟩ ( if v2=true then ah (ah (gt a0 v1.1) λ(e2:aa)=>ah (fe e2) λ(y2:Bool)=>if y2=true then some true else ah (fc e2 79) λ(y3:Bool)=>some y3) λ(v3:Bool)=>jR 4 ([dL ac a0,U,.ptr 0 0,U,.ptr 1 0,dI v1.1]++us 30++[dB v3]++us 127) ⟨[[.nil,.nil],[.own 0 (zA ac v1.2),.nil]],[(87,v1.2.length)]⟩ ( if v3=true then some (.ret (.ret (aZ.mk [] [],1)))else ah (gt a0 v1.1) λ(e3:aa)=>av (bo (v1.2.length+1)) ( some (.go (zG.wrap (v1.1+1),v1.2++[e3]))))else some (.ret (.go (v1.1,v1.2)))))) fuel (0,[])) λ(v4:Int×(List aa))=>jB 0 ([dL ac a0,U,.ptr 0 0,U,.ptr 1 0,dI v4.1]++us 158) ⟨[[.nil,.nil],[.own 0 (zA ac v4.2),.nil]],[(87,v4.2.length)]⟩ ( ah (if (v4.1==0)=true then some true else ah (gt a0 (zG.wrap (v4.1-1))) λ(e4:aa)=>ah (gU e4) λ(y4:Bool)=>some (!y4)) λ(v5:Bool)=>jR 8 ([dL ac a0,U,.ptr 0 0,U,.ptr 1 0,dI v4.1]++us 53++[dB v5]++us 104) ⟨[[.nil,.nil],[.own 0 (zA ac v4.2),.nil]],[(87,v4.2.length)]⟩ ( if v5=true then some (aZ.mk [] [],1)else gF [.cell 1 1 103] ( bindX (bt (λ(v6:Int×Bool×(List dg))=>lF ([dL ac a0,U,.ptr 0 0,U,.ptr 1 0,dI v6.1,dB v6.2.1]++us 157) ⟨[[.nil,.nil],[.own 0 (zA ac v4.2),.own 1 (zA aB v6.2.2)]],[(87,v4.2.length),(103,v6.2.2.length)]⟩ ( if (decide (v6.1<(a0.length:Int)))=true then ah (ah (gt a0 v6.1) λ(e5:aa)=>ah (jt e5 79) λ(y5:Bool)=>if y5=true then ah (gt e5.Words 0) λ(e6:ay)=>ah (ez e6.Value) λ(y6:Int)=>some (y6==0)else some true) λ(v7:Bool)=>jR 12 ([dL ac a0,U,.ptr 0 0,U,.ptr 1 0,dI v6.1,dB v6.2.1]++us 75++[dB v7]++us 81) ⟨[[.nil,.nil],[.own 0 (zA ac v4.2),.own 1 (zA aB v6.2.2)]],[(87,v4.2.length),(103,v6.2.2.length)]⟩ ( if v7=true then some (.ret (.ret (aZ.mk [] [],1)))else ah (gt a0 v6.1) λ(e7:aa)=>ah (gt e7.Words 0) λ(e8:ay)=>ah (ez e8.Value) λ(y7:Int)=>ah (if v6.2.1=true then some true else ah (dl (aZ.mk v4.2 v6.2.2) y7) λ(y8:Int)=>some (decide (y8≥0))) λ(v8:Bool)=>jR 15 ([dL ac a0,U,.ptr 0 0,U,.ptr 1 0,dI v6.1,dB v8,.ptr 2 0]++us 156) ⟨[[.nil,.nil],[.own 0 (zA ac v4.2),.own 1 (zA aB v6.2.2)],[dI y7,.nil]],[(87,v4.2.length),(103,v6.2.2.length)]⟩ ( gF [.cell 2 1 87] ( bindX (bt (λ(v9:Int×(List aa))=>lF ([dL ac a0,U,.ptr 0 0,U,.ptr 1 0,dI v9.1,dB v8,.ptr 2 0]++us 156) ⟨[[.nil,.nil],[.own 0 (zA ac v4.2),.own 1 (zA aB v6.2.2)],[dI y7,.own 2 (zA ac v9.2)]],[(87,v4.2.length),(103,v6.2.2.length),(87,v9.2.length)]⟩ ( ah (if (decide (v9.1<(a0.length:Int)))=true then ah (gt a0 v9.1) λ(e9:aa)=>ah (fe e9) λ(y9:Bool)=>some (!y9)else some false) λ(v10:Bool)=>jR 17 ([dL ac a0,U,.ptr 0 0,U,.ptr 1 0,dI v9.1,dB v8,.ptr 2 0]++us 107++[dB v10]++us 48) ⟨[[.nil,.nil],[.own 0 (zA ac v4.2),.own 1 (zA aB v6.2.2)],[dI y7,.own 2 (zA ac v9.2)]],[(87,v4.2.length),(103,v6.2.2.length),(87,v9.2.length)]⟩ ( if v10=true then ah (ah (gt a0 v9.1) λ(e10:aa)=>ah (gU e10) λ(y10:Bool)=>if y10=true then some true else ah (fc e10 79) λ(y11:Bool)=>some y11) λ(v11:Bool)=>jR 18 ([dL ac a0,U,.ptr 0 0,U,.ptr 1 0,dI v9.1,dB v8,.ptr 2 0]++us 119++[dB v11]++us 36) ⟨[[.nil,.nil],[.own 0 (zA ac v4.2),.own 1 (zA aB v6.2.2)],[dI y7,.own 2 (zA ac v9.2)]],[(87,v4.2.length),(103,v6.2.2.length),(87,v9.2.length)]⟩ ( if v11=true then some (.ret (.ret (.ret (.ret (aZ.mk [] [],1)))))else ah (gt a0 v9.1) λ(e11:aa)=>av (bo (v9.2.length+1)) ( some (.go (zG.wrap (v9.1+1),v9.2++[e11]))))else some (.ret (.go (v9.1,v9.2)))))) fuel (zG.wrap (v6.1+1),[])) λ(v12:Int×(List aa))=>jB 4 ([dL ac a0,U,.ptr 0 0,U,.ptr 1 0,dI v12.1,dB v8,.ptr 2 0]++us 156) ⟨[[.nil,.nil],[.own 0 (zA ac v4.2),.own 1 (zA aB v6.2.2)],[dI y7,.own 2 (zA ac v12.2)]],[(87,v4.2.length),(103,v6.2.2.length),(87,v12.2.length)]⟩ ( ah (if (v12.1==(a0.length:Int))=true then some true else ah (gt a0 v12.1) λ(e12:aa)=>ah (jt e12 77) λ(y12:Bool)=>some (!y12)) λ(v13:Bool)=>jR 22 ([dL ac a0,U,.ptr 0 0,U,.ptr 1 0,dI v12.1,dB v8,.ptr 2 0]++us 143++[dB v13]++us 12) ⟨[[.nil,.nil],[.own 0 (zA ac v4.2),.own 1 (zA aB v6.2.2)],[dI y7,.own 2 (zA ac v12.2)]],[(87,v4.2.length),(103,v6.2.2.length),(87,v12.2.length)]⟩ ( if v13=true then some (.ret (.ret (aZ.mk [] [],1)))else av (bo (v6.2.2.length+1)) ( some (.go (zG.wrap (v12.1+1),v8,v6.2.2++[dg.mk y7 v12.2]))))))))else some (.ret (.go (v6.2.1,v6.2.2))))) fuel (v4.1,false,[])) λ(v14:Bool×(List dg))=>jB 2 ([U,U,.ptr 0 0,U,.ptr 1 0,U,dB v14.1]++us 157) ⟨[[.nil,.nil],[.own 0 (zA ac v4.2),.own 1 (zA aB v14.2)]],[(87,v4.2.length),(103,v14.2.length)]⟩ ( if v14.1=true then some (aZ.mk [] [],5)else some (aZ.mk v4.2 v14.2,0))))))
instance r43_Split_spec:Sp 15 (∀{a0:(List aa)},Ct 15 [.d (.list (zA ac a0))] (λy:aZ×Int=>.tuple [.agg [.d (.list (zA ac y.1.Main)),.d (.list (zA aB y.1.Subs))],.d (.int .i64 y.2)]) (lB a0)):=⟨zzF Tryz.func15 (lB.eq_1 ..)⟩
def j7(a0:aZ):Option Bool:=if ((a0.Main.length:Int)==0)=true then some false else bindX (av (be a0.Main) ( az (λ(i1:Nat) (e1:aa) (v1:Unit)=>rF ([U,.ptr 0 0,U,dI (i1:Int)]++us 100) ⟨[(cP a0)],[]⟩ ( ah (ah (fe e1) λ(y1:Bool)=>if y1=true then some true else ah (fc e1 79) λ(y2:Bool)=>if y2=true then some true else ah (gU e1) λ(y3:Bool)=>some (!(y3==((i1:Int)==(zG.wrap ((a0.Main.length:Int)-1)))))) λ(v2:Bool)=>jR 6 ([U,.ptr 0 0,U,dI (i1:Int)]++us 42++[dB v2]++us 57) ⟨[(cP a0)],[]⟩ ( if v2=true then some (.ret (.ret false))else some (.go ())))) (λ(v1:Unit)=>some (.go ())) a0.Main 0 ())) λ(v3:Unit)=>jB 0 ([U,.ptr 0 0]++us 102) ⟨[(cP a0)],[]⟩ ( bindX (av (be a0.Subs) ( az (λ(i2:Nat) (e2:dg) (v4:Unit)=>rF ([U,.ptr 0 0,U,U,dI (i2:Int)]++us 99) ⟨[(cP a0)],[]⟩ ( bindX (ah (if (decide (e2.Number<1))=true then some true else if (decide (e2.Number>9999))=true then some true else ah (dl a0 e2.Number) λ(y4:Int)=>some (decide (y4<(i2:Int)))) λ(v5:Bool)=>jR 12 ([U,.ptr 0 0,U,U,dI (i2:Int),.ptr 1 0]++us 68++[dB v5]++us 29) ⟨[(cP a0),(cQ e2)],[]⟩ ( if v5=true then some (.ret (.ret (.ret false)))else av (be e2.Blocks) ( az (λ(i3:Nat) (e3:aa) (v6:Unit)=>rF ([U,.ptr 0 0,U,U,dI (i2:Int),.ptr 1 0,dI (i3:Int)]++us 97) ⟨[(cP a0),(cQ e2)],[]⟩ ( ah (ah (fe e3) λ(y5:Bool)=>if y5=true then some true else ah (fc e3 79) λ(y6:Bool)=>if y6=true then some true else ah (gU e3) λ(y7:Bool)=>some y7) λ(v7:Bool)=>jR 17 ([U,.ptr 0 0,U,U,dI (i2:Int),.ptr 1 0,dI (i3:Int)]++us 96++[dB v7]) ⟨[(cP a0),(cQ e2)],[]⟩ ( if v7=true then some (.ret (.ret (.ret (.ret false))))else some (.go ())))) (λ(v6:Unit)=>some (.go ())) e2.Blocks 0 ()))) λ(v8:Unit)=>jB 3 ([U,.ptr 0 0,U,U,dI (i2:Int)]++us 99) ⟨[(cP a0)],[]⟩ ( some (.go ())))) (λ(v4:Unit)=>some (.go ())) a0.Subs 0 ())) λ(v9:Unit)=>jB 2 (us 104) ⟨[(cP a0)],[]⟩ ( some true))
instance r43_proper_spec:Sp 82 (∀{a0:aZ},Ct 82 [.agg (cP a0)] (λy:Bool=>.d (.bool y)) (j7 a0)):=⟨zzF Tryz.func82 (j7.eq_1 ..)⟩
def iz(a0:aZ):Option (List aa):=av (bo (0+a0.Main.length)) ( ah (av (be a0.Subs) ( az (λ(i1:Nat) (e1:dg) (v1:(List aa))=>rF ([U,.ptr 0 0,U,.own 0 (zA ac v1),dI (i1:Int)]++us 20) ⟨[(cP a0)],[(87,v1.length)]⟩ ( av (bo (v1.length+e1.Blocks.length)) ( some (.go (v1++e1.Blocks))))) (λ(v1:(List aa))=>some v1) a0.Subs 0 ([]++a0.Main))) λ(v2:(List aa))=>jB 0 ([U,U,U,.own 0 (zA ac v2)]++us 21) ⟨[(cP a0)],[(87,v2.length)]⟩ ( some v2))
theorem iW{a0:aZ}{y:(List aa)}(h:iz a0=some y):Spec gP 83 [.agg (cP a0)] (.d (.list (zA ac y))):=by
 refine auA Tryz.func83 (λy:(List aa)=>.d (.list (zA ac y))) ?_ h
 unfold iz
 refine .sA ?_
 refine .seqK (.guard λq1=>.regionW λe h=>regW.alt 0 rfl ?_)
 simp only[Nat.zero_add]at q1
 simp only[seval,EMA]
 refine alt_emptyOwn app_31 (regW.of ?_)
 exact zzA
instance:Sp 83 (type_of% @iW):=⟨@iW⟩
def gi(a0:aa):Option (Int×Int×Bool×Int):=ah (nF a0 77 98000) λ(y1:Bool)=>if (!y1)=true then some (0,0,false,0)else bindX (av (be a0.Words) ( az (λ(i1:Nat) (e1:ay) (v1:Int×Int×Int×Int×Int×Int)=>rF ([U,.ptr 0 0,U,U,U,U,dI v1.1,dI v1.2.1,dI v1.2.2.1,dI v1.2.2.2.1,dI v1.2.2.2.2.1,dI v1.2.2.2.2.2,dI (i1:Int)]++us 64) ⟨[(cC a0)],[]⟩ ( bindX (if (e1.Letter==77)=true then some (.go (v1.1,v1.2.1,v1.2.2.1,v1.2.2.2.1,zG.wrap (v1.2.2.2.2.1+1),v1.2.2.2.2.2))else if (e1.Letter==80)=true then ah (ez e1.Value) λ(y2:Int)=>some (.go (y2,v1.2.1,zG.wrap (v1.2.2.1+1),v1.2.2.2.1,v1.2.2.2.2.1,v1.2.2.2.2.2))else if (e1.Letter==76)=true then ah (ez e1.Value) λ(y3:Int)=>some (.go (v1.1,y3,v1.2.2.1,zG.wrap (v1.2.2.2.1+1),v1.2.2.2.2.1,v1.2.2.2.2.2))else if (e1.Letter==78)=true then some (.go (v1.1,v1.2.1,v1.2.2.1,v1.2.2.2.1,v1.2.2.2.2.1,zG.wrap (v1.2.2.2.2.2+1)))else some (.ret (.ret (.ret (0,0,false,1))))) λ(v2:Int×Int×Int×Int×Int×Int)=>jB 1 ([U,.ptr 0 0,U,U,U,U,dI v2.1,dI v2.2.1,dI v2.2.2.1,dI v2.2.2.2.1,dI v2.2.2.2.2.1,dI v2.2.2.2.2.2,dI (i1:Int)]++us 64) ⟨[(cC a0)],[]⟩ ( some (.go (v2.1,v2.2.1,v2.2.2.1,v2.2.2.2.1,v2.2.2.2.2.1,v2.2.2.2.2.2))))) (λ(v1:Int×Int×Int×Int×Int×Int)=>some (.go (v1.1,v1.2.1,v1.2.2.1,v1.2.2.2.1,v1.2.2.2.2.1,v1.2.2.2.2.2))) a0.Words 0 (0,1,0,0,0,0))) λ(v3:Int×Int×Int×Int×Int×Int)=>jB 0 (us 6++[dI v3.1,dI v3.2.1,dI v3.2.2.1,dI v3.2.2.2.1,dI v3.2.2.2.2.1,dI v3.2.2.2.2.2]++us 65) ⟨[(cC a0)],[]⟩ ( jV 20 (us 6++[dI v3.1,dI v3.2.1]++us 66++[dB ((v3.2.2.2.2.1 != 1)||((v3.2.2.1 != 1)||((decide (v3.2.2.2.1>1))||((decide (v3.2.2.2.2.2>1))||((v3.1==0)||(v3.2.1==0)))))),U,U]) ⟨[(cC a0)],[]⟩ ( if ((v3.2.2.2.2.1 != 1)||((v3.2.2.1 != 1)||((decide (v3.2.2.2.1>1))||((decide (v3.2.2.2.2.2>1))||((v3.1==0)||(v3.2.1==0))))))=true then some (0,0,false,1)else some (v3.1,v3.2.1,true,0)))
instance r43_Call_spec:Sp 84 (∀{a0:aa},Ct 84 [.agg (cC a0)] (λy:Int×Int×Bool×Int=>.tuple [.d (.int .i64 y.1),.d (.int .i64 y.2.1),.d (.bool y.2.2.1),.d (.int .i64 y.2.2.2)]) (gi a0)):=⟨zzF Tryz.func84 (gi.eq_1 ..)⟩
def r43_sum(a0:Int)(a1:Int):Option Int:=some (mmI false 20001 (zG.wrap (a0+a1)))
instance r43_sum_spec:Sp 128 (∀{a0:Int} {a1:Int},Ct 128 [dI a0,dI a1] (λy:Int=>.d (.int .i64 y)) (r43_sum a0 a1)):=⟨zzF Tryz.func128 (r43_sum.eq_1 ..)⟩
def fV(a0:aZ)(a1:(List aa))(a2:(List Int))(a3:(List Int)):Option (Int×Int×Bool):=bindX (av (be a1) ( az (λ(i1:Nat) (e1:aa) (v1:Int×Int)=>rF ([U,dL ac a1,dL (eInt .i64) a2,dL (eInt .i64) a3,.ptr 0 0]++us 6++[dI v1.1,dI v1.2,dI (i1:Int)]++us 51) ⟨[(cP a0)],[]⟩ ( bindX (ah (gi e1) λ(y1:Int×Int×Bool×Int)=>if (!y1.2.2.1)=true then ah (r43_sum v1.1 1) λ(y2:Int)=>some (.go (y2,v1.2))else ah (dl a0 y1.1) λ(y3:Int)=>ah (gt a2 y3) λ(e2:Int)=>if (decide (e2<0))=true then some (.ret (.ret (.ret (0,0,false))))else ah (r43_sum v1.1 (mmI false 20001 (zG.wrap (e2*y1.2.1)))) λ(y4:Int)=>ah (gt a3 y3) λ(e3:Int)=>some (.go (y4,mmI true v1.2 (zG.wrap (e3+1))))) λ(v2:Int×Int)=>jB 1 ([U,dL ac a1,dL (eInt .i64) a2,dL (eInt .i64) a3,.ptr 0 0]++us 6++[dI v2.1,dI v2.2,dI (i1:Int)]++us 51) ⟨[(cP a0)],[]⟩ ( some (.go (v2.1,v2.2))))) (λ(v1:Int×Int)=>some (.go (v1.1,v1.2))) a1 0 (0,0))) λ(v3:Int×Int)=>jB 0 (us 11++[dI v3.1,dI v3.2]++us 52) ⟨[(cP a0)],[]⟩ ( some (v3.1,v3.2,true))
instance k8:Sp 85 (∀{a0:aZ} {a1:(List aa)} {a2:(List Int)} {a3:(List Int)},Ct 85 [.agg (cP a0),.d (.list (zA ac a1)),.d (.list (zA (eInt .i64) a2)),.d (.list (zA (eInt .i64) a3))] (λy:Int×Int×Bool=>.tuple [.d (.int .i64 y.1),.d (.int .i64 y.2.1),.d (.bool y.2.2)]) (fV a0 a1 a2 a3)):=⟨zzF Tryz.func85 (fV.eq_1 ..)⟩
def lD(a0:aZ):Option (Int×Int):=ah (j7 a0) λ(y1:Bool)=>if (!y1)=true then some (0,1)else ah (iz a0) λ(y2:(List aa))=>bindX (av (be y2) ( az (λ(i1:Nat) (e1:aa) (v1:Unit)=>rF ([U,.iptr [.list (zA ac a0.Main),.list (zA aB a0.Subs)] 0,U,U,dL ac y2,dI (i1:Int)]++us 149) ⟨[],[]⟩ ( ah (gi e1) λ(y3:Int×Int×Bool×Int)=>if (y3.2.2.2 != 0)=true then some (.ret (.ret (0,1)))else some (.go ()))) (λ(v1:Unit)=>some (.go ())) y2 0 ())) λ(v2:Unit)=>jB 0 ([U,.iptr [.list (zA ac a0.Main),.list (zA aB a0.Subs)] 0,U,U,dL ac y2]++us 150) ⟨[],[]⟩ ( bindX (av (be y2) ( az (λ(i2:Nat) (e2:aa) (v3:Unit)=>rF ([U,.iptr [.list (zA ac a0.Main),.list (zA aB a0.Subs)] 0,U,U,dL ac y2,U,U,U,U,U,dI (i2:Int)]++us 144) ⟨[],[]⟩ ( ah (gi e2) λ(y4:Int×Int×Bool×Int)=>ah (if y4.2.2.1=true then ah (dl a0 y4.1) λ(y5:Int)=>some (decide (y5<0))else some false) λ(v4:Bool)=>jR 14 ([U,.iptr [.list (zA ac a0.Main),.list (zA aB a0.Subs)] 0,U,U,dL ac y2,U,U,U,U,U,dI (i2:Int)]++us 61++[dB v4]++us 82) ⟨[],[]⟩ ( if v4=true then some (.ret (.ret (0,4)))else some (.go ())))) (λ(v3:Unit)=>some (.go ())) y2 0 ())) λ(v5:Unit)=>jB 2 ([U,.iptr [.list (zA ac a0.Main),.list (zA aB a0.Subs)] 0]++us 153) ⟨[],[]⟩ ( av (decide ((0:Int)≤(a0.Subs.length:Int))) ( av (bo (zB (a0.Subs.length:Int))) ( av (decide ((0:Int)≤(a0.Subs.length:Int))) ( av (bo (zB (a0.Subs.length:Int))) ( ah (bt (λ(v6:Int×(List Int))=>lF ([U,.iptr [.list (zA ac a0.Main),.list (zA aB a0.Subs)] 0]++us 13++[.gr 0 1,.gr 1 1,dI v6.1]++us 137) ⟨[[.rowc 2 1 (zA (eInt .i64) v6.2)],[.rowc 2 1 (zA (eInt .i64) (zD (zB (a0.Subs.length:Int)) (0:Int)))]],[]⟩ ( if (decide (v6.1<(v6.2.length:Int)))=true then ah (gt v6.2 v6.1) λ(e3:Int)=>some (.go (zG.wrap (v6.1+1),v6.2.set (zB v6.1) (-1)))else some (.ret v6.2))) fuel (0,zD (zB (a0.Subs.length:Int)) (0:Int))) λ(v7:(List Int))=>jB 4 ([U,.iptr [.list (zA ac a0.Main),.list (zA aB a0.Subs)] 0]++us 13++[.gr 0 1,.gr 1 1]++us 138) ⟨[[.rowc 2 1 (zA (eInt .i64) v7)],[.rowc 2 1 (zA (eInt .i64) (zD (zB (a0.Subs.length:Int)) (0:Int)))]],[]⟩ ( ah (bt (λ(v8:Int×(List Int)×(List Int))=>lF ([U,.iptr [.list (zA ac a0.Main),.list (zA aB a0.Subs)] 0]++us 13++[.gr 0 1,.gr 1 1,U,dI v8.1]++us 136) ⟨[[.rowc 2 1 (zA (eInt .i64) v8.2.1)],[.rowc 2 1 (zA (eInt .i64) v8.2.2)]],[]⟩ ( if (decide (v8.1<(a0.Subs.length:Int)))=true then ah (bt (λ(v9:Int×(List Int)×(List Int))=>lF ([U,.iptr [.list (zA ac a0.Main),.list (zA aB a0.Subs)] 0]++us 13++[.gr 0 1,.gr 1 1,U,dI v8.1,dI v9.1]++us 135) ⟨[[.rowc 2 1 (zA (eInt .i64) v9.2.1)],[.rowc 2 1 (zA (eInt .i64) v9.2.2)]],[]⟩ ( if (decide (v9.1<(a0.Subs.length:Int)))=true then ah (ah (gt a0.Subs v9.1) λ(e4:dg)=>ah (fV a0 e4.Blocks v9.2.1 v9.2.2) λ(y6:Int×Int×Bool)=>if y6.2.2=true then ah (gt v9.2.1 v9.1) λ(e5:Int)=>ah (gt v9.2.2 v9.1) λ(e6:Int)=>some (v9.2.1.set (zB v9.1) y6.1,v9.2.2.set (zB v9.1) y6.2.1)else some (v9.2.1,v9.2.2)) λ(v10:(List Int)×(List Int))=>jB 9 ([U,.iptr [.list (zA ac a0.Main),.list (zA aB a0.Subs)] 0]++us 13++[.gr 0 1,.gr 1 1,U,dI v8.1,dI v9.1]++us 135) ⟨[[.rowc 2 1 (zA (eInt .i64) v10.1)],[.rowc 2 1 (zA (eInt .i64) v10.2)]],[]⟩ ( some (.go (zG.wrap (v9.1+1),v10.1,v10.2)))else some (.ret (v9.2.1,v9.2.2)))) fuel (0,v8.2.1,v8.2.2)) λ(v11:(List Int)×(List Int))=>jB 7 ([U,.iptr [.list (zA ac a0.Main),.list (zA aB a0.Subs)] 0]++us 13++[.gr 0 1,.gr 1 1,U,dI v8.1]++us 136) ⟨[[.rowc 2 1 (zA (eInt .i64) v11.1)],[.rowc 2 1 (zA (eInt .i64) v11.2)]],[]⟩ ( some (.go (zG.wrap (v8.1+1),v11.1,v11.2)))else some (.ret (v8.2.1,v8.2.2)))) fuel (0,v7,zD (zB (a0.Subs.length:Int)) (0:Int))) λ(v12:(List Int)×(List Int))=>jB 6 ([U,.iptr [.list (zA ac a0.Main),.list (zA aB a0.Subs)] 0]++us 13++[.gr 0 1,.gr 1 1]++us 138) ⟨[[.rowc 2 1 (zA (eInt .i64) v12.1)],[.rowc 2 1 (zA (eInt .i64) v12.2)]],[]⟩ ( bindX (av (be v12.1) ( az (λ(i3:Nat) (e7:Int) (v13:Unit)=>rF ([U,.iptr [.list (zA ac a0.Main),.list (zA aB a0.Subs)] 0]++us 13++[.gr 0 1,.gr 1 1]++us 6++[dI (i3:Int)]++us 131) ⟨[[.rowc 2 1 (zA (eInt .i64) v12.1)],[.rowc 2 1 (zA (eInt .i64) v12.2)]],[]⟩ ( ah (gt v12.1 (i3:Int)) λ(e8:Int)=>if (decide (e8<0))=true then some (.ret (.ret (0,12)))else some (.go ()))) (λ(v13:Unit)=>some (.go ())) v12.1 0 ())) λ(v14:Unit)=>jB 10 ([U,.iptr [.list (zA ac a0.Main),.list (zA aB a0.Subs)] 0]++us 13++[.gr 0 1,.gr 1 1]++us 138) ⟨[[.rowc 2 1 (zA (eInt .i64) v12.1)],[.rowc 2 1 (zA (eInt .i64) v12.2)]],[]⟩ ( ah (fV a0 a0.Main v12.1 v12.2) λ(y7:Int×Int×Bool)=>jV 36 (us 24++[dI y7.1]++us 128++[dB ((decide (y7.2.1>8))||(decide (y7.1>20000))),U]) ⟨[[.rowc 2 1 (zA (eInt .i64) v12.1)],[.rowc 2 1 (zA (eInt .i64) v12.2)]],[]⟩ ( if ((decide (y7.2.1>8))||(decide (y7.1>20000)))=true then some (0,3)else some (y7.1,0)))))))))))
theorem jH{a0:aZ}{y:Int×Int}(h:lD a0=some y):Spec gP 39 [.agg (cP a0)] (.tuple [.d (.int .i64 y.1),.d (.int .i64 y.2)]):=by
 refine auA Tryz.func39 (λy:Int×Int=>.tuple [.d (.int .i64 y.1),.d (.int .i64 y.2)]) ?_ h
 unfold lD
 refine .seqK (.regionW λe h=>regW.alt 0 rfl ?_)
 simp only[seval,EMA]
 refine kZ [.list (zA ac a0.Main),.list (zA aB a0.Subs)] _ rfl rfl (regW.of ?_)
 simp only[seval,EMA]
 refine mU e (.seqK (.seqK (.bind λy1 hy1=>.region λe h=>WA ?_))) h
 refine .byA (r43_proper_spec.1 _ hy1) (mA ?_ h)
 refine .cond rfl (λhb3=>?_) (λhb3=>?_)
 exact zzA
 refine .skip (Mir.toK (.seqK (.bind λy2 hy4=>.region λe h=>WA ?_)))
 refine .byA (iW hy4) (mA ?_ h)
 refine .seqK (.sA ?_)
 refine Mir.jXB (λ_=>rfl) ?_ ?_
 exact zzA
 intro v2
 refine Mir.toK (.seqK (.sA ?_))
 refine Mir.jXB (λ_=>rfl) ?_ ?_
 refine .block (.guard λq1=>Mir.rF q1 (λ_ _=>rfl) (by simp only[seval,FMA,zNI]) (by simp only[seval,FMA,zNI]) ?_ ?_)
 intro i2 e2 v3 q2
 refine .seqK (.sR λe h=>?_)
 simp only[seval,EMA,q2]
 exact zzA
 exact zzA
 intro v5
 refine Mir.toK (.seqK (Mir.ghRow 2 (Mir.ghRow 2 (.guard λq4=>.guard λq5=>.guard λq6=>.guard λq7=>Mir.regionA 0 [] ([U,.iptr [.list (zA ac a0.Main),.list (zA aB a0.Subs)] 0]++us 13++[.gr 0 1,.gr 1 1]++us 56++[.iptr [.list (zA ac a0.Main),.list (zA aB a0.Subs)] 1,dL aB a0.Subs,dI (a0.Subs.length:Int),.gr 0 1,.iptr [.list (zA ac a0.Main),.list (zA aB a0.Subs)] 1,dL aB a0.Subs,dI (a0.Subs.length:Int),.gr 1 1]++us 74) ⟨[[.rowc 2 1 (zA (eInt .i64) (zD (zB (a0.Subs.length:Int)) (0:Int)))],[.rowc 2 1 (zA (eInt .i64) (zD (zB (a0.Subs.length:Int)) (0:Int)))]],[]⟩ (by kernel_rfl) (λe h=>?_) (λe h=>?_)))))
 simp only[seval,EMA,SB]
 refine regH.toA (regH.fieldI (j:=0) (y:=.iptr [.list (zA ac a0.Main),.list (zA aB a0.Subs)] 1) (by kernel_rfl) rfl rfl (by first | simp only[seval,EMA,kT,kA,eInt,b7,spD] | kernel_rfl) ?_)
 simp only[seval,EMA]
 refine regH.loadI (j:=1) (y:=.d (.list (zA aB a0.Subs))) (by kernel_rfl) rfl rfl rfl (by first | (simp only[↓reduceIte,nA,nL,jk,ag_58,kA,cw,eA,SV]<;>rfl) | simp only[seval,EMA,ag_58,kA,eInt,b7,spD] | kernel_rfl) ?_
 simp only[seval,EMA]
 refine regH.fieldI (j:=4) (y:=.iptr [.list (zA ac a0.Main),.list (zA aB a0.Subs)] 1) (by kernel_rfl) rfl rfl (by first | simp only[seval,EMA,kT,kA,eInt,b7,spD] | kernel_rfl) ?_
 simp only[seval,EMA]
 refine regH.loadI (j:=5) (y:=.d (.list (zA aB a0.Subs))) (by kernel_rfl) rfl rfl rfl (by first | (simp only[↓reduceIte,nA,nL,jk,ag_58,kA,cw,eA,SV]<;>rfl) | simp only[seval,EMA,ag_58,kA,eInt,b7,spD] | kernel_rfl) ?_
 simp only[seval,EMA]
 refine regH.two (j:=2) (k:=6) (by kernel_rfl) rfl rfl ?_ ?_
 refine regW.of ?_
 simp only[seval,EMA]
 refine regH.two (j:=3) (k:=6) (by kernel_rfl) rfl rfl ?_ ?_
 refine regW.alt 0 rfl ?_
 simp only[seval,EMA]
 refine ba (en:=(eInt .i64)) (z:=0) 0 rfl rfl rfl kv iH rfl rfl (oj q4) q5 (regW.of ?_)
 simp only[seval,EMA]
 refine regH.assignB (j:=8) (by kernel_rfl) rfl rfl ?_
 simp only[seval,EMA]
 refine regH.one (j:=6) (by kernel_rfl) rfl (regW.of ?_)
 simp only[seval,EMA]
 refine regH.one (j:=7) (by kernel_rfl) rfl (regW.alt 0 rfl ?_)
 simp only[seval,EMA]
 refine ba (en:=(eInt .i64)) (z:=0) 1 rfl rfl rfl kv iH rfl rfl (oj q6) q7 (regW.of ?_)
 simp only[seval,EMA]
 refine regH.assignB (j:=9) (by kernel_rfl) rfl rfl ?_
 simp only[seval,EMA]
 exact regH.nil (by kernel_rfl) ⟨by first | rfl | simp only[seval,FMA,eInt,RMX],by first | rfl | simp only[seval,FMA,eInt,RMX]⟩
 refine regW.of ?_
 simp only[seval,EMA]
 refine regH.two (j:=3) (k:=7) (by kernel_rfl) rfl rfl ?_ ?_
 refine regW.alt 0 rfl ?_
 simp only[seval,EMA]
 refine ba (en:=(eInt .i64)) (z:=0) 0 rfl rfl rfl kv iH rfl rfl (oj q4) q5 (regW.of ?_)
 simp only[seval,EMA]
 refine regH.assignB (j:=8) (by kernel_rfl) rfl rfl ?_
 simp only[seval,EMA]
 refine regH.one (j:=7) (by kernel_rfl) rfl (regW.alt 0 rfl ?_)
 simp only[seval,EMA]
 refine ba (en:=(eInt .i64)) (z:=0) 1 rfl rfl rfl kv iH rfl rfl (oj q6) q7 (regW.of ?_)
 simp only[seval,EMA]
 refine regH.assignB (j:=9) (by kernel_rfl) rfl rfl ?_
 simp only[seval,EMA]
 exact regH.nil (by kernel_rfl) ⟨by first | rfl | simp only[seval,FMA,eInt,RMX],by first | rfl | simp only[seval,FMA,eInt,RMX]⟩
 refine regW.alt 0 rfl ?_
 simp only[seval,EMA]
 refine ba (en:=(eInt .i64)) (z:=0) 1 rfl rfl rfl kv iH rfl rfl (oj q6) q7 (regW.of ?_)
 simp only[seval,EMA]
 refine regH.one (j:=3) (by kernel_rfl) rfl (regW.alt 0 rfl ?_)
 simp only[seval,EMA]
 refine ba (en:=(eInt .i64)) (z:=0) 0 rfl rfl rfl kv iH rfl rfl (oj q4) q5 (regW.of ?_)
 simp only[seval,EMA]
 refine regH.assignB (j:=8) (by kernel_rfl) rfl rfl ?_
 simp only[seval,EMA]
 refine regH.assignB (j:=9) (by kernel_rfl) rfl rfl ?_
 simp only[seval,EMA]
 exact regH.nil (by kernel_rfl) ⟨by first | rfl | simp only[seval,FMA,eInt,RMX],by first | rfl | simp only[seval,FMA,eInt,RMX]⟩
 refine regW.of ?_
 simp only[seval,EMA]
 refine regH.two (j:=2) (k:=7) (by kernel_rfl) rfl rfl ?_ ?_
 refine regW.of ?_
 simp only[seval,EMA]
 refine regH.two (j:=3) (k:=7) (by kernel_rfl) rfl rfl ?_ ?_
 refine regW.alt 0 rfl ?_
 simp only[seval,EMA]
 refine ba (en:=(eInt .i64)) (z:=0) 0 rfl rfl rfl kv iH rfl rfl (oj q4) q5 (regW.of ?_)
 simp only[seval,EMA]
 refine regH.assignB (j:=8) (by kernel_rfl) rfl rfl ?_
 simp only[seval,EMA]
 refine regH.one (j:=7) (by kernel_rfl) rfl (regW.alt 0 rfl ?_)
 simp only[seval,EMA]
 refine ba (en:=(eInt .i64)) (z:=0) 1 rfl rfl rfl kv iH rfl rfl (oj q6) q7 (regW.of ?_)
 simp only[seval,EMA]
 refine regH.assignB (j:=9) (by kernel_rfl) rfl rfl ?_
 simp only[seval,EMA]
 exact regH.nil (by kernel_rfl) ⟨by first | rfl | simp only[seval,FMA,eInt,RMX],by first | rfl | simp only[seval,FMA,eInt,RMX]⟩
 refine regW.alt 0 rfl ?_
 simp only[seval,EMA]
 refine ba (en:=(eInt .i64)) (z:=0) 1 rfl rfl rfl kv iH rfl rfl (oj q6) q7 (regW.of ?_)
 simp only[seval,EMA]
 refine regH.one (j:=3) (by kernel_rfl) rfl (regW.alt 0 rfl ?_)
 simp only[seval,EMA]
 refine ba (en:=(eInt .i64)) (z:=0) 0 rfl rfl rfl kv iH rfl rfl (oj q4) q5 (regW.of ?_)
 simp only[seval,EMA]
 refine regH.assignB (j:=8) (by kernel_rfl) rfl rfl ?_
 simp only[seval,EMA]
 refine regH.assignB (j:=9) (by kernel_rfl) rfl rfl ?_
 simp only[seval,EMA]
 exact regH.nil (by kernel_rfl) ⟨by first | rfl | simp only[seval,FMA,eInt,RMX],by first | rfl | simp only[seval,FMA,eInt,RMX]⟩
 refine regW.alt 0 rfl ?_
 simp only[seval,EMA]
 refine ba (en:=(eInt .i64)) (z:=0) 1 rfl rfl rfl kv iH rfl rfl (oj q6) q7 (regW.of ?_)
 simp only[seval,EMA]
 refine regH.one (j:=2) (by kernel_rfl) rfl (regW.of ?_)
 simp only[seval,EMA]
 refine regH.one (j:=3) (by kernel_rfl) rfl (regW.alt 0 rfl ?_)
 simp only[seval,EMA]
 refine ba (en:=(eInt .i64)) (z:=0) 0 rfl rfl rfl kv iH rfl rfl (oj q4) q5 (regW.of ?_)
 simp only[seval,EMA]
 refine regH.assignB (j:=8) (by kernel_rfl) rfl rfl ?_
 simp only[seval,EMA]
 refine regH.assignB (j:=9) (by kernel_rfl) rfl rfl ?_
 simp only[seval,EMA]
 exact regH.nil (by kernel_rfl) ⟨by first | rfl | simp only[seval,FMA,eInt,RMX],by first | rfl | simp only[seval,FMA,eInt,RMX]⟩
 refine mU e (.seqK (.sA ?_)) h
 refine Mir.jOB (λ_=>rfl) ?_ ?_
 refine .block (Mir.lF (λ_=>rfl) (by simp only[seval,FMA]) (by simp only[seval,FMA]) λv6=>.seqK (.seqK (.regionW λe h=>regW.alt 2 rfl ?_)))
 simp only[seval,EMA]
 refine alt_lenR rfl rfl und_92 (regW.of ?_)
 simp only[seval,EMA]
 refine mU e (.cond rfl (λh5=>?_) (λh5=>?_)) h
 refine .skip (Mir.toK (.seqK (.block (.bind λe3 q8=>?_))))
 replace q8:=gM q8
 refine .regionW λe h=>regW.alt 2 rfl ?_
 simp only[seval,EMA]
 refine bJ rfl rfl rfl und_92 sz_2 (gB q8.1) (gY q8.2 q8.1) (regW.alt 0 rfl ?_)
 simp only[seval,EMA]
 refine iC rfl rfl (gZ q8.2) rfl rfl sz_2 rfl (zE rfl) (regW.of ?_)
 exact zzA
 exact zzA
 intro v7
 refine Mir.toK (.seqK (.sA ?_))
 refine Mir.jOB (λ_=>rfl) ?_ ?_
 refine .block (Mir.lF (λ_=>rfl) (by simp only[seval,FMA]) (by simp only[seval,FMA]) λv8=>.seqK (.sA ?_))
 refine .cond rfl (λh6=>?_) (λh6=>?_)
 refine .skip (Mir.toK (.seqK (Mir.jOB (λ_=>rfl) ?_ ?_)))
 refine .block (.sA ?_)
 refine .block (Mir.lF (λ_=>rfl) (by simp only[seval,FMA]) (by simp only[seval,FMA]) λv9=>.seqK (.sA ?_))
 refine .cond rfl (λh7=>?_) (λh7=>?_)
 refine .skip (Mir.toK (.seqK (Mir.jOB (λ_=>rfl) ?_ ?_)))
 refine .block (.seqK (.bind λe4 q9=>?_))
 replace q9:=gM q9
 refine .bind λy6 h8=>Mir.regionA 0 [] ([U,.iptr [.list (zA ac a0.Main),.list (zA aB a0.Subs)] 0]++us 13++[.gr 0 1,.gr 1 1,U,dI v8.1,dI v9.1,dI y6.1,dI y6.2.1,dB y6.2.2]++us 74++[dI v9.1,.iptr [.list (zA ac a0.Main),.list (zA aB a0.Subs)] 1,dL aB a0.Subs,dI (a0.Subs.length:Int),dB (decide (v9.1<(a0.Subs.length:Int))),U,U,.tuple [dI y6.1,dI y6.2.1,dB y6.2.2],.agg (cP a0),.iptr [.list (zA ac a0.Main),.list (zA aB a0.Subs)] 1,dL aB a0.Subs,dI v9.1,.iptr [.int .i64 e4.Number,.list (zA ac e4.Blocks)] 0,.iptr [.int .i64 e4.Number,.list (zA ac e4.Blocks)] 1,dL ac e4.Blocks,.gr 0 1,.gr 1 1,.tuple [dI y6.1,dI y6.2.1,dB y6.2.2],dI y6.1,dI y6.2.1,dB y6.2.2]++us 37) ⟨[[.rowc 2 1 (zA (eInt .i64) v9.2.1)],[.rowc 2 1 (zA (eInt .i64) v9.2.2)]],[]⟩ (by kernel_rfl) (λe h=>?_) (λe h=>?_)
 simp only[seval,EMA,SB]
 refine regH.toA (regH.loadI (j:=0) (y:=.agg (cP a0)) (by kernel_rfl) rfl rfl rfl (by first | (simp only[↓reduceIte,nA,nL,jk,ag_60,sz_60,cw,eA,SV]<;>rfl) | simp only[seval,EMA,ag_60,sz_60,eInt,b7,spD] | kernel_rfl) ?_)
 simp only[seval,EMA]
 refine regH.fieldI (j:=1) (y:=.iptr [.list (zA ac a0.Main),.list (zA aB a0.Subs)] 1) (by kernel_rfl) rfl rfl (by first | simp only[seval,EMA,kT,kA,eInt,b7,spD] | kernel_rfl) ?_
 simp only[seval,EMA]
 refine regH.loadI (j:=2) (y:=.d (.list (zA aB a0.Subs))) (by kernel_rfl) rfl rfl rfl (by first | (simp only[↓reduceIte,nA,nL,jk,ag_58,kA,cw,eA,SV]<;>rfl) | simp only[seval,EMA,ag_58,kA,eInt,b7,spD] | kernel_rfl) ?_
 simp only[seval,EMA]
 refine regH.moveB (j:=3) (by kernel_rfl) rfl rfl ?_
 simp only[seval,EMA]
 refine regH.moveB (j:=7) (by kernel_rfl) rfl rfl ?_
 simp only[seval,EMA]
 refine regH.moveB (j:=8) (by kernel_rfl) rfl rfl ?_
 simp only[seval,EMA]
 refine regH.one (j:=4) (by kernel_rfl) rfl (regW.of ?_)
 simp only[seval,EMA,q9]
 refine regH.fieldI (j:=5) (y:=.iptr [.int .i64 e4.Number,.list (zA ac e4.Blocks)] 1) (by kernel_rfl) rfl rfl (by first | simp only[seval,EMA,fld_103_1,jE,eInt,b7,spD] | kernel_rfl) ?_
 simp only[seval,EMA]
 refine regH.loadI (j:=6) (y:=.d (.list (zA ac e4.Blocks))) (by kernel_rfl) rfl rfl rfl (by first | (simp only[↓reduceIte,nA,nL,jk,ag_31,jE,cw,eA,SV]<;>rfl) | simp only[seval,EMA,ag_31,jE,eInt,b7,spD] | kernel_rfl) ?_
 simp only[seval,EMA]
 refine regH.one (j:=9) (by kernel_rfl) rfl (regW.of ?_)
 simp only[seval,EMA]
 refine aY.byZ (k8.1 _ h8) rfl rfl ?_
 simp only[seval,EMA]
 refine regH.moveB (j:=10) (by kernel_rfl) rfl rfl ?_
 simp only[seval,EMA]
 refine regH.extB (j:=11) (by kernel_rfl) rfl rfl rfl rfl ?_
 simp only[seval,EMA]
 refine regH.extB (j:=12) (by kernel_rfl) rfl rfl rfl rfl ?_
 simp only[seval,EMA]
 refine regH.extB (j:=13) (by kernel_rfl) rfl rfl rfl rfl ?_
 simp only[seval,EMA]
 refine regH.assignB (j:=14) (by kernel_rfl) rfl rfl ?_
 simp only[seval,EMA]
 refine regH.assignB (j:=15) (by kernel_rfl) rfl rfl ?_
 simp only[seval,EMA]
 refine regH.assignB (j:=16) (by kernel_rfl) rfl rfl ?_
 simp only[seval,EMA]
 exact regH.nil (by kernel_rfl) ⟨by first | rfl | simp only[seval,FMA,eInt,RMX],by first | rfl | simp only[seval,FMA,eInt,RMX]⟩
 refine mU e (.sA ?_) h
 refine .cond rfl (λh9=>?_) (λh9=>?_)
 refine .bind λe5 q10=>?_
 replace q10:=gM q10
 refine .bind λe6 q11=>?_
 replace q11:=gM q11
 refine .regionW λe h=>regW.alt 6 rfl ?_
 simp only[seval,EMA]
 refine bJ rfl rfl rfl und_92 sz_2 (gB q10.1) (gY q10.2 q10.1) (regW.alt 0 rfl ?_)
 simp only[seval,EMA]
 refine iC rfl rfl (gZ q10.2) rfl rfl sz_2 rfl (zE rfl) (regW.alt 0 rfl ?_)
 simp only[seval,EMA]
 refine bJ rfl rfl rfl und_92 sz_2 (gB q11.1) (gY q11.2 q11.1) (regW.alt 0 rfl ?_)
 simp only[seval,EMA]
 refine iC rfl rfl (gZ q11.2) rfl rfl sz_2 rfl (zE rfl) (regW.of ?_)
 exact zzA
 exact zzA
 exact zzA
 exact zzA
 exact zzA
 exact zzA
 intro v12
 refine Mir.toK (.seqK (.sA ?_))
 refine Mir.jXB (λ_=>rfl) ?_ ?_
 refine .block (.guard λq12=>Mir.rF q12 (λ_ _=>rfl) (by simp only[seval,FMA,zNI]) (by simp only[seval,FMA,zNI]) ?_ ?_)
 intro i3 e7 v13 q13
 refine .seqK (.seqK (.regionW λe h=>regW.alt 2 rfl ?_))
 simp only[seval,EMA]
 refine alt_lenR rfl rfl und_92 (regW.of ?_)
 simp only[seval,EMA,q13]
 refine mU e (.condT rfl (.skip (Mir.toK (.seqK (.block (.seqK (.bind λe8 q14=>?_))))))) h
 replace q14:=gM q14
 refine .regionW λe h=>regW.alt 2 rfl ?_
 simp only[seval,EMA]
 refine bJ rfl rfl rfl und_92 sz_2 (gB q14.1) (gY q14.2 q14.1) (regW.alt 0 rfl ?_)
 simp only[seval,EMA]
 refine eE rfl rfl (gZ q14.2) (by simp only[↓reduceIte,nA,nL,jk,ag_2,sz_2,cw,eA,SV,eInt]<;>rfl) (regW.of ?_)
 exact zzA
 intro v13 q15
 refine .seqK (.seqK (.regionW λe h=>regW.alt 2 rfl ?_))
 simp only[seval,EMA]
 refine alt_lenR rfl rfl und_92 (regW.of ?_)
 exact zzA
 intro v14
 refine Mir.toK (.seqK (.bind λy7 h11=>.region λe h=>WA ?_))
 refine aY.byZ (k8.1 _ h11) rfl rfl ?_
 simp only[seval,EMA]
 exact zzA
instance:Sp 39 (type_of% @jH):=⟨@jH⟩
def j8(a0:aZ):Option ((List aa)×Int):=ah (lD a0) λ(y1:Int×Int)=>if (y1.2 != 0)=true then some ([],y1.2)else av (decide ((0:Int)≤(a0.Subs.length:Int))) ( av (bo (zB (a0.Subs.length:Int))) ( av (decide ((0:Int)≤(a0.Subs.length:Int))) ( av (bo (zB (a0.Subs.length:Int))) ( ah (bt (λ(v1:Int×(List Bool)×(List (List aa)))=>lF ([U,.iptr [.list (zA ac a0.Main),.list (zA aB a0.Subs)] 0,U,U,U,U,.gr 0 1,.gr 1 1,dI v1.1]++us 67) ⟨[[.rowc 4 1 (zA bV v1.2.1)],[.rowc 31 1 (zA (bC ac) v1.2.2)]],[]⟩ ( if (decide (v1.1<(a0.Subs.length:Int)))=true then ah (bt (λ(v2:Int×(List Bool)×(List (List aa)))=>lF ([U,.iptr [.list (zA ac a0.Main),.list (zA aB a0.Subs)] 0,U,U,U,U,.gr 0 1,.gr 1 1,dI v1.1,dI v2.1]++us 66) ⟨[[.rowc 4 1 (zA bV v2.2.1)],[.rowc 31 1 (zA (bC ac) v2.2.2)]],[]⟩ ( if (decide (v2.1<(a0.Subs.length:Int)))=true then ah (ah (gt v2.2.1 v2.1) λ(e1:Bool)=>if (!e1)=true then ah (gt a0.Subs v2.1) λ(e2:dg)=>ah (iF 40 (λv3:(List aa)×Bool=>.tuple [dL ac v3.1,dB v3.2]) (λv3:(List aa)×Bool=>⟨[[.rowc 4 1 (zA bV v2.2.1)],[.rowc 31 1 (zA (bC ac) v2.2.2)]],[]⟩) (gF [.slot 10 87] ( bindX (av (be e2.Blocks) ( az (λ(i1:Nat) (e3:aa) (v4:(List aa))=>rF ([U,dL ac e2.Blocks,.gr 0 1,.gr 1 1,.iptr [.list (zA ac a0.Main),.list (zA aB a0.Subs)] 0,U,U,U,U,U,.own 0 (zA ac v4),dI (i1:Int)]++us 64) ⟨[[.rowc 4 1 (zA bV v2.2.1)],[.rowc 31 1 (zA (bC ac) v2.2.2)]],[(87,v4.length)]⟩ ( bindX (ah (gi e3) λ(y2:Int×Int×Bool×Int)=>if (!y2.2.2.1)=true then av (bo (v4.length+1)) ( some (.go (v4++[e3])))else ah (dl a0 y2.1) λ(y3:Int)=>ah (gt v2.2.1 y3) λ(e4:Bool)=>if (!e4)=true then some (.ret (.ret (.ret ([],false))))else bt (λ(v5:(List aa)×Int)=>lF ([U,dL ac e2.Blocks,.gr 0 1,.gr 1 1,.iptr [.list (zA ac a0.Main),.list (zA aB a0.Subs)] 0,U,U,U,U,U,.own 0 (zA ac v5.1),dI (i1:Int),U,dI y2.2.1,U,U,dI y3,dI v5.2]++us 58) ⟨[[.rowc 4 1 (zA bV v2.2.1)],[.rowc 31 1 (zA (bC ac) v2.2.2)]],[(87,v5.1.length)]⟩ ( ah (if (decide (v5.2<y2.2.1))=true then ah (gt v2.2.2 y3) λ(e5:(List aa))=>if (decide ((e5.length:Int)>0))=true then some (decide ((v5.1.length:Int)≤20000))else some false else some false) λ(v6:Bool)=>jR 12 ([U,dL ac e2.Blocks,.gr 0 1,.gr 1 1,.iptr [.list (zA ac a0.Main),.list (zA aB a0.Subs)] 0,U,U,U,U,U,.own 0 (zA ac v5.1),dI (i1:Int),U,dI y2.2.1,U,U,dI y3,dI v5.2]++us 48++[dB v6]++us 9) ⟨[[.rowc 4 1 (zA bV v2.2.1)],[.rowc 31 1 (zA (bC ac) v2.2.2)]],[(87,v5.1.length)]⟩ ( if v6=true then ah (gt v2.2.2 y3) λ(e6:(List aa))=>av (bo (v5.1.length+e6.length)) ( some (.go (v5.1++e6,zG.wrap (v5.2+1))))else some (.ret (.go v5.1))))) fuel (v4,0)) λ(v7:(List aa))=>jB 1 ([U,dL ac e2.Blocks,.gr 0 1,.gr 1 1,.iptr [.list (zA ac a0.Main),.list (zA aB a0.Subs)] 0,U,U,U,U,U,.own 0 (zA ac v7),dI (i1:Int)]++us 64) ⟨[[.rowc 4 1 (zA bV v2.2.1)],[.rowc 31 1 (zA (bC ac) v2.2.2)]],[(87,v7.length)]⟩ ( some (.go v7)))) (λ(v4:(List aa))=>some (.go v4)) e2.Blocks 0 [])) λ(v8:(List aa))=>jB 0 (us 10++[.own 0 (zA ac v8)]++us 65) ⟨[[.rowc 4 1 (zA bV v2.2.1)],[.rowc 31 1 (zA (bC ac) v2.2.2)]],[(87,v8.length)]⟩ ( some (v8,true))))) λ(v3:(List aa)×Bool)=>ah (gt v2.2.2 v2.1) λ(e7:(List aa))=>ah (gt v2.2.1 v2.1) λ(e8:Bool)=>some (v2.2.1.set (zB v2.1) v3.2,v2.2.2.set (zB v2.1) v3.1)else some (v2.2.1,v2.2.2)) λ(v9:(List Bool)×(List (List aa)))=>jB 3 ([U,.iptr [.list (zA ac a0.Main),.list (zA aB a0.Subs)] 0,U,U,U,U,.gr 0 1,.gr 1 1,dI v1.1,dI v2.1]++us 66) ⟨[[.rowc 4 1 (zA bV v9.1)],[.rowc 31 1 (zA (bC ac) v9.2)]],[]⟩ ( some (.go (zG.wrap (v2.1+1),v9.1,v9.2)))else some (.ret (v2.2.1,v2.2.2)))) fuel (0,v1.2.1,v1.2.2)) λ(v10:(List Bool)×(List (List aa)))=>jB 1 ([U,.iptr [.list (zA ac a0.Main),.list (zA aB a0.Subs)] 0,U,U,U,U,.gr 0 1,.gr 1 1,dI v1.1]++us 67) ⟨[[.rowc 4 1 (zA bV v10.1)],[.rowc 31 1 (zA (bC ac) v10.2)]],[]⟩ ( some (.go (zG.wrap (v1.1+1),v10.1,v10.2)))else some (.ret (v1.2.1,v1.2.2)))) fuel (0,zD (zB (a0.Subs.length:Int)) (false:Bool),zD (zB (a0.Subs.length:Int)) ([]:(List aa)))) λ(v11:(List Bool)×(List (List aa)))=>jB 0 ([U,.iptr [.list (zA ac a0.Main),.list (zA aB a0.Subs)] 0,U,U,U,U,.gr 0 1,.gr 1 1]++us 68) ⟨[[.rowc 4 1 (zA bV v11.1)],[.rowc 31 1 (zA (bC ac) v11.2)]],[]⟩ ( ah (iF 40 (λv12:(List aa)×Bool=>.tuple [dL ac v12.1,dB v12.2]) (λv12:(List aa)×Bool=>⟨[[.rowc 4 1 (zA bV v11.1)],[.rowc 31 1 (zA (bC ac) v11.2)]],[]⟩) (gF [.slot 10 87] ( bindX (av (be a0.Main) ( az (λ(i2:Nat) (e9:aa) (v13:(List aa))=>rF ([U,dL ac a0.Main,.gr 0 1,.gr 1 1,.iptr [.list (zA ac a0.Main),.list (zA aB a0.Subs)] 0,U,U,U,U,U,.own 0 (zA ac v13),dI (i2:Int)]++us 64) ⟨[[.rowc 4 1 (zA bV v11.1)],[.rowc 31 1 (zA (bC ac) v11.2)]],[(87,v13.length)]⟩ ( bindX (ah (gi e9) λ(y4:Int×Int×Bool×Int)=>if (!y4.2.2.1)=true then av (bo (v13.length+1)) ( some (.go (v13++[e9])))else ah (dl a0 y4.1) λ(y5:Int)=>ah (gt v11.1 y5) λ(e10:Bool)=>if (!e10)=true then some (.ret (.ret (.ret ([],false))))else bt (λ(v14:(List aa)×Int)=>lF ([U,dL ac a0.Main,.gr 0 1,.gr 1 1,.iptr [.list (zA ac a0.Main),.list (zA aB a0.Subs)] 0,U,U,U,U,U,.own 0 (zA ac v14.1),dI (i2:Int),U,dI y4.2.1,U,U,dI y5,dI v14.2]++us 58) ⟨[[.rowc 4 1 (zA bV v11.1)],[.rowc 31 1 (zA (bC ac) v11.2)]],[(87,v14.1.length)]⟩ ( ah (if (decide (v14.2<y4.2.1))=true then ah (gt v11.2 y5) λ(e11:(List aa))=>if (decide ((e11.length:Int)>0))=true then some (decide ((v14.1.length:Int)≤20000))else some false else some false) λ(v15:Bool)=>jR 12 ([U,dL ac a0.Main,.gr 0 1,.gr 1 1,.iptr [.list (zA ac a0.Main),.list (zA aB a0.Subs)] 0,U,U,U,U,U,.own 0 (zA ac v14.1),dI (i2:Int),U,dI y4.2.1,U,U,dI y5,dI v14.2]++us 48++[dB v15]++us 9) ⟨[[.rowc 4 1 (zA bV v11.1)],[.rowc 31 1 (zA (bC ac) v11.2)]],[(87,v14.1.length)]⟩ ( if v15=true then ah (gt v11.2 y5) λ(e12:(List aa))=>av (bo (v14.1.length+e12.length)) ( some (.go (v14.1++e12,zG.wrap (v14.2+1))))else some (.ret (.go v14.1))))) fuel (v13,0)) λ(v16:(List aa))=>jB 1 ([U,dL ac a0.Main,.gr 0 1,.gr 1 1,.iptr [.list (zA ac a0.Main),.list (zA aB a0.Subs)] 0,U,U,U,U,U,.own 0 (zA ac v16),dI (i2:Int)]++us 64) ⟨[[.rowc 4 1 (zA bV v11.1)],[.rowc 31 1 (zA (bC ac) v11.2)]],[(87,v16.length)]⟩ ( some (.go v16)))) (λ(v13:(List aa))=>some (.go v13)) a0.Main 0 [])) λ(v17:(List aa))=>jB 0 (us 10++[.own 0 (zA ac v17)]++us 65) ⟨[[.rowc 4 1 (zA bV v11.1)],[.rowc 31 1 (zA (bC ac) v11.2)]],[(87,v17.length)]⟩ ( some (v17,true))))) λ(v12:(List aa)×Bool)=>some (v12.1,0))))))
theorem lC{a0:aZ}{y:(List aa)×Int}(h:j8 a0=some y):Spec gP 16 [.agg (cP a0)] (.tuple [.d (.list (zA ac y.1)),.d (.int .i64 y.2)]):=by
 refine auA Tryz.func16 (λy:(List aa)×Int=>.tuple [.d (.list (zA ac y.1)),.d (.int .i64 y.2)]) ?_ h
 unfold j8
 refine .seqK (.regionW λe h=>regW.alt 0 rfl ?_)
 simp only[seval,EMA]
 refine kZ [.list (zA ac a0.Main),.list (zA aB a0.Subs)] _ rfl rfl (regW.of ?_)
 simp only[seval,EMA]
 refine mU e (.seqK (.seqK (.bind λy1 hy1=>.region λe h=>WA ?_))) h
 refine .byA (jH hy1) (mA ?_ h)
 refine .sA ?_
 refine .cond rfl (λhb3=>?_) (λhb3=>?_)
 exact zzA
 refine .skip (Mir.toK (.seqK (Mir.ghRow 4 (Mir.ghRow 31 (.guard λq4=>.guard λq5=>.guard λq6=>.guard λq7=>Mir.regionA 0 [] ([.agg (cP a0),.iptr [.list (zA ac a0.Main),.list (zA aB a0.Subs)] 0,.nil,dI 0,dI y1.1,dI y1.2,.gr 0 1,.gr 1 1,U,U,U,U,.tuple [dI y1.1,dI y1.2],.agg (cP a0),.tuple [dI y1.1,dI y1.2],dI y1.1,dI y1.2,dI y1.2,dB (y1.2 != 0),U,.iptr [.list (zA ac a0.Main),.list (zA aB a0.Subs)] 1,dL aB a0.Subs,dI (a0.Subs.length:Int),.gr 0 1,.iptr [.list (zA ac a0.Main),.list (zA aB a0.Subs)] 1,dL aB a0.Subs,dI (a0.Subs.length:Int),.gr 1 1]++us 48) ⟨[[.rowc 4 1 (zA bV (zD (zB (a0.Subs.length:Int)) (false:Bool)))],[.rowc 31 1 (zA (bC ac) (zD (zB (a0.Subs.length:Int)) ([]:(List aa))))]],[]⟩ (by kernel_rfl) (λe h=>?_) (λe h=>?_))))))
 simp only[seval,EMA,SB]
 refine regH.toA (regH.fieldI (j:=0) (y:=.iptr [.list (zA ac a0.Main),.list (zA aB a0.Subs)] 1) (by kernel_rfl) rfl rfl (by first | simp only[seval,EMA,kT,kA,bV,bC,b7,spD] | kernel_rfl) ?_)
 simp only[seval,EMA]
 refine regH.loadI (j:=1) (y:=.d (.list (zA aB a0.Subs))) (by kernel_rfl) rfl rfl rfl (by first | (simp only[↓reduceIte,nA,nL,jk,ag_58,kA,cw,eA,SV]<;>rfl) | simp only[seval,EMA,ag_58,kA,bV,bC,b7,spD] | kernel_rfl) ?_
 simp only[seval,EMA]
 refine regH.fieldI (j:=4) (y:=.iptr [.list (zA ac a0.Main),.list (zA aB a0.Subs)] 1) (by kernel_rfl) rfl rfl (by first | simp only[seval,EMA,kT,kA,bV,bC,b7,spD] | kernel_rfl) ?_
 simp only[seval,EMA]
 refine regH.loadI (j:=5) (y:=.d (.list (zA aB a0.Subs))) (by kernel_rfl) rfl rfl rfl (by first | (simp only[↓reduceIte,nA,nL,jk,ag_58,kA,cw,eA,SV]<;>rfl) | simp only[seval,EMA,ag_58,kA,bV,bC,b7,spD] | kernel_rfl) ?_
 simp only[seval,EMA]
 refine regH.two (j:=2) (k:=6) (by kernel_rfl) rfl rfl ?_ ?_
 refine regW.of ?_
 simp only[seval,EMA]
 refine regH.two (j:=3) (k:=6) (by kernel_rfl) rfl rfl ?_ ?_
 refine regW.alt 0 rfl ?_
 simp only[seval,EMA]
 refine ba (en:=bV) (z:=false) 0 rfl rfl rfl app_107 zero_4 rfl rfl (oj q4) q5 (regW.of ?_)
 simp only[seval,EMA]
 refine regH.assignB (j:=8) (by kernel_rfl) rfl rfl ?_
 simp only[seval,EMA]
 refine regH.one (j:=6) (by kernel_rfl) rfl (regW.of ?_)
 simp only[seval,EMA]
 refine regH.one (j:=7) (by kernel_rfl) rfl (regW.alt 0 rfl ?_)
 simp only[seval,EMA]
 refine ba (en:=(bC ac)) (z:=[]) 1 rfl rfl rfl mb gQ rfl rfl (oj q6) q7 (regW.of ?_)
 simp only[seval,EMA]
 refine regH.assignB (j:=9) (by kernel_rfl) rfl rfl ?_
 simp only[seval,EMA]
 exact regH.nil (by kernel_rfl) ⟨by first | rfl | simp only[seval,FMA,bV,bC,RMX],by first | rfl | simp only[seval,FMA,bV,bC,RMX]⟩
 refine regW.of ?_
 simp only[seval,EMA]
 refine regH.two (j:=3) (k:=7) (by kernel_rfl) rfl rfl ?_ ?_
 refine regW.alt 0 rfl ?_
 simp only[seval,EMA]
 refine ba (en:=bV) (z:=false) 0 rfl rfl rfl app_107 zero_4 rfl rfl (oj q4) q5 (regW.of ?_)
 simp only[seval,EMA]
 refine regH.assignB (j:=8) (by kernel_rfl) rfl rfl ?_
 simp only[seval,EMA]
 refine regH.one (j:=7) (by kernel_rfl) rfl (regW.alt 0 rfl ?_)
 simp only[seval,EMA]
 refine ba (en:=(bC ac)) (z:=[]) 1 rfl rfl rfl mb gQ rfl rfl (oj q6) q7 (regW.of ?_)
 simp only[seval,EMA]
 refine regH.assignB (j:=9) (by kernel_rfl) rfl rfl ?_
 simp only[seval,EMA]
 exact regH.nil (by kernel_rfl) ⟨by first | rfl | simp only[seval,FMA,bV,bC,RMX],by first | rfl | simp only[seval,FMA,bV,bC,RMX]⟩
 refine regW.alt 0 rfl ?_
 simp only[seval,EMA]
 refine ba (en:=(bC ac)) (z:=[]) 1 rfl rfl rfl mb gQ rfl rfl (oj q6) q7 (regW.of ?_)
 simp only[seval,EMA]
 refine regH.one (j:=3) (by kernel_rfl) rfl (regW.alt 0 rfl ?_)
 simp only[seval,EMA]
 refine ba (en:=bV) (z:=false) 0 rfl rfl rfl app_107 zero_4 rfl rfl (oj q4) q5 (regW.of ?_)
 simp only[seval,EMA]
 refine regH.assignB (j:=8) (by kernel_rfl) rfl rfl ?_
 simp only[seval,EMA]
 refine regH.assignB (j:=9) (by kernel_rfl) rfl rfl ?_
 simp only[seval,EMA]
 exact regH.nil (by kernel_rfl) ⟨by first | rfl | simp only[seval,FMA,bV,bC,RMX],by first | rfl | simp only[seval,FMA,bV,bC,RMX]⟩
 refine regW.of ?_
 simp only[seval,EMA]
 refine regH.two (j:=2) (k:=7) (by kernel_rfl) rfl rfl ?_ ?_
 refine regW.of ?_
 simp only[seval,EMA]
 refine regH.two (j:=3) (k:=7) (by kernel_rfl) rfl rfl ?_ ?_
 refine regW.alt 0 rfl ?_
 simp only[seval,EMA]
 refine ba (en:=bV) (z:=false) 0 rfl rfl rfl app_107 zero_4 rfl rfl (oj q4) q5 (regW.of ?_)
 simp only[seval,EMA]
 refine regH.assignB (j:=8) (by kernel_rfl) rfl rfl ?_
 simp only[seval,EMA]
 refine regH.one (j:=7) (by kernel_rfl) rfl (regW.alt 0 rfl ?_)
 simp only[seval,EMA]
 refine ba (en:=(bC ac)) (z:=[]) 1 rfl rfl rfl mb gQ rfl rfl (oj q6) q7 (regW.of ?_)
 simp only[seval,EMA]
 refine regH.assignB (j:=9) (by kernel_rfl) rfl rfl ?_
 simp only[seval,EMA]
 exact regH.nil (by kernel_rfl) ⟨by first | rfl | simp only[seval,FMA,bV,bC,RMX],by first | rfl | simp only[seval,FMA,bV,bC,RMX]⟩
 refine regW.alt 0 rfl ?_
 simp only[seval,EMA]
 refine ba (en:=(bC ac)) (z:=[]) 1 rfl rfl rfl mb gQ rfl rfl (oj q6) q7 (regW.of ?_)
 simp only[seval,EMA]
 refine regH.one (j:=3) (by kernel_rfl) rfl (regW.alt 0 rfl ?_)
 simp only[seval,EMA]
 refine ba (en:=bV) (z:=false) 0 rfl rfl rfl app_107 zero_4 rfl rfl (oj q4) q5 (regW.of ?_)
 simp only[seval,EMA]
 refine regH.assignB (j:=8) (by kernel_rfl) rfl rfl ?_
 simp only[seval,EMA]
 refine regH.assignB (j:=9) (by kernel_rfl) rfl rfl ?_
 simp only[seval,EMA]
 exact regH.nil (by kernel_rfl) ⟨by first | rfl | simp only[seval,FMA,bV,bC,RMX],by first | rfl | simp only[seval,FMA,bV,bC,RMX]⟩
 refine regW.alt 0 rfl ?_
 simp only[seval,EMA]
 refine ba (en:=(bC ac)) (z:=[]) 1 rfl rfl rfl mb gQ rfl rfl (oj q6) q7 (regW.of ?_)
 simp only[seval,EMA]
 refine regH.one (j:=2) (by kernel_rfl) rfl (regW.of ?_)
 simp only[seval,EMA]
 refine regH.one (j:=3) (by kernel_rfl) rfl (regW.alt 0 rfl ?_)
 simp only[seval,EMA]
 refine ba (en:=bV) (z:=false) 0 rfl rfl rfl app_107 zero_4 rfl rfl (oj q4) q5 (regW.of ?_)
 simp only[seval,EMA]
 refine regH.assignB (j:=8) (by kernel_rfl) rfl rfl ?_
 simp only[seval,EMA]
 refine regH.assignB (j:=9) (by kernel_rfl) rfl rfl ?_
 simp only[seval,EMA]
 exact regH.nil (by kernel_rfl) ⟨by first | rfl | simp only[seval,FMA,bV,bC,RMX],by first | rfl | simp only[seval,FMA,bV,bC,RMX]⟩
 refine mU e (.seqK (.sA ?_)) h
 refine Mir.jOB (λ_=>rfl) ?_ ?_
 refine .block (Mir.lF (λ_=>rfl) (by simp only[seval,FMA]) (by simp only[seval,FMA]) λv1=>.seqK (.sA ?_))
 refine .cond rfl (λh1=>?_) (λh1=>?_)
 refine .skip (Mir.toK (.seqK (Mir.jOB (λ_=>rfl) ?_ ?_)))
 refine .block (.sA ?_)
 refine .block (Mir.lF (λ_=>rfl) (by simp only[seval,FMA]) (by simp only[seval,FMA]) λv2=>.seqK (.sA ?_))
 refine .cond rfl (λh2=>?_) (λh2=>?_)
 refine .skip (Mir.toK (.seqK (Mir.jOB (λ_=>rfl) ?_ ?_)))
 refine .block (.seqK (.bind λe1 q1=>?_))
 replace q1:=gM q1
 refine .regionW λe h=>regW.alt 2 rfl ?_
 simp only[seval,EMA]
 refine bJ rfl rfl rfl und_107 sz_4 (gB q1.1) (gY q1.2 q1.1) (regW.alt 0 rfl ?_)
 simp only[seval,EMA]
 refine eE rfl rfl (gZ q1.2) (by simp only[↓reduceIte,nA,nL,jk,ag_4,sz_4,cw,eA,SV,bV]<;>rfl) (regW.of ?_)
 simp only[seval,EMA]
 refine mU e (.cond rfl (λh3=>?_) (λh3=>?_)) h
 refine .bind λe2 q2=>?_
 replace q2:=gM q2
 refine .bind λv3 h4=>.bind λe7 q3=>?_
 replace q3:=gM q3
 refine .bind λe8 q8=>?_
 replace q8:=gM q8
 refine Mir.regionA 0 [] ([U,.iptr [.list (zA ac a0.Main),.list (zA aB a0.Subs)] 0,U,U,U,U,.gr 0 1,.gr 1 1,dI v1.1,dI v2.1]++us 25++[dI v2.1,.iptr [.list (zA ac a0.Main),.list (zA aB a0.Subs)] 1,dL aB a0.Subs,dI (a0.Subs.length:Int),dB (decide (v2.1<(a0.Subs.length:Int))),U,U,.gr 0 1,dI v2.1,.gp 0 1 (zB v2.1) 0,dB e1,dB (!e1),.tuple [dL ac v3.1,dB v3.2],.gr 1 1,dI v2.1,.gr 0 1,dI v2.1,.agg (cP a0),.iptr [.list (zA ac a0.Main),.list (zA aB a0.Subs)] 1,dL aB a0.Subs,dI v2.1,.iptr [.int .i64 e2.Number,.list (zA ac e2.Blocks)] 0,.iptr [.int .i64 e2.Number,.list (zA ac e2.Blocks)] 1,dL ac e2.Blocks,.gr 0 1,.gr 1 1,.tuple [dL ac v3.1,dB v3.2],dL ac v3.1,dB v3.2,.gp 1 1 (zB v2.1) 0,.gp 0 1 (zB v2.1) 0]++us 10) ⟨[[.rowc 4 1 (zA bV (v2.2.1.set (zB v2.1) v3.2))],[.rowc 31 1 (zA (bC ac) (v2.2.2.set (zB v2.1) v3.1))]],[]⟩ (by kernel_rfl) (λe h=>?_) (λe h=>?_)
 simp only[seval,EMA,SB]
 refine regH.toA (regH.moveB (j:=0) (by kernel_rfl) rfl rfl ?_)
 simp only[seval,EMA]
 refine regH.moveB (j:=1) (by kernel_rfl) rfl rfl ?_
 simp only[seval,EMA]
 refine regH.moveB (j:=2) (by kernel_rfl) rfl rfl ?_
 simp only[seval,EMA]
 refine regH.moveB (j:=3) (by kernel_rfl) rfl rfl ?_
 simp only[seval,EMA]
 refine regH.loadI (j:=4) (y:=.agg (cP a0)) (by kernel_rfl) rfl rfl rfl (by first | (simp only[↓reduceIte,nA,nL,jk,ag_60,sz_60,cw,eA,SV]<;>rfl) | simp only[seval,EMA,ag_60,sz_60,bV,bC,b7,spD] | kernel_rfl) ?_
 simp only[seval,EMA]
 refine regH.fieldI (j:=5) (y:=.iptr [.list (zA ac a0.Main),.list (zA aB a0.Subs)] 1) (by kernel_rfl) rfl rfl (by first | simp only[seval,EMA,kT,kA,bV,bC,b7,spD] | kernel_rfl) ?_
 simp only[seval,EMA]
 refine regH.loadI (j:=6) (y:=.d (.list (zA aB a0.Subs))) (by kernel_rfl) rfl rfl rfl (by first | (simp only[↓reduceIte,nA,nL,jk,ag_58,kA,cw,eA,SV]<;>rfl) | simp only[seval,EMA,ag_58,kA,bV,bC,b7,spD] | kernel_rfl) ?_
 simp only[seval,EMA]
 refine regH.moveB (j:=7) (by kernel_rfl) rfl rfl ?_
 simp only[seval,EMA]
 refine regH.moveB (j:=11) (by kernel_rfl) rfl rfl ?_
 simp only[seval,EMA]
 refine regH.moveB (j:=12) (by kernel_rfl) rfl rfl ?_
 simp only[seval,EMA]
 refine regH.one (j:=8) (by kernel_rfl) rfl (regW.of ?_)
 simp only[seval,EMA,q2]
 refine regH.fieldI (j:=9) (y:=.iptr [.int .i64 e2.Number,.list (zA ac e2.Blocks)] 1) (by kernel_rfl) rfl rfl (by first | simp only[seval,EMA,fld_103_1,jE,bV,bC,b7,spD] | kernel_rfl) ?_
 simp only[seval,EMA]
 refine regH.loadI (j:=10) (y:=.d (.list (zA ac e2.Blocks))) (by kernel_rfl) rfl rfl rfl (by first | (simp only[↓reduceIte,nA,nL,jk,ag_31,jE,cw,eA,SV]<;>rfl) | simp only[seval,EMA,ag_31,jE,bV,bC,b7,spD] | kernel_rfl) ?_
 simp only[seval,EMA]
 refine regH.one (j:=13) (by kernel_rfl) rfl (regW.of ?_)
 simp only[seval,EMA]
 refine aY.inlA h4 ?_ ?_
 refine .seqK (.regionW λe h=>regW.alt 0 rfl ?_)
 simp only[seval,EMA]
 refine kZ [.list (zA ac a0.Main),.list (zA aB a0.Subs)] _ rfl rfl (regW.of ?_)
 simp only[seval,EMA]
 refine mU e (.sA ?_) h
 refine .seqK (.sA ?_)
 refine Mir.gF rfl (Mir.jXB (λ_=>rfl) ?_ ?_)
 refine .block (.guard λq9=>Mir.rF q9 (λ_ _=>rfl) (by simp only[seval,FMA,zNI]) (by simp only[seval,FMA,zNI]) ?_ ?_)
 intro i1 e3 v4 q10
 refine .seqK (.sR λe h=>?_)
 simp only[seval,EMA,q10]
 refine mU e (.condT rfl (.skip (Mir.toK (.seqK (Mir.jXB (λ_=>rfl) ?_ ?_))))) h
 refine .block (.seqK (.bind λy2 h5=>.region λe h=>?_))
 simp only[seval,EMA,q10,zF]
 refine .byA (r43_Call_spec.1 _ h5) (mA ?_ h)
 refine .seqK (.sA ?_)
 refine .cond rfl (λh6=>?_) (λh6=>?_)
 exact zzA
 refine .skip (Mir.toK (.seqK (.bind λy3 h7=>.region λe h=>WA ?_)))
 refine .byA (r43_Find_spec.1 _ h7) (mA ?_ h)
 refine .seqK (.seqK (.bind λe4 q12=>?_))
 replace q12:=gM q12
 refine .regionW λe h=>regW.alt 2 rfl ?_
 simp only[seval,EMA]
 refine bJ rfl rfl rfl und_107 sz_4 (gB q12.1) (gY q12.2 q12.1) (regW.alt 0 rfl ?_)
 simp only[seval,EMA]
 refine eE rfl rfl (gZ q12.2) (by simp only[↓reduceIte,nA,nL,jk,ag_4,sz_4,cw,eA,SV,bV]<;>rfl) (regW.of ?_)
 simp only[seval,EMA]
 refine mU e (.cond rfl (λh8=>?_) (λh8=>?_)) h
 exact zzA
 refine .skip (Mir.toK (.sA ?_))
 refine .block (Mir.lF (λ_=>rfl) (by simp only[seval,FMA]) (by simp only[seval,FMA]) λv5=>.seqK (.seqK (Mir.jOR (λ_=>rfl) ?_ ?_)))
 refine .ite (λh9=>?_) (λh9=>?_)
 refine .bind λe5 q13=>?_
 replace q13:=gM q13
 refine .ite (λh10=>?_) (λh10=>?_)
 refine .regionW λe h=>regW.alt 6 rfl ?_
 simp only[seval,EMA,h9,h10]
 refine bJ rfl rfl rfl ld jE (gB q13.1) (gY q13.2 q13.1) (regW.alt 0 rfl ?_)
 simp only[seval,EMA,h9,h10]
 refine eE rfl rfl (gZ q13.2) (by simp only[↓reduceIte,nA,nL,jk,ag_31,jE,cw,eA,SV,bC]<;>rfl) (regW.of ?_)
 exact zzA
 refine .regionW λe h=>regW.alt 6 rfl ?_
 simp only[seval,EMA,h9,h10]
 refine bJ rfl rfl rfl ld jE (gB q13.1) (gY q13.2 q13.1) (regW.alt 0 rfl ?_)
 simp only[seval,EMA,h9,h10]
 refine eE rfl rfl (gZ q13.2) (by simp only[↓reduceIte,nA,nL,jk,ag_31,jE,cw,eA,SV,bC]<;>rfl) (regW.of ?_)
 simp only[seval,EMA,h9,h10]
 exact zzA
 exact zzA
 intro v6
 refine Mir.toK (.cond rfl (λh11=>?_) (λh11=>?_))
 refine .skip (Mir.toK (.seqK (.block (.bind λe6 q14=>?_))))
 replace q14:=gM q14
 refine .guard λq15=>.regionW λe h=>regW.alt 3 rfl ?_
 simp only[seval,EMA]
 refine bJ rfl rfl rfl ld jE (gB q14.1) (gY q14.2 q14.1) (regW.alt 0 rfl ?_)
 simp only[seval,EMA]
 refine eE rfl rfl (gZ q14.2) (by simp only[↓reduceIte,nA,nL,jk,ag_31,jE,cw,eA,SV,bC]<;>rfl) (regW.of ?_)
 exact zzA
 exact zzA
 exact zzA
 exact zzA
 exact zzA
 simp only[seval,EMA]
 refine regH.moveB (j:=14) (by kernel_rfl) rfl rfl ?_
 simp only[seval,EMA]
 refine regH.extB (j:=15) (by kernel_rfl) rfl rfl rfl rfl ?_
 simp only[seval,EMA]
 refine regH.extB (j:=16) (by kernel_rfl) rfl rfl rfl rfl ?_
 simp only[seval,EMA]
 refine regH.one (j:=17) (by kernel_rfl) rfl (regW.alt 0 rfl ?_)
 simp only[seval,EMA]
 refine bJ rfl rfl rfl ld jE (gB q3.1) (gY q3.2 q3.1) (regW.of ?_)
 simp only[seval,EMA]
 refine regH.one (j:=18) (by kernel_rfl) rfl (regW.alt 0 rfl ?_)
 simp only[seval,EMA]
 refine iC rfl rfl (gZ q3.2) rfl rfl jE rfl (zE rfl) (regW.of ?_)
 simp only[seval,EMA]
 refine regH.one (j:=19) (by kernel_rfl) rfl (regW.alt 0 rfl ?_)
 simp only[seval,EMA]
 refine bJ rfl rfl rfl und_107 sz_4 (gB q8.1) (gY q8.2 q8.1) (regW.of ?_)
 simp only[seval,EMA]
 refine regH.one (j:=20) (by kernel_rfl) rfl (regW.alt 0 rfl ?_)
 simp only[seval,EMA]
 refine iC rfl rfl (gZ q8.2) rfl rfl sz_4 rfl (zE rfl) (regW.of ?_)
 simp only[seval,EMA]
 exact regH.nil (by kernel_rfl) ⟨by first | rfl | simp only[seval,FMA,bV,bC,RMX],by first | rfl | simp only[seval,FMA,bV,bC,RMX]⟩
 exact zzA
 exact zzA
 exact zzA
 exact zzA
 exact zzA
 exact zzA
 intro v11
 refine Mir.toK (.seqK (.bind λv12 h12=>.region λe h=>WA ?_))
 refine aY.inlA h12 ?_ ?_
 refine .seqK (.regionW λe h=>regW.alt 0 rfl ?_)
 simp only[seval,EMA]
 refine kZ [.list (zA ac a0.Main),.list (zA aB a0.Subs)] _ rfl rfl (regW.of ?_)
 simp only[seval,EMA]
 refine mU e (.sA ?_) h
 refine .seqK (.sA ?_)
 refine Mir.gF rfl (Mir.jXB (λ_=>rfl) ?_ ?_)
 refine .block (.guard λq17=>Mir.rF q17 (λ_ _=>rfl) (by simp only[seval,FMA,zNI]) (by simp only[seval,FMA,zNI]) ?_ ?_)
 intro i2 e9 v13 q18
 refine .seqK (.sR λe h=>?_)
 simp only[seval,EMA,q18]
 refine mU e (.condT rfl (.skip (Mir.toK (.seqK (Mir.jXB (λ_=>rfl) ?_ ?_))))) h
 refine .block (.seqK (.bind λy4 h13=>.region λe h=>?_))
 simp only[seval,EMA,q18,zF]
 refine .byA (r43_Call_spec.1 _ h13) (mA ?_ h)
 refine .seqK (.sA ?_)
 refine .cond rfl (λh14=>?_) (λh14=>?_)
 exact zzA
 refine .skip (Mir.toK (.seqK (.bind λy5 h15=>.region λe h=>WA ?_)))
 refine .byA (r43_Find_spec.1 _ h15) (mA ?_ h)
 refine .seqK (.seqK (.bind λe10 q20=>?_))
 replace q20:=gM q20
 refine .regionW λe h=>regW.alt 2 rfl ?_
 simp only[seval,EMA]
 refine bJ rfl rfl rfl und_107 sz_4 (gB q20.1) (gY q20.2 q20.1) (regW.alt 0 rfl ?_)
 simp only[seval,EMA]
 refine eE rfl rfl (gZ q20.2) (by simp only[↓reduceIte,nA,nL,jk,ag_4,sz_4,cw,eA,SV,bV]<;>rfl) (regW.of ?_)
 simp only[seval,EMA]
 refine mU e (.cond rfl (λh16=>?_) (λh16=>?_)) h
 exact zzA
 refine .skip (Mir.toK (.sA ?_))
 refine .block (Mir.lF (λ_=>rfl) (by simp only[seval,FMA]) (by simp only[seval,FMA]) λv14=>.seqK (.seqK (Mir.jOR (λ_=>rfl) ?_ ?_)))
 refine .ite (λh17=>?_) (λh17=>?_)
 refine .bind λe11 q21=>?_
 replace q21:=gM q21
 refine .ite (λh18=>?_) (λh18=>?_)
 refine .regionW λe h=>regW.alt 6 rfl ?_
 simp only[seval,EMA,h17,h18]
 refine bJ rfl rfl rfl ld jE (gB q21.1) (gY q21.2 q21.1) (regW.alt 0 rfl ?_)
 simp only[seval,EMA,h17,h18]
 refine eE rfl rfl (gZ q21.2) (by simp only[↓reduceIte,nA,nL,jk,ag_31,jE,cw,eA,SV,bC]<;>rfl) (regW.of ?_)
 exact zzA
 refine .regionW λe h=>regW.alt 6 rfl ?_
 simp only[seval,EMA,h17,h18]
 refine bJ rfl rfl rfl ld jE (gB q21.1) (gY q21.2 q21.1) (regW.alt 0 rfl ?_)
 simp only[seval,EMA,h17,h18]
 refine eE rfl rfl (gZ q21.2) (by simp only[↓reduceIte,nA,nL,jk,ag_31,jE,cw,eA,SV,bC]<;>rfl) (regW.of ?_)
 simp only[seval,EMA,h17,h18]
 exact zzA
 exact zzA
 intro v15
 refine Mir.toK (.cond rfl (λh19=>?_) (λh19=>?_))
 refine .skip (Mir.toK (.seqK (.block (.bind λe12 q22=>?_))))
 replace q22:=gM q22
 refine .guard λq23=>.regionW λe h=>regW.alt 3 rfl ?_
 simp only[seval,EMA]
 refine bJ rfl rfl rfl ld jE (gB q22.1) (gY q22.2 q22.1) (regW.alt 0 rfl ?_)
 simp only[seval,EMA]
 refine eE rfl rfl (gZ q22.2) (by simp only[↓reduceIte,nA,nL,jk,ag_31,jE,cw,eA,SV,bC]<;>rfl) (regW.of ?_)
 exact zzA
 exact zzA
 exact zzA
 exact zzA
 exact zzA
 exact zzA
instance:Sp 16 (type_of% @lC):=⟨@lC⟩
end Go.Proofs.YtjemmjpdmbenkaaGreatDoor
