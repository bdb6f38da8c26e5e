import Derived.Test.YtphbhdoljnokkaaGreatDoorMA
open List renaming map → zA,replicate → zG
open Nat renaming le_of_ble_eq_true → zB
open Int renaming toNat → zD,tdiv → zE,toNat_natCast → zF,tmod → zH
open Option renaming map_some → zI,map_none → zJ
open Go.IntKind renaming i64 → zL,u32 → zM,u64 → zO
namespace Go.Proofs.YtphbhdoljnokkaaGreatDoor
open Go.RowKit
open Nat renaming reduceAdd → nA,reduceSub → nS,reduceMul → nM,reduceEqDiff → nE,reduceLeDiff → nL,reduceLT → nT,reduceBEq → nB
open Int renaming reduceLT → iT,reduceToNat → iN,reduceEq → iE
set_option linter.unusedVariables false
set_option linter.unusedSimpArgs false
set_option maxRecDepth 100000
set_option maxHeartbeats 8000000
def it_plus(a0:(List Int))(a1:(List Int)):Option (List Int):=ac (if (decide ((a0.length:Int)<(a1.length:Int)))=true then some (a1,a0)else some (a0,a1)) λ(v1:(List Int)×(List Int))=>jC ([dL (eInt .u32) v1.1,dL (eInt .u32) v1.2]++us 51) ⟨[],[]⟩ ( aA (decide ((0:Int)≤(zL.wrap ((v1.1.length:Int)+1)))) ( aA (cd (zD (zL.wrap ((v1.1.length:Int)+1)))) ( ac (aA (dN v1.1) ( aM (λ(i1:Nat) (e1:Int) (v2:(List Int)×Int)=>rF ([U,dL (eInt .u32) v1.2,U,U,U,.own 0 (zA (eInt .u32) v2.1),.d (.int .u32 v2.2)]++us 13++[dL (eInt .u32) v1.1,dI (v1.1.length:Int),dI (i1:Int)]++us 30) ⟨[],[(264,v2.1.length)]⟩ ( ac (if (decide ((i1:Int)<(v1.2.length:Int)))=true then ac (gt v1.2 (i1:Int)) λ(e2:Int)=>some (zM.wrap ((zM.wrap (e1+v2.2))+e2))else some (zM.wrap (e1+v2.2))) λ(v3:Int)=>jC ([U,dL (eInt .u32) v1.2,U,U,U,.own 0 (zA (eInt .u32) v2.1),U,U,.d (.int .u32 v3)]++us 11++[dL (eInt .u32) v1.1,dI (v1.1.length:Int),dI (i1:Int)]++us 30) ⟨[],[(264,v2.1.length)]⟩ ( ac (if (decide (v3≥1000000000))=true then some (1,zM.wrap (v3-1000000000))else some (0,v3)) λ(v4:Int×Int)=>jC ([U,dL (eInt .u32) v1.2,U,U,U,.own 0 (zA (eInt .u32) v2.1),.d (.int .u32 v4.1),U,.d (.int .u32 v4.2)]++us 11++[dL (eInt .u32) v1.1,dI (v1.1.length:Int),dI (i1:Int)]++us 30) ⟨[],[(264,v2.1.length)]⟩ ( aA (cd (v2.1.length+1)) ( some (.go (v2.1++[v4.2],v4.1))))))) (λ(v2:(List Int)×Int)=>some (v2.1,v2.2)) v1.1 0 ([],0))) λ(v5:(List Int)×Int)=>jB 0 ([U,U,U,U,U,.own 0 (zA (eInt .u32) v5.1),.d (.int .u32 v5.2)]++us 46) ⟨[],[(264,v5.1.length)]⟩ ( aA (cd (v5.1.length+1)) ( some (v5.1++[v5.2]))))))
theorem it_plus_spec{a0:(List Int)}{a1:(List Int)}{y:(List Int)}(h:it_plus a0 a1=some y):Spec gP 190 [.d (.list (zA (eInt .u32) a0)),.d (.list (zA (eInt .u32) a1))] (.d (.list (zA (eInt .u32) y))):=by
 refine auA Tryz.func190 (λy:(List Int)=>.d (.list (zA (eInt .u32) y))) ?_ h
 unfold it_plus
 refine .sA ?_
 refine .seqK (.sA ?_)
 refine Mir.jOC (λ_=>rfl) ?_ ?_
 exact zzA
 intro v1
 refine Mir.toK (.seqK (.guard λq3=>.guard λq4=>.regionW λe h=>regW.alt 3 rfl ?_))
 simp only[seval,EMA]
 refine alt_makeOwn rfl rfl og (ra q3) q4 (regW.of ?_)
 exact zzA
instance:Sp 190 (type_of% @it_plus_spec):=⟨@it_plus_spec⟩
def dz(a0:Bool)(a1:(List Int)):Option am:=ac (dR (λ(v1:Int)=>lF ([dB a0,dL (eInt .u32) a1,U,U,.ptr 0 0,dI v1]++us 24) ⟨[[dB false,.nil]],[]⟩ ( ac (if (decide (v1>0))=true then ac (gt a1 (zL.wrap (v1-1))) λ(e1:Int)=>some (e1==0)else some false) λ(v2:Bool)=>jR 2 ([dB a0,dL (eInt .u32) a1,U,U,.ptr 0 0,dI v1]++us 11++[dB v2]++us 12) ⟨[[dB false,.nil]],[]⟩ ( if v2=true then some (.go (zL.wrap (v1-1)))else some (.ret v1)))) fuel (a1.length:Int)) λ(v3:Int)=>jB 0 ([dB a0,dL (eInt .u32) a1,U,U,.ptr 0 0,dI v3]++us 24) ⟨[[dB false,.nil]],[]⟩ ( ac (if a0=true then ac (cutT a1 v3) λ(s1:(List Int))=>some (am.mk (decide (v3>0)) s1)else ac (cutT a1 v3) λ(s2:(List Int))=>some (am.mk false s2)) λ(v4:am)=>jR 4 ([U,U,U,U,.ptr 0 0]++us 25) ⟨[(cU v4)],[]⟩ ( some v4))
theorem io{a0:Bool}{a1:(List Int)}{y:am}(h:dz a0 a1=some y):Spec gP 189 [dB a0,.d (.list (zA (eInt .u32) a1))] (.agg [.d (.bool y.Neg),.d (.list (zA (eInt .u32) y.Limbs))]):=by
 refine auA Tryz.func189 (λy:am=>.agg [.d (.bool y.Neg),.d (.list (zA (eInt .u32) y.Limbs))]) ?_ h
 unfold dz
 refine .sA ?_
 refine .sA ?_
 refine .seqK (Mir.jOB (λ_=>rfl) ?_ ?_)
 exact zzA
 intro v3
 refine Mir.toK (.seqK (Mir.jOR (λ_=>rfl) ?_ ?_))
 refine .ite (λhb33=>?_) (λhb33=>?_)
 refine .bind λs1 q34=>?_
 replace q34:=cutT_ok q34
 exact zzA
 refine .bind λs2 q35=>?_
 replace q35:=cutT_ok q35
 exact zzA
 exact zzA
instance:Sp 189 (type_of% @io):=⟨@io⟩
def lr(a0:(List Int)):Option (List Int):=ac (dR (λ(v1:(List Int))=>lF ([dL (eInt .u32) v1]++us 20) ⟨[],[]⟩ ( ac (if (decide ((v1.length:Int)>0))=true then ac (gt v1 (zL.wrap ((v1.length:Int)-1))) λ(e1:Int)=>some (e1==0)else some false) λ(v2:Bool)=>jR 1 ([dL (eInt .u32) v1]++us 13++[dB v2]++us 6) ⟨[],[]⟩ ( if v2=true then ac (cutT v1 (zL.wrap ((v1.length:Int)-1))) λ(s1:(List Int))=>some (.go s1)else some (.ret v1)))) fuel a0) λ(v3:(List Int))=>jB 0 ([dL (eInt .u32) v3]++us 20) ⟨[],[]⟩ ( some v3)
instance mf:Sp 232 (∀{a0:(List Int)},Ct 232 [.d (.list (zA (eInt .u32) a0))] (λy:(List Int)=>.d (.list (zA (eInt .u32) y))) (lr a0)):=⟨zzF Tryz.func232 (lr.eq_1 ..)⟩
def iQ(a0:(List Int))(a1:(List Int)):Option Int:=ac (lr a0) λ(y1:(List Int))=>ac (lr a1) λ(y2:(List Int))=>if ((y1.length:Int) != (y2.length:Int))=true then if (decide ((y1.length:Int)<(y2.length:Int)))=true then some (-1)else some 1 else bindX (dR (λ(v1:Int)=>lF ([dL (eInt .u32) y1,dL (eInt .u32) y2,U,U,U,dI v1]++us 39) ⟨[],[]⟩ ( if (decide (v1≥0))=true then ac (gt y1 v1) λ(e1:Int)=>ac (gt y2 v1) λ(e2:Int)=>if (decide (e1<e2))=true then some (.ret (.ret (-1)))else if (decide (e1>e2))=true then some (.ret (.ret 1))else some (.go (zL.wrap (v1-1)))else some (.ret (.go ())))) fuel (zL.wrap ((y1.length:Int)-1))) λ(v2:Unit)=>jB 0 (us 45) ⟨[],[]⟩ ( some 0)
instance it_compare_spec:Sp 184 (∀{a0:(List Int)} {a1:(List Int)},Ct 184 [.d (.list (zA (eInt .u32) a0)),.d (.list (zA (eInt .u32) a1))] (λy:Int=>.d (.int .i64 y)) (iQ a0 a1)):=⟨zzF Tryz.func184 (iQ.eq_1 ..)⟩
def it_minus(a0:(List Int))(a1:(List Int)):Option (List Int):=aA (decide ((0:Int)≤(a0.length:Int))) ( aA (cd (zD (a0.length:Int))) ( ac (aA (dN a0) ( aM (λ(i1:Nat) (e1:Int) (v1:Int×(List Int))=>rF ([U,dL (eInt .u32) a1,U,U,U,.gr 0 0,.d (.int .u32 v1.1)]++us 6++[dL (eInt .u32) a0,dI (a0.length:Int),dI (i1:Int)]++us 28) ⟨[[.rowc 264 0 (zA (eInt .u32) v1.2)]],[]⟩ ( ac (if (decide ((i1:Int)<(a1.length:Int)))=true then ac (gt a1 (i1:Int)) λ(e2:Int)=>some (zM.wrap (v1.1+e2))else some v1.1) λ(v2:Int)=>jC ([U,dL (eInt .u32) a1,U,U,U,.gr 0 0,U,dI (i1:Int),.d (.int .u32 e1),.d (.int .u32 v2),U,U,U,dL (eInt .u32) a0,dI (a0.length:Int),dI (i1:Int)]++us 28) ⟨[[.rowc 264 0 (zA (eInt .u32) v1.2)]],[]⟩ ( ac (if (decide (e1<v2))=true then some (1,zM.wrap (e1+1000000000))else some (0,e1)) λ(v3:Int×Int)=>jC ([U,dL (eInt .u32) a1,U,U,U,.gr 0 0,.d (.int .u32 v3.1),dI (i1:Int),.d (.int .u32 v3.2),.d (.int .u32 v2),U,U,U,dL (eInt .u32) a0,dI (a0.length:Int),dI (i1:Int)]++us 28) ⟨[[.rowc 264 0 (zA (eInt .u32) v1.2)]],[]⟩ ( ac (gt v1.2 (i1:Int)) λ(e3:Int)=>some (.go (v3.1,v1.2.set (zD (i1:Int)) (zM.wrap (v3.2-v2)))))))) (λ(v1:Int×(List Int))=>some v1.2) a0 0 (0,zG (zD (a0.length:Int)) (0:Int)))) λ(v4:(List Int))=>jB 0 ([U,U,U,U,U,.gr 0 0]++us 38) ⟨[[.rowc 264 0 (zA (eInt .u32) v4)]],[]⟩ ( some v4)))
theorem it_minus_spec{a0:(List Int)}{a1:(List Int)}{y:(List Int)}(h:it_minus a0 a1=some y):Spec gP 191 [.d (.list (zA (eInt .u32) a0)),.d (.list (zA (eInt .u32) a1))] (.d (.list (zA (eInt .u32) y))):=by
 refine auA Tryz.func191 (λy:(List Int)=>.d (.list (zA (eInt .u32) y))) ?_ h
 unfold it_minus
 refine .sA ?_
 refine .seqK (.guard λq1=>.guard λq2=>.regionW λe h=>regW.alt 2 rfl ?_)
 simp only[seval,EMA]
 refine kj (en:=(eInt .u32)) (z:=0) rfl rfl og jP rfl rfl (ra q1) q2 (regW.of ?_)
 simp only[seval,EMA]
 refine mU e (.sA ?_) h
 refine .seqK (.sA ?_)
 refine Mir.jOB (λ_=>rfl) ?_ ?_
 refine .block (.guard λq3=>Mir.rF q3 (λ_ _=>rfl) (by simp only[seval,FMA,zNI]) (by simp only[seval,FMA,zNI]) ?_ ?_)
 intro i1 e1 v1 q4
 refine .sR λe h=>?_
 simp only[seval,EMA,q4]
 refine mU e (.seqK (.condT rfl (.skip (Mir.toK (.seqK (.block (.sR λe h=>?_))))))) h
 simp only[seval,EMA,q4,zF]
 refine mU e (.sA ?_) h
 refine .seqK (.sA ?_)
 refine Mir.jOC (λ_=>rfl) ?_ ?_
 exact zzA
 intro v2
 refine Mir.toK (.sA ?_)
 refine .seqK (.sA ?_)
 refine Mir.jOC (λ_=>rfl) ?_ ?_
 exact zzA
 intro v3
 refine Mir.toK (.bind λe3 q6=>?_)
 replace q6:=gq q6
 refine .regionW λe h=>regW.alt 5 rfl ?_
 simp only[seval,EMA]
 refine ci rfl rfl rfl eu bJ (fT q6.1) (fU q6.2 q6.1) (regW.alt 0 rfl ?_)
 simp only[seval,EMA]
 refine bU rfl rfl (fi q6.2) rfl rfl bJ rfl (zB rfl) (regW.of ?_)
 exact zzA
 exact zzA
 intro v4
 refine Mir.toK (.sA ?_)
 refine .frz 0 rfl ?_
 simp only[seval,us_0,us_s,xCA,xNA,and_self,and_true,true_and,and_false,false_and,SZ]
 exact zzA
instance:Sp 191 (type_of% @it_minus_spec):=⟨@it_minus_spec⟩
def oZ(a0:am)(a1:am):Option am:=if (a0.Neg==a1.Neg)=true then ac (it_plus a0.Limbs a1.Limbs) λ(y1:(List Int))=>ac (dz a0.Neg y1) λ(y2:am)=>some y2 else ac (iQ a0.Limbs a1.Limbs) λ(y3:Int)=>ac (if (decide (y3<0))=true then some (a1,a0)else some (a0,a1)) λ(v1:am×am)=>jC ([U,U,.ptr 0 0,.ptr 1 0,.ptr 2 0]++us 29) ⟨[(cU v1.1),(cU v1.2),[dB false,.nil]],[]⟩ ( ac (it_minus v1.1.Limbs v1.2.Limbs) λ(y4:(List Int))=>ac (dz v1.1.Neg y4) λ(y5:am)=>some y5)
instance it_Add_spec:Sp 112 (∀{a0:am} {a1:am},Ct 112 [.agg (cU a0),.agg (cU a1)] (λy:am=>.agg [.d (.bool y.Neg),.d (.list (zA (eInt .u32) y.Limbs))]) (oZ a0 a1)):=⟨zzF Tryz.func112 (oZ.eq_1 ..)⟩
def it_Neg(a0:am):Option am:=aA (cd (a0.Limbs.length)) ( ac (dz (!a0.Neg) a0.Limbs) λ(y1:am)=>some y1)
instance it_Neg_spec:Sp 185 (∀{a0:am},Ct 185 [.agg (cU a0)] (λy:am=>.agg [.d (.bool y.Neg),.d (.list (zA (eInt .u32) y.Limbs))]) (it_Neg a0)):=⟨zzF Tryz.func185 (it_Neg.eq_1 ..)⟩
def kE(a0:(List Int))(a1:(List Int)):Option (List Int):=aA (decide ((0:Int)≤(zL.wrap ((a0.length:Int)+(a1.length:Int))))) ( aA (cd (zD (zL.wrap ((a0.length:Int)+(a1.length:Int))))) ( ac (aA (dN a0) ( aM (λ(i1:Nat) (e1:Int) (v1:(List Int))=>rF ([U,dL (eInt .u32) a1,U,U,U,.gr 0 0]++us 12++[dL (eInt .u32) a0,dI (a0.length:Int),dI (i1:Int)]++us 47) ⟨[[.rowc 264 0 (zA (eInt .u32) v1)]],[]⟩ ( ac (ac (aA (dN a1) ( aM (λ(i2:Nat) (e2:Int) (v2:Int×(List Int))=>rF ([U,dL (eInt .u32) a1,U,U,U,.gr 0 0,dI (i1:Int),.d (.int .u32 e1),.d (.int .u64 v2.1)]++us 9++[dL (eInt .u32) a0,dI (a0.length:Int),dI (i1:Int),U,U,U,U,dL (eInt .u32) a1,dI (a1.length:Int),dI (i2:Int)]++us 40) ⟨[[.rowc 264 0 (zA (eInt .u32) v2.2)]],[]⟩ ( ac (gt v2.2 (zL.wrap ((i1:Int)+(i2:Int)))) λ(e3:Int)=>ac (gt v2.2 (zL.wrap ((i1:Int)+(i2:Int)))) λ(e4:Int)=>some (.go (zO.wrap (zE (zO.wrap ((zO.wrap ((zO.wrap e3)+(zO.wrap ((zO.wrap e1)*(zO.wrap e2)))))+v2.1)) 1000000000),v2.2.set (zD (zL.wrap ((i1:Int)+(i2:Int)))) (zM.wrap (zH (zO.wrap ((zO.wrap ((zO.wrap e3)+(zO.wrap ((zO.wrap e1)*(zO.wrap e2)))))+v2.1)) 1000000000)))))) (λ(v2:Int×(List Int))=>some (v2.1,v2.2)) a1 0 (0,v1))) λ(v3:Int×(List Int))=>jB 2 ([U,dL (eInt .u32) a1,U,U,U,.gr 0 0,dI (i1:Int),U,.d (.int .u64 v3.1)]++us 9++[dL (eInt .u32) a0,dI (a0.length:Int),dI (i1:Int)]++us 47) ⟨[[.rowc 264 0 (zA (eInt .u32) v3.2)]],[]⟩ ( ac (gt v3.2 (zL.wrap ((i1:Int)+(a1.length:Int)))) λ(e5:Int)=>some (v3.2.set (zD (zL.wrap ((i1:Int)+(a1.length:Int)))) (zM.wrap v3.1)))) λ(v4:(List Int))=>jB 1 ([U,dL (eInt .u32) a1,U,U,U,.gr 0 0]++us 12++[dL (eInt .u32) a0,dI (a0.length:Int),dI (i1:Int)]++us 47) ⟨[[.rowc 264 0 (zA (eInt .u32) v4)]],[]⟩ ( some (.go v4)))) (λ(v1:(List Int))=>some v1) a0 0 (zG (zD (zL.wrap ((a0.length:Int)+(a1.length:Int)))) (0:Int)))) λ(v5:(List Int))=>jB 0 ([U,U,U,U,U,.gr 0 0]++us 62) ⟨[[.rowc 264 0 (zA (eInt .u32) v5)]],[]⟩ ( some v5)))
theorem nO{a0:(List Int)}{a1:(List Int)}{y:(List Int)}(h:kE a0 a1=some y):Spec gP 192 [.d (.list (zA (eInt .u32) a0)),.d (.list (zA (eInt .u32) a1))] (.d (.list (zA (eInt .u32) y))):=by
 refine auA Tryz.func192 (λy:(List Int)=>.d (.list (zA (eInt .u32) y))) ?_ h
 unfold kE
 refine .sA ?_
 refine .seqK (.guard λq1=>.guard λq2=>.regionW λe h=>regW.alt 5 rfl ?_)
 simp only[seval,EMA]
 refine kj (en:=(eInt .u32)) (z:=0) rfl rfl og jP rfl rfl (ra q1) q2 (regW.of ?_)
 simp only[seval,EMA]
 refine mU e (.seqK (.sA ?_)) h
 refine Mir.jOB (λ_=>rfl) ?_ ?_
 refine .block (.guard λq3=>Mir.rF q3 (λ_ _=>rfl) (by simp only[seval,FMA,zNI]) (by simp only[seval,FMA,zNI]) ?_ ?_)
 intro i1 e1 v1 q4
 refine .sR λe h=>?_
 simp only[seval,EMA,q4]
 refine mU e (.seqK (.condT rfl (.skip (Mir.toK (.seqK (Mir.jOB (λ_=>rfl) ?_ ?_)))))) h
 refine .block (.sR λe h=>?_)
 simp only[seval,EMA,q4,zF]
 refine mU e (.sA ?_) h
 refine .seqK (.sA ?_)
 refine Mir.jOB (λ_=>rfl) ?_ ?_
 refine .block (.guard λq5=>Mir.rF q5 (λ_ _=>rfl) (by simp only[seval,FMA,zNI]) (by simp only[seval,FMA,zNI]) ?_ ?_)
 intro i2 e2 v2 q6
 refine .sR λe h=>?_
 simp only[seval,EMA,q6]
 refine mU e (.seqK (.condT rfl (.skip (Mir.toK (.seqK (.block (.sR λe h=>?_))))))) h
 simp only[seval,EMA,q6,zF]
 refine mU e (.seqK (.bind λe3 q7=>?_)) h
 replace q7:=gq q7
 refine .regionW λe h=>regW.alt 4 rfl ?_
 simp only[seval,EMA]
 refine ci rfl rfl rfl eu bJ (fT q7.1) (fU q7.2 q7.1) (regW.alt 0 rfl ?_)
 simp only[seval,EMA]
 refine pl rfl rfl (fi q7.2) (by simp only[↓reduceIte,nA,nL,mo,ag_264,bJ,fR,iS,SV,eInt]<;>rfl) (regW.of ?_)
 simp only[seval,EMA]
 refine mU e (.bind λe4 q8=>?_) h
 replace q8:=gq q8
 refine .regionW λe h=>regW.alt 9 rfl ?_
 simp only[seval,EMA]
 refine ci rfl rfl rfl eu bJ (fT q8.1) (fU q8.2 q8.1) (regW.alt 0 rfl ?_)
 simp only[seval,EMA]
 refine bU rfl rfl (fi q8.2) rfl rfl bJ rfl (zB rfl) (regW.of ?_)
 exact zzA
 exact zzA
 intro v3
 refine Mir.toK (.bind λe5 q10=>?_)
 replace q10:=gq q10
 refine .regionW λe h=>regW.alt 7 rfl ?_
 simp only[seval,EMA]
 refine ci rfl rfl rfl eu bJ (fT q10.1) (fU q10.2 q10.1) (regW.alt 0 rfl ?_)
 simp only[seval,EMA]
 refine bU rfl rfl (fi q10.2) rfl rfl bJ rfl (zB rfl) (regW.of ?_)
 exact zzA
 exact zzA
 exact zzA
 intro v5
 refine Mir.toK (.sA ?_)
 refine .frz 0 rfl ?_
 simp only[seval,us_0,us_s,xCA,xNA,and_self,and_true,true_and,and_false,false_and,SZ]
 exact zzA
instance:Sp 192 (type_of% @nO):=⟨@nO⟩
def fW(a0:am)(a1:am):Option am:=ac (kE a0.Limbs a1.Limbs) λ(y1:(List Int))=>ac (dz (!(a0.Neg==a1.Neg)) y1) λ(y2:am)=>some y2
instance it_Mul_spec:Sp 113 (∀{a0:am} {a1:am},Ct 113 [.agg (cU a0),.agg (cU a1)] (λy:am=>.agg [.d (.bool y.Neg),.d (.list (zA (eInt .u32) y.Limbs))]) (fW a0 a1)):=⟨zzF Tryz.func113 (fW.eq_1 ..)⟩
def mO(a0:(List Int))(a1:Int):Option ((List Int)×(List Int)):=aA (decide ((0:Int)≤(a0.length:Int))) ( aA (cd (zD (a0.length:Int))) ( ac (dR (λ(v1:Int×Int×(List Int))=>lF ([dL (eInt .u32) a0,.d (.int .u32 a1),U,U,U,U,.gr 0 0,.d (.int .u64 v1.1),dI v1.2.1]++us 35) ⟨[[.rowc 264 0 (zA (eInt .u32) v1.2.2)]],[]⟩ ( if (decide (v1.2.1≥0))=true then ac (gt a0 v1.2.1) λ(e1:Int)=>aA (!((zO.wrap a1)==0)) ( aA (!((zO.wrap a1)==0)) ( ac (gt v1.2.2 v1.2.1) λ(e2:Int)=>some (.go (zH (zO.wrap ((zO.wrap (v1.1*1000000000))+(zO.wrap e1))) (zO.wrap a1),zL.wrap (v1.2.1-1),v1.2.2.set (zD v1.2.1) (zM.wrap (zO.wrap (zE (zO.wrap ((zO.wrap (v1.1*1000000000))+(zO.wrap e1))) (zO.wrap a1))))))))else some (.ret (v1.1,v1.2.2)))) fuel (0,zL.wrap ((a0.length:Int)-1),zG (zD (a0.length:Int)) (0:Int))) λ(v2:Int×(List Int))=>jB 0 (us 6++[.gr 0 0,.d (.int .u64 v2.1)]++us 36) ⟨[[.rowc 264 0 (zA (eInt .u32) v2.2)]],[]⟩ ( some (v2.2,[zM.wrap v2.1]))))
theorem mr{a0:(List Int)}{a1:Int}{y:(List Int)×(List Int)}(h:mO a0 a1=some y):Spec gP 270 [.d (.list (zA (eInt .u32) a0)),.d (.int .u32 a1)] (.tuple [.d (.list (zA (eInt .u32) y.1)),.d (.list (zA (eInt .u32) y.2))]):=by
 refine auA Tryz.func270 (λy:(List Int)×(List Int)=>.tuple [.d (.list (zA (eInt .u32) y.1)),.d (.list (zA (eInt .u32) y.2))]) ?_ h
 unfold mO
 refine .sA ?_
 refine .seqK (.guard λq1=>.guard λq2=>.regionW λe h=>regW.alt 2 rfl ?_)
 simp only[seval,EMA]
 refine kj (en:=(eInt .u32)) (z:=0) rfl rfl og jP rfl rfl (ra q1) q2 (regW.of ?_)
 simp only[seval,EMA]
 refine mU e (.sA ?_) h
 refine .seqK (.sA ?_)
 refine Mir.jOB (λ_=>rfl) ?_ ?_
 refine .block (Mir.lF (λ_=>rfl) (by simp only[seval,FMA]) (by simp only[seval,FMA]) λv1=>.seqK (.sA ?_))
 refine .cond rfl (λhb54=>?_) (λhb54=>?_)
 refine .skip (Mir.toK (.seqK (.block (.seqK (.bind λe1 q59=>?_)))))
 replace q59:=gq q59
 refine .region λe h=>?_
 simp only[seval,EMA,q59]
 refine mU e (.guard λq60=>?_) h
 replace q60:=ne_of q60
 refine .guard λq61=>?_
 replace q61:=ne_of q61
 refine .bind λe2 q62=>?_
 replace q62:=gq q62
 refine Mir.regionA 0 [] ([dL (eInt .u32) a0,.d (.int .u32 a1),U,U,U,U,.gr 0 0,.d (.int .u64 (zH (zO.wrap ((zO.wrap (v1.1*1000000000))+(zO.wrap e1))) (zO.wrap a1))),dI v1.2.1,.d (.int .u64 (zO.wrap ((zO.wrap (v1.1*1000000000))+(zO.wrap e1))))]++us 6++[dI v1.2.1,dB (decide (v1.2.1≥0)),U,U,.d (.int .u64 v1.1),.d (.int .u64 (zO.wrap (v1.1*1000000000))),dL (eInt .u32) a0,dI v1.2.1,.iptr [.int .u32 e1] 0,.d (.int .u32 e1),.d (.int .u64 (zO.wrap e1)),.d (.int .u64 (zO.wrap ((zO.wrap (v1.1*1000000000))+(zO.wrap e1)))),.gr 0 0,dI v1.2.1,.d (.int .u64 (zO.wrap ((zO.wrap (v1.1*1000000000))+(zO.wrap e1)))),.d (.int .u32 a1),.d (.int .u64 (zO.wrap a1)),.d (.int .u64 (zO.wrap (zE (zO.wrap ((zO.wrap (v1.1*1000000000))+(zO.wrap e1))) (zO.wrap a1)))),.d (.int .u32 (zM.wrap (zO.wrap (zE (zO.wrap ((zO.wrap (v1.1*1000000000))+(zO.wrap e1))) (zO.wrap a1))))),.d (.int .u64 (zO.wrap ((zO.wrap (v1.1*1000000000))+(zO.wrap e1)))),.d (.int .u32 a1),.d (.int .u64 (zO.wrap a1)),.d (.int .u64 (zH (zO.wrap ((zO.wrap (v1.1*1000000000))+(zO.wrap e1))) (zO.wrap a1))),.gp 0 0 (zD v1.2.1) 0]++us 4) ⟨[[.rowc 264 0 (zA (eInt .u32) (v1.2.2.set (zD v1.2.1) (zM.wrap (zO.wrap (zE (zO.wrap ((zO.wrap (v1.1*1000000000))+(zO.wrap e1))) (zO.wrap a1))))))]],[]⟩ (by kernel_rfl) (λe h=>?_) (λe h=>?_)
 simp only[seval,EMA,SB]
 refine regA.pureB (j:=1) (d:=29) (by kernel_rfl) rfl rfl (by kernel_rfl) rfl rfl (zB rfl) ?_
 simp only[seval,EMA]
 refine⟨rfl,?_⟩
 refine regA.pureB (j:=2) (d:=30) (by kernel_rfl) rfl rfl (by kernel_rfl) rfl rfl (zB rfl) ?_
 simp only[seval,EMA]
 refine⟨rfl,?_⟩
 refine regA.pureB (j:=3) (d:=31) (by kernel_rfl) rfl rfl (by kernel_rfl) rfl rfl (zB rfl) ?_
 simp only[seval,EMA]
 refine⟨rfl,?_⟩
 refine regA.pureB (j:=4) (d:=32) (by kernel_rfl) rfl rfl (by kernel_rfl) rfl rfl (zB rfl) ?_
 simp only[seval,EMA]
 refine⟨rfl,?_⟩
 refine regA.pureB (j:=7) (d:=35) (by kernel_rfl) rfl rfl (by kernel_rfl) rfl rfl (zB rfl) ?_
 simp only[seval,EMA]
 refine⟨rfl,?_⟩
 refine regA.pureB (j:=8) (d:=36) (by kernel_rfl) rfl rfl (by kernel_rfl) rfl rfl (zB rfl) ?_
 simp only[seval,EMA]
 refine⟨rfl,?_⟩
 refine regA.pureB (j:=9) (d:=37) (by kernel_rfl) rfl rfl (by kernel_rfl) rfl rfl (zB rfl) ?_
 simp only[seval,EMA]
 refine⟨rfl,?_⟩
 refine regA.three (j:=0) (k:=5) (l:=10) (by kernel_rfl) rfl rfl rfl ?_ ?_ ?_
 refine regW.of ?_
 simp only[seval,EMA]
 refine regA.two (j:=5) (k:=10) (by kernel_rfl) rfl rfl ?_ ?_
 refine regW.of ?_
 simp only[seval,EMA,q60]
 refine regA.pureB (j:=6) (d:=34) (by kernel_rfl) rfl rfl (by kernel_rfl) rfl rfl (zB rfl) ?_
 simp only[seval,EMA]
 refine⟨rfl,?_⟩
 refine regA.two (j:=10) (k:=11) (by kernel_rfl) rfl rfl ?_ ?_
 refine regW.of ?_
 simp only[seval,EMA,q61]
 refine regA.one (j:=11) (by kernel_rfl) rfl (regW.alt 0 rfl ?_)
 simp only[seval,EMA]
 refine ci rfl rfl rfl eu bJ (fT q62.1) (fU q62.2 q62.1) (regW.of ?_)
 simp only[seval,EMA]
 refine regA.one (j:=12) (by kernel_rfl) rfl (regW.alt 0 rfl ?_)
 simp only[seval,EMA]
 refine bU rfl rfl (fi q62.2) rfl rfl bJ rfl (zB rfl) (regW.of ?_)
 simp only[seval,EMA]
 refine regA.pureB (j:=13) (d:=7) (by kernel_rfl) rfl rfl (by kernel_rfl) rfl rfl (zB rfl) ?_
 simp only[seval,EMA]
 refine⟨rfl,?_⟩
 exact regA.nil (by kernel_rfl) ⟨by first | rfl | simp only[seval,FMA,eInt,RMX],by first | rfl | simp only[seval,FMA,eInt,RMX]⟩
 refine regW.alt 0 rfl ?_
 simp only[seval,EMA]
 refine ci rfl rfl rfl eu bJ (fT q62.1) (fU q62.2 q62.1) (regW.of ?_)
 simp only[seval,EMA]
 refine regA.two (j:=10) (k:=12) (by kernel_rfl) rfl rfl ?_ ?_
 refine regW.of ?_
 simp only[seval,EMA,q61]
 refine regA.one (j:=12) (by kernel_rfl) rfl (regW.alt 0 rfl ?_)
 simp only[seval,EMA]
 refine bU rfl rfl (fi q62.2) rfl rfl bJ rfl (zB rfl) (regW.of ?_)
 simp only[seval,EMA]
 refine regA.pureB (j:=13) (d:=7) (by kernel_rfl) rfl rfl (by kernel_rfl) rfl rfl (zB rfl) ?_
 simp only[seval,EMA]
 refine⟨rfl,?_⟩
 exact regA.nil (by kernel_rfl) ⟨by first | rfl | simp only[seval,FMA,eInt,RMX],by first | rfl | simp only[seval,FMA,eInt,RMX]⟩
 refine regW.alt 0 rfl ?_
 simp only[seval,EMA]
 refine bU rfl rfl (fi q62.2) rfl rfl bJ rfl (zB rfl) (regW.of ?_)
 simp only[seval,EMA]
 refine regA.one (j:=10) (by kernel_rfl) rfl (regW.of ?_)
 simp only[seval,EMA,q61]
 refine regA.pureB (j:=13) (d:=7) (by kernel_rfl) rfl rfl (by kernel_rfl) rfl rfl (zB rfl) ?_
 simp only[seval,EMA]
 refine⟨rfl,?_⟩
 exact regA.nil (by kernel_rfl) ⟨by first | rfl | simp only[seval,FMA,eInt,RMX],by first | rfl | simp only[seval,FMA,eInt,RMX]⟩
 refine regW.of ?_
 simp only[seval,EMA,q61]
 refine regA.one (j:=5) (by kernel_rfl) rfl (regW.of ?_)
 simp only[seval,EMA,q60]
 refine regA.pureB (j:=6) (d:=34) (by kernel_rfl) rfl rfl (by kernel_rfl) rfl rfl (zB rfl) ?_
 simp only[seval,EMA]
 refine⟨rfl,?_⟩
 refine regA.one (j:=11) (by kernel_rfl) rfl (regW.alt 0 rfl ?_)
 simp only[seval,EMA]
 refine ci rfl rfl rfl eu bJ (fT q62.1) (fU q62.2 q62.1) (regW.of ?_)
 simp only[seval,EMA]
 refine regA.one (j:=12) (by kernel_rfl) rfl (regW.alt 0 rfl ?_)
 simp only[seval,EMA]
 refine bU rfl rfl (fi q62.2) rfl rfl bJ rfl (zB rfl) (regW.of ?_)
 simp only[seval,EMA]
 refine regA.pureB (j:=13) (d:=7) (by kernel_rfl) rfl rfl (by kernel_rfl) rfl rfl (zB rfl) ?_
 simp only[seval,EMA]
 refine⟨rfl,?_⟩
 exact regA.nil (by kernel_rfl) ⟨by first | rfl | simp only[seval,FMA,eInt,RMX],by first | rfl | simp only[seval,FMA,eInt,RMX]⟩
 refine regW.of ?_
 simp only[seval,EMA,q60]
 refine regA.pureB (j:=6) (d:=34) (by kernel_rfl) rfl rfl (by kernel_rfl) rfl rfl (zB rfl) ?_
 simp only[seval,EMA]
 refine⟨rfl,?_⟩
 refine regA.two (j:=0) (k:=10) (by kernel_rfl) rfl rfl ?_ ?_
 refine regW.of ?_
 simp only[seval,EMA]
 refine regA.two (j:=10) (k:=11) (by kernel_rfl) rfl rfl ?_ ?_
 refine regW.of ?_
 simp only[seval,EMA,q61]
 refine regA.one (j:=11) (by kernel_rfl) rfl (regW.alt 0 rfl ?_)
 simp only[seval,EMA]
 refine ci rfl rfl rfl eu bJ (fT q62.1) (fU q62.2 q62.1) (regW.of ?_)
 simp only[seval,EMA]
 refine regA.one (j:=12) (by kernel_rfl) rfl (regW.alt 0 rfl ?_)
 simp only[seval,EMA]
 refine bU rfl rfl (fi q62.2) rfl rfl bJ rfl (zB rfl) (regW.of ?_)
 simp only[seval,EMA]
 refine regA.pureB (j:=13) (d:=7) (by kernel_rfl) rfl rfl (by kernel_rfl) rfl rfl (zB rfl) ?_
 simp only[seval,EMA]
 refine⟨rfl,?_⟩
 exact regA.nil (by kernel_rfl) ⟨by first | rfl | simp only[seval,FMA,eInt,RMX],by first | rfl | simp only[seval,FMA,eInt,RMX]⟩
 refine regW.alt 0 rfl ?_
 simp only[seval,EMA]
 refine ci rfl rfl rfl eu bJ (fT q62.1) (fU q62.2 q62.1) (regW.of ?_)
 simp only[seval,EMA]
 refine regA.two (j:=10) (k:=12) (by kernel_rfl) rfl rfl ?_ ?_
 refine regW.of ?_
 simp only[seval,EMA,q61]
 refine regA.one (j:=12) (by kernel_rfl) rfl (regW.alt 0 rfl ?_)
 simp only[seval,EMA]
 refine bU rfl rfl (fi q62.2) rfl rfl bJ rfl (zB rfl) (regW.of ?_)
 simp only[seval,EMA]
 refine regA.pureB (j:=13) (d:=7) (by kernel_rfl) rfl rfl (by kernel_rfl) rfl rfl (zB rfl) ?_
 simp only[seval,EMA]
 refine⟨rfl,?_⟩
 exact regA.nil (by kernel_rfl) ⟨by first | rfl | simp only[seval,FMA,eInt,RMX],by first | rfl | simp only[seval,FMA,eInt,RMX]⟩
 refine regW.alt 0 rfl ?_
 simp only[seval,EMA]
 refine bU rfl rfl (fi q62.2) rfl rfl bJ rfl (zB rfl) (regW.of ?_)
 simp only[seval,EMA]
 refine regA.one (j:=10) (by kernel_rfl) rfl (regW.of ?_)
 simp only[seval,EMA,q61]
 refine regA.pureB (j:=13) (d:=7) (by kernel_rfl) rfl rfl (by kernel_rfl) rfl rfl (zB rfl) ?_
 simp only[seval,EMA]
 refine⟨rfl,?_⟩
 exact regA.nil (by kernel_rfl) ⟨by first | rfl | simp only[seval,FMA,eInt,RMX],by first | rfl | simp only[seval,FMA,eInt,RMX]⟩
 refine regW.of ?_
 simp only[seval,EMA,q61]
 refine regA.one (j:=0) (by kernel_rfl) rfl (regW.of ?_)
 simp only[seval,EMA]
 refine regA.one (j:=11) (by kernel_rfl) rfl (regW.alt 0 rfl ?_)
 simp only[seval,EMA]
 refine ci rfl rfl rfl eu bJ (fT q62.1) (fU q62.2 q62.1) (regW.of ?_)
 simp only[seval,EMA]
 refine regA.one (j:=12) (by kernel_rfl) rfl (regW.alt 0 rfl ?_)
 simp only[seval,EMA]
 refine bU rfl rfl (fi q62.2) rfl rfl bJ rfl (zB rfl) (regW.of ?_)
 simp only[seval,EMA]
 refine regA.pureB (j:=13) (d:=7) (by kernel_rfl) rfl rfl (by kernel_rfl) rfl rfl (zB rfl) ?_
 simp only[seval,EMA]
 refine⟨rfl,?_⟩
 exact regA.nil (by kernel_rfl) ⟨by first | rfl | simp only[seval,FMA,eInt,RMX],by first | rfl | simp only[seval,FMA,eInt,RMX]⟩
 refine regW.of ?_
 simp only[seval,EMA,q61]
 refine regA.two (j:=0) (k:=5) (by kernel_rfl) rfl rfl ?_ ?_
 refine regW.of ?_
 simp only[seval,EMA]
 refine regA.one (j:=5) (by kernel_rfl) rfl (regW.of ?_)
 simp only[seval,EMA,q60]
 refine regA.pureB (j:=6) (d:=34) (by kernel_rfl) rfl rfl (by kernel_rfl) rfl rfl (zB rfl) ?_
 simp only[seval,EMA]
 refine⟨rfl,?_⟩
 refine regA.one (j:=11) (by kernel_rfl) rfl (regW.alt 0 rfl ?_)
 simp only[seval,EMA]
 refine ci rfl rfl rfl eu bJ (fT q62.1) (fU q62.2 q62.1) (regW.of ?_)
 simp only[seval,EMA]
 refine regA.one (j:=12) (by kernel_rfl) rfl (regW.alt 0 rfl ?_)
 simp only[seval,EMA]
 refine bU rfl rfl (fi q62.2) rfl rfl bJ rfl (zB rfl) (regW.of ?_)
 simp only[seval,EMA]
 refine regA.pureB (j:=13) (d:=7) (by kernel_rfl) rfl rfl (by kernel_rfl) rfl rfl (zB rfl) ?_
 simp only[seval,EMA]
 refine⟨rfl,?_⟩
 exact regA.nil (by kernel_rfl) ⟨by first | rfl | simp only[seval,FMA,eInt,RMX],by first | rfl | simp only[seval,FMA,eInt,RMX]⟩
 refine regW.of ?_
 simp only[seval,EMA,q60]
 refine regA.pureB (j:=6) (d:=34) (by kernel_rfl) rfl rfl (by kernel_rfl) rfl rfl (zB rfl) ?_
 simp only[seval,EMA]
 refine⟨rfl,?_⟩
 refine regA.one (j:=0) (by kernel_rfl) rfl (regW.of ?_)
 simp only[seval,EMA]
 refine regA.one (j:=11) (by kernel_rfl) rfl (regW.alt 0 rfl ?_)
 simp only[seval,EMA]
 refine ci rfl rfl rfl eu bJ (fT q62.1) (fU q62.2 q62.1) (regW.of ?_)
 simp only[seval,EMA]
 refine regA.one (j:=12) (by kernel_rfl) rfl (regW.alt 0 rfl ?_)
 simp only[seval,EMA]
 refine bU rfl rfl (fi q62.2) rfl rfl bJ rfl (zB rfl) (regW.of ?_)
 simp only[seval,EMA]
 refine regA.pureB (j:=13) (d:=7) (by kernel_rfl) rfl rfl (by kernel_rfl) rfl rfl (zB rfl) ?_
 simp only[seval,EMA]
 refine⟨rfl,?_⟩
 exact regA.nil (by kernel_rfl) ⟨by first | rfl | simp only[seval,FMA,eInt,RMX],by first | rfl | simp only[seval,FMA,eInt,RMX]⟩
 exact zzA
 exact zzA
 intro v2
 refine Mir.toK (.sR λe h=>?_)
 simp only[seval,EMA,(oL 1)]
 refine mU e (.frz 0 rfl ?_) h
 simp only[seval,us_0,us_s,xCA,xNA,and_self,and_true,true_and,and_false,false_and,SZ]
 exact zzA
instance:Sp 270 (type_of% @mr):=⟨@mr⟩
theorem it_times_specZ{a0:(List Int)}{a1:(List Int)}{y:(List Int)}(h:kE a0 a1=some y):SpecZ gP 192 [dL (eInt .u32) a0,dL (eInt .u32) a1] 264 (zA (eInt .u32) y) (λx=>x):=by
 refine specZ_mir Tryz.func192 rfl (by kernel_rfl) (by kernel_rfl) (λy:(List Int)=>zA (eInt .u32) y) (λy:(List Int)=>λx=>x) (ctx_id) (sc_map (λ_=>rfl) _) ?_ h
 unfold kE
 simp only[zG,List.length,nS,nA,Tryz.ntmps192,SV]
 refine .sA ?_
 refine .seqK (.guard λq1=>.guard λq2=>.regionW λe h=>regW.alt 5 rfl ?_)
 simp only[seval,EMA]
 refine kj (en:=(eInt .u32)) (z:=0) rfl rfl og jP rfl rfl (ra q1) q2 (regW.of ?_)
 simp only[seval,EMA]
 refine mU e (.seqK (.sA ?_)) h
 refine Mir.jOB (λ_=>rfl) ?_ ?_
 refine .block (.guard λq3=>Mir.rF q3 (λ_ _=>rfl) (by simp only[seval,FMA,zNI]) (by simp only[seval,FMA,zNI]) ?_ ?_)
 intro i1 e1 v1 q4
 refine .sR λe h=>?_
 simp only[seval,EMA,q4]
 refine mU e (.seqK (.condT rfl (.skip (Mir.toK (.seqK (Mir.jOB (λ_=>rfl) ?_ ?_)))))) h
 refine .block (.sR λe h=>?_)
 simp only[seval,EMA,q4,zF]
 refine mU e (.sA ?_) h
 refine .seqK (.sA ?_)
 refine Mir.jOB (λ_=>rfl) ?_ ?_
 refine .block (.guard λq5=>Mir.rF q5 (λ_ _=>rfl) (by simp only[seval,FMA,zNI]) (by simp only[seval,FMA,zNI]) ?_ ?_)
 intro i2 e2 v2 q6
 refine .sR λe h=>?_
 simp only[seval,EMA,q6]
 refine mU e (.seqK (.condT rfl (.skip (Mir.toK (.seqK (.block (.sR λe h=>?_))))))) h
 simp only[seval,EMA,q6,zF]
 refine mU e (.seqK (.bind λe3 q7=>?_)) h
 replace q7:=gq q7
 refine .regionW λe h=>regW.alt 4 rfl ?_
 simp only[seval,EMA]
 refine ci rfl rfl rfl eu bJ (fT q7.1) (fU q7.2 q7.1) (regW.alt 0 rfl ?_)
 simp only[seval,EMA]
 refine pl rfl rfl (fi q7.2) (by simp only[↓reduceIte,nA,nL,mo,ag_264,bJ,fR,iS,SV,eInt]<;>rfl) (regW.of ?_)
 simp only[seval,EMA]
 refine mU e (.bind λe4 q8=>?_) h
 replace q8:=gq q8
 refine .regionW λe h=>regW.alt 9 rfl ?_
 simp only[seval,EMA]
 refine ci rfl rfl rfl eu bJ (fT q8.1) (fU q8.2 q8.1) (regW.alt 0 rfl ?_)
 simp only[seval,EMA]
 refine bU rfl rfl (fi q8.2) rfl rfl bJ rfl (zB rfl) (regW.of ?_)
 exact zzA
 exact zzA
 intro v3
 refine Mir.toK (.bind λe5 q10=>?_)
 replace q10:=gq q10
 refine .regionW λe h=>regW.alt 7 rfl ?_
 simp only[seval,EMA]
 refine ci rfl rfl rfl eu bJ (fT q10.1) (fU q10.2 q10.1) (regW.alt 0 rfl ?_)
 simp only[seval,EMA]
 refine bU rfl rfl (fi q10.2) rfl rfl bJ rfl (zB rfl) (regW.of ?_)
 exact zzA
 exact zzA
 exact zzA
 intro v5
 refine Mir.toK (.sA ?_)
 refine .ret λe h=>?_
 cases h
 simp only[seval,FMA,fz_r,fz_n]
 exact zr_gr 0 0 rfl rfl
def mN(a0:(List Int))(a1:(List Int)):Option ((List Int)×(List Int)):=ac (lr a0) λ(y1:(List Int))=>ac (lr a1) λ(y2:(List Int))=>if ((y2.length:Int)==1)=true then ac (gt y2 0) λ(e1:Int)=>ac (mO y1 e1) λ(y3:(List Int)×(List Int))=>some (y3.1,y3.2)else ac (iQ y1 y2) λ(y4:Int)=>if (decide (y4<0))=true then aA (cd (y1.length)) ( some ([],y1))else ac (gt y2 (zL.wrap ((y2.length:Int)-1))) λ(e2:Int)=>aA (!((zO.wrap ((zO.wrap e2)+1))==0)) ( ac (kE y1 [zM.wrap (zO.wrap (zE 1000000000 (zO.wrap ((zO.wrap e2)+1))))]) λ(y5:(List Int))=>aA (cd (y5.length+1)) ( ac (kE y2 [zM.wrap (zO.wrap (zE 1000000000 (zO.wrap ((zO.wrap e2)+1))))]) λ(y6:(List Int))=>ac (lr y6) λ(y7:(List Int))=>aA (decide ((0:Int)≤(zL.wrap (((y5.length+1:Nat):Int)-(y2.length:Int))))) ( aA (cd (zD (zL.wrap (((y5.length+1:Nat):Int)-(y2.length:Int))))) ( ac (dR (λ(v1:Int×(List Int)×(List Int))=>lF (us 6++[dI (y2.length:Int),.d (.int .u32 (zM.wrap (zO.wrap (zE 1000000000 (zO.wrap ((zO.wrap e2)+1)))))),.gr 0 1,dL (eInt .u32) y7,.gr 1 0,dI v1.1]++us 167) ⟨[[.rowc 264 1 (zA (eInt .u32) v1.2.1)],[.rowc 264 0 (zA (eInt .u32) v1.2.2)]],[]⟩ ( if (decide (v1.1≥0))=true then ac (ac (gt v1.2.1 (zL.wrap (v1.1+(y2.length:Int)))) λ(e3:Int)=>ac (gt v1.2.1 (zL.wrap ((zL.wrap (v1.1+(y2.length:Int)))-1))) λ(e4:Int)=>ac (gt y7 (zL.wrap ((y2.length:Int)-1))) λ(e5:Int)=>aA (!((zO.wrap e5)==0)) ( aA (!((zO.wrap e5)==0)) ( ac (dR (λ(v2:Int×Int)=>lF (us 6++[dI (y2.length:Int),.d (.int .u32 (zM.wrap (zO.wrap (zE 1000000000 (zO.wrap ((zO.wrap e2)+1)))))),.gr 0 1,dL (eInt .u32) y7,.gr 1 0,dI v1.1,U,.d (.int .u64 v2.1),.d (.int .u64 v2.2)]++us 164) ⟨[[.rowc 264 1 (zA (eInt .u32) v1.2.1)],[.rowc 264 0 (zA (eInt .u32) v1.2.2)]],[]⟩ ( ac (if (decide (v2.1≥1000000000))=true then some true else ac (gt y7 (zL.wrap ((y2.length:Int)-2))) λ(e6:Int)=>ac (gt v1.2.1 (zL.wrap ((zL.wrap (v1.1+(y2.length:Int)))-2))) λ(e7:Int)=>some (decide ((zO.wrap (v2.1*(zO.wrap e6)))>(zO.wrap ((zO.wrap (v2.2*1000000000))+(zO.wrap e7)))))) λ(v3:Bool)=>jR 16 (us 6++[dI (y2.length:Int),.d (.int .u32 (zM.wrap (zO.wrap (zE 1000000000 (zO.wrap ((zO.wrap e2)+1)))))),.gr 0 1,dL (eInt .u32) y7,.gr 1 0,dI v1.1,U,.d (.int .u64 v2.1),.d (.int .u64 v2.2)]++us 114++[dB v3]++us 49) ⟨[[.rowc 264 1 (zA (eInt .u32) v1.2.1)],[.rowc 264 0 (zA (eInt .u32) v1.2.2)]],[]⟩ ( if v3=true then if (decide ((zO.wrap (v2.2+(zO.wrap e5)))≥1000000000))=true then some (.ret (zO.wrap (v2.1-1)))else some (.go (zO.wrap (v2.1-1),zO.wrap (v2.2+(zO.wrap e5))))else some (.ret v2.1)))) fuel (zO.wrap (zE (zO.wrap ((zO.wrap ((zO.wrap e3)*1000000000))+(zO.wrap e4))) (zO.wrap e5)),zH (zO.wrap ((zO.wrap ((zO.wrap e3)*1000000000))+(zO.wrap e4))) (zO.wrap e5))) λ(v4:Int)=>jB 2 (us 6++[dI (y2.length:Int),.d (.int .u32 (zM.wrap (zO.wrap (zE 1000000000 (zO.wrap ((zO.wrap e2)+1)))))),.gr 0 1,dL (eInt .u32) y7,.gr 1 0,dI v1.1,U,.d (.int .u64 v4)]++us 165) ⟨[[.rowc 264 1 (zA (eInt .u32) v1.2.1)],[.rowc 264 0 (zA (eInt .u32) v1.2.2)]],[]⟩ ( aA (decide ((0:Int)≤v1.1∧v1.1≤(zL.wrap ((zL.wrap (v1.1+(y2.length:Int)))+1))∧(zL.wrap ((zL.wrap (v1.1+(y2.length:Int)))+1))≤((v1.2.1.length:Nat):Int))) ( ac (iF 271 (λv5:Bool×(List Int)=>.d (.bool v5.1)) (λv5:Bool×(List Int)=>⟨[[.rowc 264 1 (zA (eInt .u32) v5.2)],[.rowc 264 0 (zA (eInt .u32) v1.2.2)]],[]⟩) (ac (dR (λ(v6:Int×Int×Int×(List Int))=>lF ([.gs 0 1 (zD v1.1) ((zD (zL.wrap ((zL.wrap (v1.1+(y2.length:Int)))+1)))-(zD v1.1)),dL (eInt .u32) y7,.d (.int .u64 v4),U,U,U,U,.d (.int .u64 v6.1),.d (.int .u64 v6.2.1),U,U,U,U,U,dI (((zD (zL.wrap ((zL.wrap (v1.1+(y2.length:Int)))+1)))-(zD v1.1):Nat):Int),dI v6.2.2.1]++us 46) ⟨[[.rowc 264 1 (zA (eInt .u32) v6.2.2.2)],[.rowc 264 0 (zA (eInt .u32) v1.2.2)]],[]⟩ ( if (decide (v6.2.2.1<(((zD (zL.wrap ((zL.wrap (v1.1+(y2.length:Int)))+1)))-(zD v1.1):Nat):Int)))=true then ac (if (decide (v6.2.2.1<(y7.length:Int)))=true then ac (gt y7 v6.2.2.1) λ(e8:Int)=>some (zO.wrap (v6.1+(zO.wrap ((zO.wrap e8)*v4))))else some v6.1) λ(v7:Int)=>jC ([.gs 0 1 (zD v1.1) ((zD (zL.wrap ((zL.wrap (v1.1+(y2.length:Int)))+1)))-(zD v1.1)),dL (eInt .u32) y7,.d (.int .u64 v4),U,U,U,U,U,.d (.int .u64 v6.2.1),dI v6.2.2.1,.d (.int .u64 v7),U,U,U,dI (((zD (zL.wrap ((zL.wrap (v1.1+(y2.length:Int)))+1)))-(zD v1.1):Nat):Int),dI v6.2.2.1]++us 46) ⟨[[.rowc 264 1 (zA (eInt .u32) v6.2.2.2)],[.rowc 264 0 (zA (eInt .u32) v1.2.2)]],[]⟩ ( aA (decide (0≤v6.2.2.1∧v6.2.2.1<(((zD (zL.wrap ((zL.wrap (v1.1+(y2.length:Int)))+1)))-(zD v1.1):Nat):Int))) ( ac (gt v6.2.2.2 (((zD v1.1)+zD v6.2.2.1:Nat):Int)) λ(e9:Int)=>ac (if (decide ((zO.wrap e9)<(zO.wrap ((zH v7 1000000000)+v6.2.1))))=true then some (1,zO.wrap ((zO.wrap e9)+1000000000))else some (0,zO.wrap e9)) λ(v8:Int×Int)=>jC ([.gs 0 1 (zD v1.1) ((zD (zL.wrap ((zL.wrap (v1.1+(y2.length:Int)))+1)))-(zD v1.1)),dL (eInt .u32) y7,.d (.int .u64 v4),U,U,U,U,.d (.int .u64 (zO.wrap (zE v7 1000000000))),.d (.int .u64 v8.1),dI v6.2.2.1,U,.d (.int .u64 (zO.wrap ((zH v7 1000000000)+v6.2.1))),.d (.int .u64 v8.2),U,dI (((zD (zL.wrap ((zL.wrap (v1.1+(y2.length:Int)))+1)))-(zD v1.1):Nat):Int),dI v6.2.2.1]++us 46) ⟨[[.rowc 264 1 (zA (eInt .u32) v6.2.2.2)],[.rowc 264 0 (zA (eInt .u32) v1.2.2)]],[]⟩ ( aA (decide (0≤v6.2.2.1∧v6.2.2.1<(((zD (zL.wrap ((zL.wrap (v1.1+(y2.length:Int)))+1)))-(zD v1.1):Nat):Int))) ( ac (gt v6.2.2.2 (((zD v1.1)+zD v6.2.2.1:Nat):Int)) λ(e10:Int)=>some (.go (zO.wrap (zE v7 1000000000),v8.1,zL.wrap (v6.2.2.1+1),v6.2.2.2.set (((zD v1.1)+zD v6.2.2.1)) (zM.wrap (zO.wrap (v8.2-(zO.wrap ((zH v7 1000000000)+v6.2.1)))))))))))else some (.ret (v6.1,v6.2.1,v6.2.2.2)))) fuel (0,0,0,v1.2.1)) λ(v9:Int×Int×(List Int))=>jB 0 (us 7++[.d (.int .u64 v9.1),.d (.int .u64 v9.2.1)]++us 53) ⟨[[.rowc 264 1 (zA (eInt .u32) v9.2.2)],[.rowc 264 0 (zA (eInt .u32) v1.2.2)]],[]⟩ ( jV 16 (us 6++[dB ((decide (v9.2.1>0))||(decide (v9.1>0)))]++us 55) ⟨[[.rowc 264 1 (zA (eInt .u32) v9.2.2)],[.rowc 264 0 (zA (eInt .u32) v1.2.2)]],[]⟩ ( some ((decide (v9.2.1>0))||(decide (v9.1>0)),v9.2.2))))) λ(v5:Bool×(List Int))=>ac (if v5.1=true then aA (decide ((0:Int)≤v1.1∧v1.1≤(zL.wrap ((zL.wrap (v1.1+(y2.length:Int)))+1))∧(zL.wrap ((zL.wrap (v1.1+(y2.length:Int)))+1))≤((v5.2.length:Nat):Int))) ( ac (iF 272 (λv10:(List Int)=>.tuple []) (λv10:(List Int)=>⟨[[.rowc 264 1 (zA (eInt .u32) v10)],[.rowc 264 0 (zA (eInt .u32) v1.2.2)]],[]⟩) (dR (λ(v11:Int×Int×(List Int))=>lF ([.gs 0 1 (zD v1.1) ((zD (zL.wrap ((zL.wrap (v1.1+(y2.length:Int)))+1)))-(zD v1.1)),dL (eInt .u32) y7,U,U,.d (.int .u32 v11.1),U,U,U,dI (((zD (zL.wrap ((zL.wrap (v1.1+(y2.length:Int)))+1)))-(zD v1.1):Nat):Int),dI v11.2.1]++us 27) ⟨[[.rowc 264 1 (zA (eInt .u32) v11.2.2)],[.rowc 264 0 (zA (eInt .u32) v1.2.2)]],[]⟩ ( if (decide (v11.2.1<(((zD (zL.wrap ((zL.wrap (v1.1+(y2.length:Int)))+1)))-(zD v1.1):Nat):Int)))=true then aA (decide (0≤v11.2.1∧v11.2.1<(((zD (zL.wrap ((zL.wrap (v1.1+(y2.length:Int)))+1)))-(zD v1.1):Nat):Int))) ( ac (gt v11.2.2 (((zD v1.1)+zD v11.2.1:Nat):Int)) λ(e11:Int)=>ac (if (decide (v11.2.1<(y7.length:Int)))=true then ac (gt y7 v11.2.1) λ(e12:Int)=>some (zM.wrap ((zM.wrap (e11+v11.1))+e12))else some (zM.wrap (e11+v11.1))) λ(v12:Int)=>jC ([.gs 0 1 (zD v1.1) ((zD (zL.wrap ((zL.wrap (v1.1+(y2.length:Int)))+1)))-(zD v1.1)),dL (eInt .u32) y7,U,U,U,dI v11.2.1,.d (.int .u32 v12),U,dI (((zD (zL.wrap ((zL.wrap (v1.1+(y2.length:Int)))+1)))-(zD v1.1):Nat):Int),dI v11.2.1]++us 27) ⟨[[.rowc 264 1 (zA (eInt .u32) v11.2.2)],[.rowc 264 0 (zA (eInt .u32) v1.2.2)]],[]⟩ ( ac (if (decide (v12≥1000000000))=true then some (1,zM.wrap (v12-1000000000))else some (0,v12)) λ(v13:Int×Int)=>jC ([.gs 0 1 (zD v1.1) ((zD (zL.wrap ((zL.wrap (v1.1+(y2.length:Int)))+1)))-(zD v1.1)),dL (eInt .u32) y7,U,U,.d (.int .u32 v13.1),dI v11.2.1,.d (.int .u32 v13.2),U,dI (((zD (zL.wrap ((zL.wrap (v1.1+(y2.length:Int)))+1)))-(zD v1.1):Nat):Int),dI v11.2.1]++us 27) ⟨[[.rowc 264 1 (zA (eInt .u32) v11.2.2)],[.rowc 264 0 (zA (eInt .u32) v1.2.2)]],[]⟩ ( aA (decide (0≤v11.2.1∧v11.2.1<(((zD (zL.wrap ((zL.wrap (v1.1+(y2.length:Int)))+1)))-(zD v1.1):Nat):Int))) ( ac (gt v11.2.2 (((zD v1.1)+zD v11.2.1:Nat):Int)) λ(e13:Int)=>some (.go (v13.1,zL.wrap (v11.2.1+1),v11.2.2.set (((zD v1.1)+zD v11.2.1)) v13.2))))))else some (.ret v11.2.2))) fuel (0,0,v5.2))) λ(v10:(List Int))=>some (zO.wrap (v4-1),v10))else some (v4,v5.2)) λ(v14:Int×(List Int))=>jC (us 6++[dI (y2.length:Int),.d (.int .u32 (zM.wrap (zO.wrap (zE 1000000000 (zO.wrap ((zO.wrap e2)+1)))))),.gr 0 1,dL (eInt .u32) y7,.gr 1 0,dI v1.1,U,.d (.int .u64 v14.1)]++us 165) ⟨[[.rowc 264 1 (zA (eInt .u32) v14.2)],[.rowc 264 0 (zA (eInt .u32) v1.2.2)]],[]⟩ ( ac (gt v1.2.2 v1.1) λ(e14:Int)=>some (v14.2,v1.2.2.set (zD v1.1) (zM.wrap v14.1)))))))) λ(v15:(List Int)×(List Int))=>jB 1 (us 6++[dI (y2.length:Int),.d (.int .u32 (zM.wrap (zO.wrap (zE 1000000000 (zO.wrap ((zO.wrap e2)+1)))))),.gr 0 1,dL (eInt .u32) y7,.gr 1 0,dI v1.1]++us 167) ⟨[[.rowc 264 1 (zA (eInt .u32) v15.1)],[.rowc 264 0 (zA (eInt .u32) v15.2)]],[]⟩ ( some (.go (zL.wrap (v1.1-1),v15.1,v15.2)))else some (.ret (v1.2.1,v1.2.2)))) fuel (zL.wrap ((zL.wrap (((y5.length+1:Nat):Int)-(y2.length:Int)))-1),y5++[0],zG (zD (zL.wrap (((y5.length+1:Nat):Int)-(y2.length:Int)))) (0:Int))) λ(v16:(List Int)×(List Int))=>jB 0 (us 6++[dI (y2.length:Int),.d (.int .u32 (zM.wrap (zO.wrap (zE 1000000000 (zO.wrap ((zO.wrap e2)+1)))))),.gr 0 1,U,.gr 1 0]++us 168) ⟨[[.rowc 264 1 (zA (eInt .u32) v16.1)],[.rowc 264 0 (zA (eInt .u32) v16.2)]],[]⟩ ( ac (cutT v16.1 (y2.length:Int)) λ(s1:(List Int))=>ac (lr s1) λ(y8:(List Int))=>ac (mO y8 (zM.wrap (zO.wrap (zE 1000000000 (zO.wrap ((zO.wrap e2)+1)))))) λ(y9:(List Int)×(List Int))=>some (v16.2,y9.1))))))
theorem mq{a0:(List Int)}{a1:(List Int)}{y:(List Int)×(List Int)}(h:mN a0 a1=some y):Spec gP 234 [.d (.list (zA (eInt .u32) a0)),.d (.list (zA (eInt .u32) a1))] (.tuple [.d (.list (zA (eInt .u32) y.1)),.d (.list (zA (eInt .u32) y.2))]):=by
 refine auA Tryz.func234 (λy:(List Int)×(List Int)=>.tuple [.d (.list (zA (eInt .u32) y.1)),.d (.list (zA (eInt .u32) y.2))]) ?_ h
 unfold mN
 refine .sA ?_
 refine .seqK (.bind λy1 hy1=>.bind λy2 hy2=>.region λe h=>WA ?_)
 refine .byA (mf.1 _ hy1) (WA ?_)
 refine .byA (mf.1 _ hy2) (mA ?_ h)
 refine .seqK (.sA ?_)
 refine .cond rfl (λhb6=>?_) (λhb6=>?_)
 exact zzA
 refine .skip (Mir.toK (.seqK (.seqK (.bind λy4 hy9=>.region λe h=>WA ?_))))
 refine .byA (it_compare_spec.1 _ hy9) (mA ?_ h)
 refine .cond rfl (λhb12=>?_) (λhb12=>?_)
 exact zzA
 refine .skip (Mir.toK (.sA ?_))
 refine .seqK (.bind λe2 q14=>?_)
 replace q14:=gq q14
 refine .guard λq15=>?_
 replace q15:=ne_of q15
 refine .region λe h=>?_
 simp only[seval,EMA,q14,q15]
 refine mU e (.seqK (.bind λy5 hy16=>.guard λq17=>.regionW λe h=>regW.alt 5 rfl ?_)) h
 simp only[seval,EMA,(oL 1)]
 refine SpecZ.toS (it_times_specZ hy16) (by simp only[seval,FMA,dL]) ?_
 simp only[seval,EMA,(oL 1)]
 refine alt_appR (e':=0) (ys:=zA (eInt .u32) [0]) rfl (by simp only[seval,EMA]) rfl og al_eInt (Nat.zero_lt_succ _) (ok2 q17 (by simp only[lm]) rfl) (regW.of ?_)
 simp only[seval,EMA]
 refine mU e (.seqK (.bind λy6 hy18=>.bind λy7 hy19=>.region λe h=>?_)) h
 simp only[seval,EMA,(oL 1)]
 refine .byA (nO hy18) (WA ?_)
 refine .byA (mf.1 _ hy19) (mA ?_ h)
 refine .seqK (.guard λq20=>.guard λq21=>.regionW λe h=>regW.alt 1 rfl ?_)
 simp only[seval,EMA]
 refine alt_lenR rfl rfl eu (regW.alt 2 rfl ?_)
 simp only[seval,EMA,xLA]
 refine kj (en:=(eInt .u32)) (z:=0) rfl rfl og jP rfl rfl (ra q20) q21 (regW.of ?_)
 simp only[seval,EMA]
 refine mU e (.seqK (.seqK (.regionW λe h=>regW.alt 1 rfl ?_))) h
 simp only[seval,EMA]
 refine alt_lenR rfl rfl eu (regW.of ?_)
 simp only[seval,EMA,xLA]
 refine mU e (Mir.jOB (λ_=>rfl) ?_ ?_) h
 refine .block (Mir.lF (λ_=>rfl) (by simp only[seval,FMA]) (by simp only[seval,FMA]) λv1=>.seqK (.sA ?_))
 refine .cond rfl (λh1=>?_) (λh1=>?_)
 refine .skip (Mir.toK (.seqK (Mir.jOB (λ_=>rfl) ?_ ?_)))
 refine .block (.seqK (.bind λe3 q1=>?_))
 replace q1:=gq q1
 refine .bind λe4 q2=>?_
 replace q2:=gq q2
 refine Mir.regionS (by kernel_rfl) λe h=>stW.alt 4 rfl (by kernel_rfl) ?_
 simp only[seval,EMA]
 refine st_indexR rfl rfl rfl eu bJ (fT q1.1) (fU q1.2 q1.1) (stW.alt 0 rfl (by kernel_rfl) ?_)
 simp only[seval,EMA]
 refine st_loadR rfl rfl (fi q1.2) (by simp only[↓reduceIte,nA,nL,mo,ag_264,bJ,fR,iS,SV,eInt]<;>rfl) (stW.alt 7 rfl (by kernel_rfl) ?_)
 simp only[seval,EMA]
 refine st_indexR rfl rfl rfl eu bJ (fT q2.1) (fU q2.2 q2.1) (stW.alt 0 rfl (by kernel_rfl) ?_)
 simp only[seval,EMA]
 refine st_loadR rfl rfl (fi q2.2) (by simp only[↓reduceIte,nA,nL,mo,ag_264,bJ,fR,iS,SV,eInt]<;>rfl) (stW.of (by kernel_rfl) ?_)
 simp only[seval,EMA]
 refine mU e (.seqK (.bind λe5 q3=>?_)) h
 replace q3:=gq q3
 refine .guard λq4=>?_
 replace q4:=ne_of q4
 refine .guard λq5=>?_
 replace q5:=ne_of q5
 refine .regionD [] (by kernel_rfl) λe h=>?_
 simp only[seval,EMA,SB,q3,q4,q5]
 refine mU e (.seqK (Mir.jOB (λ_=>rfl) ?_ ?_)) h
 refine .block (Mir.lF (λ_=>rfl) (by simp only[seval,FMA]) (by simp only[seval,FMA]) λv2=>.seqK (.seqK (Mir.jOR (λ_=>rfl) ?_ ?_)))
 refine .ite (λh2=>?_) (λh2=>?_)
 exact zzA
 refine .bind λe6 q6=>?_
 replace q6:=gq q6
 refine .bind λe7 q8=>?_
 replace q8:=gq q8
 refine Mir.regionS (by kernel_rfl) λe h=>stW.alt 18 rfl (by kernel_rfl) ?_
 simp only[seval,EMA,q6,h2]
 refine st_indexR rfl rfl rfl eu bJ (fT q8.1) (fU q8.2 q8.1) (stW.alt 0 rfl (by kernel_rfl) ?_)
 simp only[seval,EMA,h2]
 refine st_loadR rfl rfl (fi q8.2) (by simp only[↓reduceIte,nA,nL,mo,ag_264,bJ,fR,iS,SV,eInt]<;>rfl) (stW.of (by kernel_rfl) ?_)
 exact zzA
 exact zzA
 intro v4
 refine Mir.toK (.seqK (.seqK (.guard λq9=>?_)))
 replace q9:=gsl_of q9
 refine .bind λv5 h5=>.regionW λe h=>regW.alt 6 rfl ?_
 simp only[seval,EMA]
 refine alt_sliceR (l:=zD v1.1) (h:=zD (zL.wrap ((zL.wrap (v1.1+(y2.length:Int)))+1))) rfl rfl eu bJ (by simp only[seval,EMA,bd_some,bd_none,zI,zJ,lm,q9.1,q9.2.1]) (by simp only[seval,EMA,bd_some,bd_none,zI,zJ,lm,q9.1,q9.2.1]) q9.2.2.1 (by rw[lm];exact q9.2.2.2) (regW.of ?_)
 simp only[seval,EMA]
 refine bf.inlA h5 ?_ ?_
 refine .sA ?_
 refine .sA ?_
 refine .seqK (.seqK (.regionW λe h=>regW.alt 1 rfl ?_))
 simp only[seval,EMA]
 refine alt_lenG rfl rfl eu (regW.of ?_)
 simp only[seval,EMA]
 refine mU e (Mir.jOB (λ_=>rfl) ?_ ?_) h
 refine .block (Mir.lF (λ_=>rfl) (by simp only[seval,FMA]) (by simp only[seval,FMA]) λv6=>.sA ?_)
 refine .seqK (.cond rfl (λh6=>?_) (λh6=>?_))
 refine .skip (Mir.toK (.seqK (.block (.sA ?_))))
 refine .sA ?_
 refine .seqK (.sA ?_)
 refine Mir.jOC (λ_=>rfl) ?_ ?_
 exact zzA
 intro v7
 refine Mir.toK (.sA ?_)
 refine .sA ?_
 refine .sA ?_
 refine .seqK (.guard λq11=>?_)
 replace q11:=and_of q11
 refine .bind λe9 q12=>?_
 replace q12:=gq q12
 simp only[zF]at q12
 refine .regionW λe h=>regW.alt 2 rfl ?_
 simp only[seval,EMA]
 refine pV rfl rfl rfl eu bJ q11.1 q11.2 (regW.alt 0 rfl ?_)
 simp only[seval,EMA]
 refine pl rfl rfl (fi q12.2) (by simp only[↓reduceIte,nA,nL,mo,ag_264,bJ,fR,iS,SV,eInt]<;>rfl) (regW.of ?_)
 simp only[seval,EMA]
 refine mU e (.seqK (.sA ?_)) h
 refine Mir.jOC (λ_=>rfl) ?_ ?_
 exact zzA
 intro v8
 refine Mir.toK (.guard λq16=>?_)
 replace q16:=and_of q16
 refine .bind λe10 q18=>?_
 replace q18:=gq q18
 simp only[zF]at q18
 refine .regionW λe h=>regW.alt 6 rfl ?_
 simp only[seval,EMA]
 refine pV rfl rfl rfl eu bJ q16.1 q16.2 (regW.alt 0 rfl ?_)
 simp only[seval,EMA]
 refine bU rfl rfl (fi q18.2) rfl rfl bJ rfl (zB rfl) (regW.of ?_)
 exact zzA
 exact zzA
 exact zzA
 simp only[seval,EMA]
 refine mU e (Mir.jOC (λ_=>rfl) ?_ ?_) h
 refine .cond rfl (λh10=>?_) (λh10=>?_)
 refine .sA ?_
 refine .guard λq19=>?_
 replace q19:=gsl_of q19
 refine .bind λv10 h11=>.regionW λe h=>regW.alt 6 rfl ?_
 simp only[seval,EMA]
 refine alt_sliceR (l:=zD v1.1) (h:=zD (zL.wrap ((zL.wrap (v1.1+(y2.length:Int)))+1))) rfl rfl eu bJ (by simp only[seval,EMA,bd_some,bd_none,zI,zJ,lm,q19.1,q19.2.1]) (by simp only[seval,EMA,bd_some,bd_none,zI,zJ,lm,q19.1,q19.2.1]) q19.2.2.1 (by rw[lm];exact q19.2.2.2) (regW.of ?_)
 simp only[seval,EMA]
 refine bf.inlA h11 ?_ ?_
 refine .sA ?_
 refine .seqK (.regionW λe h=>regW.alt 1 rfl ?_)
 simp only[seval,EMA]
 refine alt_lenG rfl rfl eu (regW.of ?_)
 simp only[seval,EMA]
 refine mU e (.block (Mir.lF (λ_=>rfl) (by simp only[seval,FMA]) (by simp only[seval,FMA]) λv11=>.sA ?_)) h
 refine .seqK (.cond rfl (λh12=>?_) (λh12=>?_))
 refine .skip (Mir.toK (.seqK (.block (.sA ?_))))
 refine .seqK (.guard λq22=>?_)
 replace q22:=and_of q22
 refine .bind λe11 q23=>?_
 replace q23:=gq q23
 simp only[zF]at q23
 refine .regionW λe h=>regW.alt 2 rfl ?_
 simp only[seval,EMA]
 refine pV rfl rfl rfl eu bJ q22.1 q22.2 (regW.alt 0 rfl ?_)
 simp only[seval,EMA]
 refine pl rfl rfl (fi q23.2) (by simp only[↓reduceIte,nA,nL,mo,ag_264,bJ,fR,iS,SV,eInt]<;>rfl) (regW.of ?_)
 simp only[seval,EMA]
 refine mU e (.seqK (.sA ?_)) h
 refine Mir.jOC (λ_=>rfl) ?_ ?_
 exact zzA
 intro v12
 refine Mir.toK (.sA ?_)
 refine .seqK (.sA ?_)
 refine Mir.jOC (λ_=>rfl) ?_ ?_
 exact zzA
 intro v13
 refine Mir.toK (.guard λq25=>?_)
 replace q25:=and_of q25
 refine .bind λe13 q26=>?_
 replace q26:=gq q26
 simp only[zF]at q26
 refine .regionW λe h=>regW.alt 3 rfl ?_
 simp only[seval,EMA]
 refine pV rfl rfl rfl eu bJ q25.1 q25.2 (regW.alt 0 rfl ?_)
 simp only[seval,EMA]
 refine bU rfl rfl (fi q26.2) rfl rfl bJ rfl (zB rfl) (regW.of ?_)
 exact zzA
 exact zzA
 exact zzA
 exact zzA
 intro v14
 refine Mir.toK (.bind λe14 q27=>?_)
 replace q27:=gq q27
 refine .regionW λe h=>regW.alt 4 rfl ?_
 simp only[seval,EMA]
 refine ci rfl rfl rfl eu bJ (fT q27.1) (fU q27.2 q27.1) (regW.alt 0 rfl ?_)
 simp only[seval,EMA]
 refine bU rfl rfl (fi q27.2) rfl rfl bJ rfl (zB rfl) (regW.of ?_)
 exact zzA
 exact zzA
 exact zzA
 intro v16
 refine Mir.toK (.seqK (.frz 0 rfl ?_))
 simp only[seval,us_0,us_s,xCA,xNA,and_self,and_true,true_and,and_false,false_and,SZ]
 refine .bind λs1 q28=>?_
 replace q28:=cutT_ok q28
 refine .bind λy8 h15=>.bind λy9 h16=>.region λe h=>?_
 simp only[seval,EMA,q28,Nat.le_refl,and_true,true_and,dm,tm]
 refine .byA (mf.1 _ h15) (WA ?_)
 refine .byA (mr h16) (mA ?_ h)
 refine .sA ?_
 refine .frz 1 rfl ?_
 simp only[seval,us_0,us_s,xCA,xNA,and_self,and_true,true_and,and_false,false_and,SZ]
 exact zzA
instance:Sp 234 (type_of% @mq):=⟨@mq⟩
def pM(a0:Int):Option (List Int):=some [zM.wrap (zH a0 1000000000),zM.wrap (zH (zO.wrap (zE a0 1000000000)) 1000000000),zM.wrap (zO.wrap (zE (zO.wrap (zE a0 1000000000)) 1000000000))]
instance it_split_spec:Sp 221 (∀{a0:Int},Ct 221 [.d (.int .u64 a0)] (λy:(List Int)=>.d (.list (zA (eInt .u32) y))) (pM a0)):=⟨zzF Tryz.func221 (pM.eq_1 ..)⟩
def dW(a0:Int):Option am:=ac (if (decide (a0<0))=true then some (zO.wrap (0-(zO.wrap a0)))else some (zO.wrap a0)) λ(v1:Int)=>jC ([dI a0,U,.ptr 0 0,.d (.int .u64 v1)]++us 11) ⟨[[dB false,.nil]],[]⟩ ( ac (pM v1) λ(y1:(List Int))=>ac (dz (decide (a0<0)) y1) λ(y2:am)=>some y2)
instance mP:Sp 172 (∀{a0:Int},Ct 172 [dI a0] (λy:am=>.agg [.d (.bool y.Neg),.d (.list (zA (eInt .u32) y.Limbs))]) (dW a0)):=⟨zzF Tryz.func172 (dW.eq_1 ..)⟩
def it_Sub(a0:am)(a1:am):Option am:=jV 1 ([U,U,.ptr 0 0,.ptr 1 0,.ptr 2 0]++us 13) ⟨[(cU a0),[dB (!a1.Neg&&(decide ((a1.Limbs.length:Int)>0))),dL (eInt .u32) a1.Limbs],[dB false,.nil]],[]⟩ ( ac (oZ a0 (am.mk (!a1.Neg&&(decide ((a1.Limbs.length:Int)>0))) a1.Limbs)) λ(y1:am)=>some y1)
instance it_Sub_spec:Sp 273 (∀{a0:am} {a1:am},Ct 273 [.agg (cU a0),.agg (cU a1)] (λy:am=>.agg [.d (.bool y.Neg),.d (.list (zA (eInt .u32) y.Limbs))]) (it_Sub a0 a1)):=⟨zzF Tryz.func273 (it_Sub.eq_1 ..)⟩
def jf(a0:am)(a1:am):Option (am×am×Int):=if ((a1.Limbs.length:Int)==0)=true then some (am.mk false [],am.mk false [],6)else ac (mN a0.Limbs a1.Limbs) λ(y1:(List Int)×(List Int))=>ac (dz (!(a0.Neg==a1.Neg)) y1.1) λ(y2:am)=>ac (dz a0.Neg y1.2) λ(y3:am)=>jV 5 ([U,U,U,.ptr 1 0,.ptr 2 0,.ptr 3 0,U,U,U,.ptr 4 0,.ptr 5 0]++us 35++[dB ((decide ((y3.Limbs.length:Int)>0))&&(!(y3.Neg==a1.Neg)))]++us 8) ⟨[(cU a0),(cU a1),[dB false,.nil],[dB false,.nil],(cU y2),(cU y3)],[]⟩ ( ac (if ((decide ((y3.Limbs.length:Int)>0))&&(!(y3.Neg==a1.Neg)))=true then ac (dW 1) λ(y4:am)=>ac (it_Sub y2 y4) λ(y5:am)=>ac (oZ y3 a1) λ(y6:am)=>some (y5,y6)else some (y2,y3)) λ(v1:am×am)=>jC ([U,U,U,U,.ptr 2 0,.ptr 3 0,U,U,U,.ptr 4 0,.ptr 5 0]++us 44) ⟨[(cU a0),(cU a1),[dB false,.nil],[dB false,.nil],(cU v1.1),(cU v1.2)],[]⟩ ( some (v1.1,v1.2,0)))
theorem qp{a0:am}{a1:am}{y:am×am×Int}(h:jf a0 a1=some y):Spec gP 235 [.agg (cU a0),.agg (cU a1)] (.tuple [.agg [.d (.bool y.1.Neg),.d (.list (zA (eInt .u32) y.1.Limbs))],.agg [.d (.bool y.2.1.Neg),.d (.list (zA (eInt .u32) y.2.1.Limbs))],.d (.int .i64 y.2.2)]):=by
 refine auA Tryz.func235 (λy:am×am×Int=>.tuple [.agg [.d (.bool y.1.Neg),.d (.list (zA (eInt .u32) y.1.Limbs))],.agg [.d (.bool y.2.1.Neg),.d (.list (zA (eInt .u32) y.2.1.Limbs))],.d (.int .i64 y.2.2)]) ?_ h
 unfold jf
 refine .sA ?_
 refine .seqK (.sA ?_)
 refine .cond rfl (λhb2=>?_) (λhb2=>?_)
 refine .sA ?_
 refine .ret QA
 refine .skip (Mir.toK (.seqK (.bind λy1 hy3=>.region λe h=>WA ?_)))
 refine .byA (mq hy3) (mA ?_ h)
 refine .seqK (.bind λy2 hy4=>.bind λy3 hy5=>.regionD [] (by kernel_rfl) λe h=>?_)
 simp only[seval,EMA,SB]
 refine Spec.by (io hy4) (by simp only[seval,FMA]) ?_
 simp only[seval,EMA,SB]
 refine Spec.by (io hy5) (by simp only[seval,FMA]) ?_
 simp only[seval,EMA,SB]
 refine mU e (.seqK (.seqK (Mir.jV rfl ?_ ?_))) h
 refine SWs.region ?_
 rcases Bool.eq_false_or_eq_true (decide ((y3.Limbs.length:Int)>0))with hb6 | hb6
 simp only[seval,EMA,SL,PB,hb6]
 simp only[seval,EMA,SL,PB,hb6]
 refine Mir.toK (Mir.jOC (λ_=>rfl) ?_ ?_)
 refine .cond rfl (λhb11=>?_) (λhb11=>?_)
 refine .bind λy4 hy12=>.bind λy5 hy13=>.bind λy6 hy14=>.regionD [] (by kernel_rfl) λe h=>?_
 simp only[seval,EMA,SB]
 refine Spec.by (mP.1 _ hy12) (by simp only[seval,FMA]) ?_
 simp only[seval,EMA,SB]
 refine Spec.by (it_Sub_spec.1 _ hy13) (by simp only[seval,FMA]) ?_
 simp only[seval,EMA,SB]
 refine Spec.by (it_Add_spec.1 _ hy14) (by simp only[seval,FMA]) ?_
 simp only[seval,EMA,SB]
 cases h
 simp only[seval,FMA]
 refine .skip QA
 intro v1
 refine Mir.toK (.seqK (.regionD [(10,4)] (by kernel_rfl) λe h=>?_))
 simp only[seval,EMA,SB]
 refine mU e (.ret QA) h
instance:Sp 235 (type_of% @qp):=⟨@qp⟩
def it_word(a0:am):Option (Int×Bool):=if ((a0.Limbs.length:Int)==0)=true then some (0,true)else if ((a0.Limbs.length:Int)==1)=true then ac (gt a0.Limbs 0) λ(e1:Int)=>some (zO.wrap e1,true)else if ((a0.Limbs.length:Int)==2)=true then ac (gt a0.Limbs 1) λ(e2:Int)=>ac (gt a0.Limbs 0) λ(e3:Int)=>some (zO.wrap ((zO.wrap ((zO.wrap e2)*1000000000))+(zO.wrap e3)),true)else some (0,false)
instance it_word_spec:Sp 233 (∀{a0:am},Ct 233 [.agg (cU a0)] (λy:Int×Bool=>.tuple [.d (.int .u64 y.1),.d (.bool y.2)]) (it_word a0)):=⟨zzF Tryz.func233 (it_word.eq_1 ..)⟩
def it_GCD(a0:am)(a1:am):Option am:=ac (dz false a0.Limbs) λ(y1:am)=>ac (dz false a1.Limbs) λ(y2:am)=>bindX (dR (λ(v1:am×am)=>lF ([U,U,U,U,.ptr 2 0,.ptr 3 0,.ptr 4 0]++us 54) ⟨[(cU a0),(cU a1),[dB false,.nil],(cU v1.1),(cU v1.2)],[]⟩ ( if (decide ((v1.2.Limbs.length:Int)>0))=true then ac (it_word v1.1) λ(y3:Int×Bool)=>ac (it_word v1.2) λ(y4:Int×Bool)=>jV 5 ([U,U,U,U,.ptr 2 0,.ptr 3 0,.ptr 4 0,.d (.int .u64 y3.1),U,.d (.int .u64 y4.1)]++us 26++[dB (y3.2&&y4.2)]++us 24) ⟨[(cU a0),(cU a1),[dB false,.nil],(cU v1.1),(cU v1.2)],[]⟩ ( bindX (if (y3.2&&y4.2)=true then ac (dR (λ(v2:Int×Int)=>lF ([U,U,U,U,.ptr 2 0,U,U,.d (.int .u64 v2.1),U,.d (.int .u64 v2.2)]++us 51) ⟨[(cU a0),(cU a1),[dB false,.nil],(cU v1.1),(cU v1.2)],[]⟩ ( if (decide (v2.2>0))=true then aA (!(v2.2==0)) ( some (.go (v2.2,zH v2.1 v2.2)))else some (.ret v2.1))) fuel (y3.1,y4.1)) λ(v3:Int)=>jB 2 ([U,U,U,U,.ptr 2 0,U,U,.d (.int .u64 v3)]++us 53) ⟨[(cU a0),(cU a1),[dB false,.nil],(cU v1.1),(cU v1.2)],[]⟩ ( ac (pM v3) λ(y5:(List Int))=>ac (dz false y5) λ(y6:am)=>some (.ret (.ret (.ret y6))))else some (.go ())) λ(v4:Unit)=>jC ([U,U,U,U,.ptr 2 0,.ptr 3 0,.ptr 4 0]++us 54) ⟨[(cU a0),(cU a1),[dB false,.nil],(cU v1.1),(cU v1.2)],[]⟩ ( ac (mN v1.1.Limbs v1.2.Limbs) λ(y7:(List Int)×(List Int))=>ac (dz false y7.2) λ(y8:am)=>some (.go (v1.2,y8))))else some (.ret (.go (v1.1,v1.2))))) fuel (y1,y2)) λ(v5:am×am)=>jB 0 ([U,U,U,U,.ptr 2 0,.ptr 3 0]++us 55) ⟨[(cU a0),(cU a1),[dB false,.nil],(cU v5.1),(cU v5.2)],[]⟩ ( aA (cd (v5.1.Limbs.length)) ( ac (dz false v5.1.Limbs) λ(y9:am)=>some y9))
instance it_GCD_spec:Sp 186 (∀{a0:am} {a1:am},Ct 186 [.agg (cU a0),.agg (cU a1)] (λy:am=>.agg [.d (.bool y.Neg),.d (.list (zA (eInt .u32) y.Limbs))]) (it_GCD a0 a1)):=⟨zzF Tryz.func186 (it_GCD.eq_1 ..)⟩
def ls(a0:am)(a1:am):Option Int:=if (!(a0.Neg==a1.Neg))=true then if a0.Neg=true then some (-1)else some 1 else if a0.Neg=true then ac (iQ a1.Limbs a0.Limbs) λ(y1:Int)=>some y1 else ac (iQ a0.Limbs a1.Limbs) λ(y2:Int)=>some y2
instance it_Cmp_spec:Sp 110 (∀{a0:am} {a1:am},Ct 110 [.agg (cU a0),.agg (cU a1)] (λy:Int=>.d (.int .i64 y)) (ls a0 a1)):=⟨zzF Tryz.func110 (ls.eq_1 ..)⟩
def it_Sqrt(a0:am):Option (am×Int):=if a0.Neg=true then some (am.mk false [],7)else if ((a0.Limbs.length:Int)==0)=true then some (am.mk false [],0)else aA (decide ((0:Int)≤(zL.wrap (zE (zL.wrap ((a0.Limbs.length:Int)+1)) 2)))) ( aA (cd (zD (zL.wrap (zE (zL.wrap ((a0.Limbs.length:Int)+1)) 2)))) ( aA (cd ((zG (zD (zL.wrap (zE (zL.wrap ((a0.Limbs.length:Int)+1)) 2))) (0:Int)).length+1)) ( ac (dz false (zG (zD (zL.wrap (zE (zL.wrap ((a0.Limbs.length:Int)+1)) 2))) (0:Int)++[1])) λ(y1:am)=>ac (dW 2) λ(y2:am)=>dR (λ(v1:am)=>lF ([U,.ptr 0 0,.ptr 1 0,U,U,.ptr 2 0,.ptr 3 0]++us 47) ⟨[(cU a0),[dB false,.nil],(cU v1),(cU y2)],[(264,(zG (zD (zL.wrap (zE (zL.wrap ((a0.Limbs.length:Int)+1)) 2))) (0:Int)).length+1)]⟩ ( ac (jf a0 v1) λ(y3:am×am×Int)=>ac (oZ v1 y3.1) λ(y4:am)=>ac (jf y4 y2) λ(y5:am×am×Int)=>ac (ls y5.1 v1) λ(y6:Int)=>if (decide (y6≥0))=true then some (.ret (v1,0))else some (.go y5.1))) fuel y1)))
theorem it_Sqrt_spec{a0:am}{y:am×Int}(h:it_Sqrt a0=some y):Spec gP 264 [.agg (cU a0)] (.tuple [.agg [.d (.bool y.1.Neg),.d (.list (zA (eInt .u32) y.1.Limbs))],.d (.int .i64 y.2)]):=by
 refine auA Tryz.func264 (λy:am×Int=>.tuple [.agg [.d (.bool y.1.Neg),.d (.list (zA (eInt .u32) y.1.Limbs))],.d (.int .i64 y.2)]) ?_ h
 unfold it_Sqrt
 refine .sA ?_
 refine .seqK (.sA ?_)
 refine .cond rfl (λhb2=>?_) (λhb2=>?_)
 exact zzA
 refine .skip (Mir.toK (.seqK (.sA ?_)))
 refine .cond rfl (λhb4=>?_) (λhb4=>?_)
 exact zzA
 refine .skip (Mir.toK (.sA ?_))
 refine .seqK (.guard λq5=>.guard λq6=>.guard λq7=>.bind λy1 hy8=>.regionW λe h=>regW.alt 1 rfl ?_)
 simp only[seval,EMA]
 refine alt_makeOM (en:=(eInt .u32)) (z:=0) rfl rfl og jP rfl rfl (ra q5) q6 (regW.of ?_)
 simp only[seval,EMA,(oL 1),q7]
 refine .byA (io hy8) (mA ?_ h)
 refine .seqK (.bind λy2 hy9=>.region λe h=>WA ?_)
 refine .byA (mP.1 _ hy9) (mA ?_ h)
 exact zzA
instance:Sp 264 (type_of% @it_Sqrt_spec):=⟨@it_Sqrt_spec⟩
def qI(a0:am):Option Int:=if a0.Neg=true then some (-1)else if (decide ((a0.Limbs.length:Int)>0))=true then some 1 else some 0
instance it_Sign_spec:Sp 178 (∀{a0:am},Ct 178 [.agg (cU a0)] (λy:Int=>.d (.int .i64 y)) (qI a0)):=⟨zzF Tryz.func178 (qI.eq_1 ..)⟩
def mg(a0:am):Option (Int×Bool):=ac (ac (dW (-9223372036854775808)) λ(y1:am)=>ac (ls a0 y1) λ(y2:Int)=>if (decide (y2<0))=true then some true else ac (dW 9223372036854775807) λ(y3:am)=>ac (ls a0 y3) λ(y4:Int)=>some (decide (y4>0))) λ(v1:Bool)=>jR 1 ([U,.ptr 0 0]++us 13++[dB v1]++us 23) ⟨[(cU a0)],[]⟩ ( if v1=true then some (0,false)else ac (dR (λ(v2:Int×Int)=>lF ([U,.ptr 0 0,U,U,.d (.int .u64 v2.1),dI v2.2]++us 33) ⟨[(cU a0)],[]⟩ ( if (decide (v2.2≥0))=true then ac (gt a0.Limbs v2.2) λ(e1:Int)=>some (.go (zO.wrap ((zO.wrap (v2.1*1000000000))+(zO.wrap e1)),zL.wrap (v2.2-1)))else some (.ret v2.1))) fuel (0,zL.wrap ((a0.Limbs.length:Int)-1))) λ(v3:Int)=>jB 0 ([U,.ptr 0 0,U,U,.d (.int .u64 v3)]++us 34) ⟨[(cU a0)],[]⟩ ( ac (if a0.Neg=true then some (zO.wrap (0-v3))else some v3) λ(v4:Int)=>jC ([U,U,U,U,.d (.int .u64 v4)]++us 34) ⟨[(cU a0)],[]⟩ ( some (zL.wrap v4,true))))
instance it_Int64_spec:Sp 265 (∀{a0:am},Ct 265 [.agg (cU a0)] (λy:Int×Bool=>.tuple [.d (.int .i64 y.1),.d (.bool y.2)]) (mg a0)):=⟨zzF Tryz.func265 (mg.eq_1 ..)⟩
def jb(a0:Int):Option (List Int):=gF [.slot 3 264] ( ac (dR (λ(v1:Int×(List Int))=>lF ([.d (.int .u64 v1.1),U,U,.own 0 (zA (eInt .u32) v1.2)]++us 11) ⟨[],[(264,v1.2.length)]⟩ ( if (decide (v1.1>0))=true then aA (cd (v1.2.length+1)) ( some (.go (zO.wrap (zE v1.1 1000000000),v1.2++[zM.wrap (zH v1.1 1000000000)])))else some (.ret v1.2))) fuel (a0,[])) λ(v2:(List Int))=>jB 0 ([U,U,U,.own 0 (zA (eInt .u32) v2)]++us 11) ⟨[],[(264,v2.length)]⟩ ( some v2))
instance r01_limbs_spec:Sp 91 (∀{a0:Int},Ct 91 [.d (.int .u64 a0)] (λy:(List Int)=>.d (.list (zA (eInt .u32) y))) (jb a0)):=⟨zzF Tryz.func91 (jb.eq_1 ..)⟩
def jQ(a0:(List Int)):Option (List Int):=ac (dR (λ(v1:(List Int))=>lF ([dL (eInt .u32) v1]++us 20) ⟨[],[]⟩ ( ac (if (decide ((v1.length:Int)>0))=true then ac (gt v1 (zL.wrap ((v1.length:Int)-1))) λ(e1:Int)=>some (e1==0)else some false) λ(v2:Bool)=>jR 1 ([dL (eInt .u32) v1]++us 13++[dB v2]++us 6) ⟨[],[]⟩ ( if v2=true then ac (cutT v1 (zL.wrap ((v1.length:Int)-1))) λ(s1:(List Int))=>some (.go s1)else some (.ret v1)))) fuel a0) λ(v3:(List Int))=>jB 0 ([dL (eInt .u32) v3]++us 20) ⟨[],[]⟩ ( some v3)
instance r01_trim_spec:Sp 167 (∀{a0:(List Int)},Ct 167 [.d (.list (zA (eInt .u32) a0))] (λy:(List Int)=>.d (.list (zA (eInt .u32) y))) (jQ a0)):=⟨zzF Tryz.func167 (jQ.eq_1 ..)⟩
def dQ(a0:Bool)(a1:(List Int)):Option am:=ac (jQ a1) λ(y1:(List Int))=>jV 2 ([U,U,U,U,.ptr 0 0]++us 10) ⟨[[dB (a0&&(decide ((y1.length:Int)>0))),dL (eInt .u32) y1]],[]⟩ ( some (am.mk (a0&&(decide ((y1.length:Int)>0))) y1))
instance oE:Sp 82 (∀{a0:Bool} {a1:(List Int)},Ct 82 [dB a0,.d (.list (zA (eInt .u32) a1))] (λy:am=>.agg [.d (.bool y.Neg),.d (.list (zA (eInt .u32) y.Limbs))]) (dQ a0 a1)):=⟨zzF Tryz.func82 (dQ.eq_1 ..)⟩
def fa(a0:Int):Option am:=if (decide (a0<0))=true then ac (jb (zO.wrap (0-(zO.wrap a0)))) λ(y1:(List Int))=>ac (dQ true y1) λ(y2:am)=>some y2 else ac (jb (zO.wrap a0)) λ(y3:(List Int))=>ac (dQ false y3) λ(y4:am)=>some y4
instance r01_FromInt64_spec:Sp 34 (∀{a0:Int},Ct 34 [dI a0] (λy:am=>.agg [.d (.bool y.Neg),.d (.list (zA (eInt .u32) y.Limbs))]) (fa a0)):=⟨zzF Tryz.func34 (fa.eq_1 ..)⟩
def r01_plus(a0:(List Int))(a1:(List Int)):Option (List Int):=ac (if (decide ((a0.length:Int)<(a1.length:Int)))=true then some (a1,a0)else some (a0,a1)) λ(v1:(List Int)×(List Int))=>jC ([dL (eInt .u32) v1.1,dL (eInt .u32) v1.2]++us 53) ⟨[],[]⟩ ( aA (decide ((0:Int)≤(zL.wrap ((v1.1.length:Int)+1)))) ( aA (cd (zD (zL.wrap ((v1.1.length:Int)+1)))) ( ac (aA (dN v1.1) ( aM (λ(i1:Nat) (e1:Int) (v2:Int×(List Int))=>rF ([dL (eInt .u32) v1.1,dL (eInt .u32) v1.2,U,U,U,.gr 0 0,.d (.int .u32 v2.1),dI (i1:Int)]++us 47) ⟨[[.rowc 264 0 (zA (eInt .u32) v2.2)]],[]⟩ ( ac (if (decide ((i1:Int)<(v1.2.length:Int)))=true then ac (gt v1.2 (i1:Int)) λ(e2:Int)=>some (zM.wrap ((zM.wrap (v2.1+e1))+e2))else some (zM.wrap (v2.1+e1))) λ(v3:Int)=>jC ([dL (eInt .u32) v1.1,dL (eInt .u32) v1.2,U,U,U,.gr 0 0,.d (.int .u32 v3),dI (i1:Int)]++us 47) ⟨[[.rowc 264 0 (zA (eInt .u32) v2.2)]],[]⟩ ( ac (gt v2.2 (i1:Int)) λ(e3:Int)=>some (.go (zM.wrap (zE v3 1000000000),v2.2.set (zD (i1:Int)) (zH v3 1000000000)))))) (λ(v2:Int×(List Int))=>some (v2.1,v2.2)) v1.1 0 (0,zG (zD (zL.wrap ((v1.1.length:Int)+1))) (0:Int)))) λ(v4:Int×(List Int))=>jB 0 ([dL (eInt .u32) v1.1,U,U,U,U,.gr 0 0,.d (.int .u32 v4.1)]++us 48) ⟨[[.rowc 264 0 (zA (eInt .u32) v4.2)]],[]⟩ ( ac (gt v4.2 (v1.1.length:Int)) λ(e4:Int)=>ac (jQ (v4.2.set (zD (v1.1.length:Int)) v4.1)) λ(y1:(List Int))=>some y1))))
theorem r01_plus_spec{a0:(List Int)}{a1:(List Int)}{y:(List Int)}(h:r01_plus a0 a1=some y):Spec gP 88 [.d (.list (zA (eInt .u32) a0)),.d (.list (zA (eInt .u32) a1))] (.d (.list (zA (eInt .u32) y))):=by
 refine auA Tryz.func88 (λy:(List Int)=>.d (.list (zA (eInt .u32) y))) ?_ h
 unfold r01_plus
 refine .sA ?_
 refine .seqK (.sA ?_)
 refine Mir.jOC (λ_=>rfl) ?_ ?_
 exact zzA
 intro v1
 refine Mir.toK (.seqK (.guard λq3=>.guard λq4=>.regionW λe h=>regW.alt 3 rfl ?_))
 simp only[seval,EMA]
 refine kj (en:=(eInt .u32)) (z:=0) rfl rfl og jP rfl rfl (ra q3) q4 (regW.of ?_)
 simp only[seval,EMA]
 refine mU e (.sA ?_) h
 refine .seqK (.sA ?_)
 refine Mir.jOB (λ_=>rfl) ?_ ?_
 refine .block (.guard λq1=>Mir.rF q1 (λ_ _=>rfl) (by simp only[seval,FMA,zNI]) (by simp only[seval,FMA,zNI]) ?_ ?_)
 intro i1 e1 v2 q2
 refine .seqK (.sR λe h=>?_)
 simp only[seval,EMA,q2]
 refine mU e (.condT rfl (.skip (Mir.toK (.seqK (.block (.sR λe h=>?_)))))) h
 simp only[seval,EMA,q2,zF]
 refine mU e (.seqK (.sA ?_)) h
 refine Mir.jOC (λ_=>rfl) ?_ ?_
 exact zzA
 intro v3
 refine Mir.toK (.seqK (.bind λe3 q6=>?_))
 replace q6:=gq q6
 refine .regionW λe h=>regW.alt 4 rfl ?_
 simp only[seval,EMA]
 refine ci rfl rfl rfl eu bJ (fT q6.1) (fU q6.2 q6.1) (regW.alt 0 rfl ?_)
 simp only[seval,EMA]
 refine bU rfl rfl (fi q6.2) rfl rfl bJ rfl (zB rfl) (regW.of ?_)
 exact zzA
 exact zzA
 intro v4
 refine Mir.toK (.seqK (.bind λe4 q8=>?_))
 replace q8:=gq q8
 refine .regionW λe h=>regW.alt 4 rfl ?_
 simp only[seval,EMA]
 refine ci rfl rfl rfl eu bJ (fT q8.1) (fU q8.2 q8.1) (regW.alt 0 rfl ?_)
 simp only[seval,EMA]
 refine bU rfl rfl (fi q8.2) rfl rfl bJ rfl (zB rfl) (regW.of ?_)
 simp only[seval,EMA]
 refine mU e (.seqK (.frz 0 rfl ?_)) h
 simp only[seval,us_0,us_s,xCA,xNA,and_self,and_true,true_and,and_false,false_and,SZ]
 exact zzA
instance:Sp 88 (type_of% @r01_plus_spec):=⟨@r01_plus_spec⟩
def lh(a0:(List Int))(a1:(List Int)):Option Int:=if ((a0.length:Int) != (a1.length:Int))=true then if (decide ((a0.length:Int)<(a1.length:Int)))=true then some (-1)else some 1 else bindX (dR (λ(v1:Int)=>lF ([dL (eInt .u32) a0,dL (eInt .u32) a1,U,U,U,dI v1]++us 35) ⟨[],[]⟩ ( if (decide (v1≥0))=true then ac (gt a0 v1) λ(e1:Int)=>ac (gt a1 v1) λ(e2:Int)=>if (decide (e1<e2))=true then some (.ret (.ret (-1)))else if (decide (e1>e2))=true then some (.ret (.ret 1))else some (.go (zL.wrap (v1-1)))else some (.ret (.go ())))) fuel (zL.wrap ((a0.length:Int)-1))) λ(v2:Unit)=>jB 0 (us 41) ⟨[],[]⟩ ( some 0)
instance r01_compare_spec:Sp 89 (∀{a0:(List Int)} {a1:(List Int)},Ct 89 [.d (.list (zA (eInt .u32) a0)),.d (.list (zA (eInt .u32) a1))] (λy:Int=>.d (.int .i64 y)) (lh a0 a1)):=⟨zzF Tryz.func89 (lh.eq_1 ..)⟩
def mI(a0:(List Int))(a1:(List Int)):Option (List Int):=aA (decide ((0:Int)≤(a0.length:Int))) ( aA (cd (zD (a0.length:Int))) ( ac (aA (dN a0) ( aM (λ(i1:Nat) (e1:Int) (v1:Int×(List Int))=>rF ([dL (eInt .u32) a0,dL (eInt .u32) a1,U,U,U,.gr 0 0,.d (.int .u32 v1.1),dI (i1:Int)]++us 37) ⟨[[.rowc 264 0 (zA (eInt .u32) v1.2)]],[]⟩ ( ac (if (decide ((i1:Int)<(a1.length:Int)))=true then ac (gt a1 (i1:Int)) λ(e2:Int)=>some (zM.wrap ((zM.wrap ((zM.wrap (e1+1000000000))-v1.1))-e2))else some (zM.wrap ((zM.wrap (e1+1000000000))-v1.1))) λ(v2:Int)=>jC ([dL (eInt .u32) a0,dL (eInt .u32) a1,U,U,U,.gr 0 0,U,dI (i1:Int),.d (.int .u32 v2)]++us 36) ⟨[[.rowc 264 0 (zA (eInt .u32) v1.2)]],[]⟩ ( ac (if (decide (v2≥1000000000))=true then some (0,zM.wrap (v2-1000000000))else some (1,v2)) λ(v3:Int×Int)=>jC ([dL (eInt .u32) a0,dL (eInt .u32) a1,U,U,U,.gr 0 0,.d (.int .u32 v3.1),dI (i1:Int),.d (.int .u32 v3.2)]++us 36) ⟨[[.rowc 264 0 (zA (eInt .u32) v1.2)]],[]⟩ ( ac (gt v1.2 (i1:Int)) λ(e3:Int)=>some (.go (v3.1,v1.2.set (zD (i1:Int)) v3.2)))))) (λ(v1:Int×(List Int))=>some v1.2) a0 0 (0,zG (zD (a0.length:Int)) (0:Int)))) λ(v4:(List Int))=>jB 0 ([U,U,U,U,U,.gr 0 0]++us 39) ⟨[[.rowc 264 0 (zA (eInt .u32) v4)]],[]⟩ ( ac (jQ v4) λ(y1:(List Int))=>some y1)))
theorem qm{a0:(List Int)}{a1:(List Int)}{y:(List Int)}(h:mI a0 a1=some y):Spec gP 90 [.d (.list (zA (eInt .u32) a0)),.d (.list (zA (eInt .u32) a1))] (.d (.list (zA (eInt .u32) y))):=by
 refine auA Tryz.func90 (λy:(List Int)=>.d (.list (zA (eInt .u32) y))) ?_ h
 unfold mI
 refine .sA ?_
 refine .seqK (.guard λq1=>.guard λq2=>.regionW λe h=>regW.alt 2 rfl ?_)
 simp only[seval,EMA]
 refine kj (en:=(eInt .u32)) (z:=0) rfl rfl og jP rfl rfl (ra q1) q2 (regW.of ?_)
 simp only[seval,EMA]
 refine mU e (.sA ?_) h
 refine .seqK (.sA ?_)
 refine Mir.jOB (λ_=>rfl) ?_ ?_
 refine .block (.guard λq3=>Mir.rF q3 (λ_ _=>rfl) (by simp only[seval,FMA,zNI]) (by simp only[seval,FMA,zNI]) ?_ ?_)
 intro i1 e1 v1 q4
 refine .seqK (.sR λe h=>?_)
 simp only[seval,EMA,q4]
 refine mU e (.condT rfl (.skip (Mir.toK (.seqK (.block (.sR λe h=>?_)))))) h
 simp only[seval,EMA,q4,zF]
 refine mU e (.seqK (.sA ?_)) h
 refine Mir.jOC (λ_=>rfl) ?_ ?_
 exact zzA
 intro v2
 refine Mir.toK (.sA ?_)
 refine .seqK (.sA ?_)
 refine Mir.jOC (λ_=>rfl) ?_ ?_
 exact zzA
 intro v3
 refine Mir.toK (.bind λe3 q6=>?_)
 replace q6:=gq q6
 refine .regionW λe h=>regW.alt 3 rfl ?_
 simp only[seval,EMA]
 refine ci rfl rfl rfl eu bJ (fT q6.1) (fU q6.2 q6.1) (regW.alt 0 rfl ?_)
 simp only[seval,EMA]
 refine bU rfl rfl (fi q6.2) rfl rfl bJ rfl (zB rfl) (regW.of ?_)
 exact zzA
 exact zzA
 intro v4
 refine Mir.toK (.seqK (.frz 0 rfl ?_))
 exact zzA
instance:Sp 90 (type_of% @qm):=⟨@qm⟩
def oI(a0:am)(a1:am):Option am:=if (a0.Neg==a1.Neg)=true then ac (r01_plus a0.Limbs a1.Limbs) λ(y1:(List Int))=>ac (dQ a0.Neg y1) λ(y2:am)=>some y2 else ac (lh a0.Limbs a1.Limbs) λ(y3:Int)=>if (decide (y3≥0))=true then ac (mI a0.Limbs a1.Limbs) λ(y4:(List Int))=>ac (dQ a0.Neg y4) λ(y5:am)=>some y5 else ac (mI a1.Limbs a0.Limbs) λ(y6:(List Int))=>ac (dQ a1.Neg y6) λ(y7:am)=>some y7
instance r01_Add_spec:Sp 33 (∀{a0:am} {a1:am},Ct 33 [.agg (cU a0),.agg (cU a1)] (λy:am=>.agg [.d (.bool y.Neg),.d (.list (zA (eInt .u32) y.Limbs))]) (oI a0 a1)):=⟨zzF Tryz.func33 (oI.eq_1 ..)⟩
def qC(a0:am):Option am:=ac (dQ (!a0.Neg) a0.Limbs) λ(y1:am)=>some y1
instance r01_Neg_spec:Sp 85 (∀{a0:am},Ct 85 [.agg (cU a0)] (λy:am=>.agg [.d (.bool y.Neg),.d (.list (zA (eInt .u32) y.Limbs))]) (qC a0)):=⟨zzF Tryz.func85 (qC.eq_1 ..)⟩
def oD(a0:(List Int))(a1:(List Int)):Option (List Int):=aA (decide ((0:Int)≤(zL.wrap ((a0.length:Int)+(a1.length:Int))))) ( aA (cd (zD (zL.wrap ((a0.length:Int)+(a1.length:Int))))) ( ac (aA (dN a0) ( aM (λ(i1:Nat) (e1:Int) (v1:(List Int))=>rF ([dL (eInt .u32) a0,dL (eInt .u32) a1,U,U,U,.gr 0 0,dI (i1:Int)]++us 61) ⟨[[.rowc 264 0 (zA (eInt .u32) v1)]],[]⟩ ( ac (ac (aA (dN a1) ( aM (λ(i2:Nat) (e2:Int) (v2:Int×(List Int))=>rF ([dL (eInt .u32) a0,dL (eInt .u32) a1,U,U,U,.gr 0 0,dI (i1:Int),.d (.int .u64 v2.1),dI (i2:Int)]++us 59) ⟨[[.rowc 264 0 (zA (eInt .u32) v2.2)]],[]⟩ ( ac (gt v2.2 (zL.wrap ((i1:Int)+(i2:Int)))) λ(e3:Int)=>ac (gt v2.2 (zL.wrap ((i1:Int)+(i2:Int)))) λ(e4:Int)=>some (.go (zO.wrap (zE (zO.wrap ((zO.wrap (v2.1+(zO.wrap e3)))+(zO.wrap ((zO.wrap e1)*(zO.wrap e2))))) 1000000000),v2.2.set (zD (zL.wrap ((i1:Int)+(i2:Int)))) (zM.wrap (zH (zO.wrap ((zO.wrap (v2.1+(zO.wrap e3)))+(zO.wrap ((zO.wrap e1)*(zO.wrap e2))))) 1000000000)))))) (λ(v2:Int×(List Int))=>some (v2.1,v2.2)) a1 0 (0,v1))) λ(v3:Int×(List Int))=>jB 2 ([dL (eInt .u32) a0,dL (eInt .u32) a1,U,U,U,.gr 0 0,dI (i1:Int),.d (.int .u64 v3.1)]++us 60) ⟨[[.rowc 264 0 (zA (eInt .u32) v3.2)]],[]⟩ ( ac (gt v3.2 (zL.wrap ((i1:Int)+(a1.length:Int)))) λ(e5:Int)=>some (v3.2.set (zD (zL.wrap ((i1:Int)+(a1.length:Int)))) (zM.wrap v3.1)))) λ(v4:(List Int))=>jB 1 ([dL (eInt .u32) a0,dL (eInt .u32) a1,U,U,U,.gr 0 0,dI (i1:Int)]++us 61) ⟨[[.rowc 264 0 (zA (eInt .u32) v4)]],[]⟩ ( some (.go v4)))) (λ(v1:(List Int))=>some v1) a0 0 (zG (zD (zL.wrap ((a0.length:Int)+(a1.length:Int)))) (0:Int)))) λ(v5:(List Int))=>jB 0 ([U,U,U,U,U,.gr 0 0]++us 62) ⟨[[.rowc 264 0 (zA (eInt .u32) v5)]],[]⟩ ( ac (jQ v5) λ(y1:(List Int))=>some y1)))
theorem ql{a0:(List Int)}{a1:(List Int)}{y:(List Int)}(h:oD a0 a1=some y):Spec gP 83 [.d (.list (zA (eInt .u32) a0)),.d (.list (zA (eInt .u32) a1))] (.d (.list (zA (eInt .u32) y))):=by
 refine auA Tryz.func83 (λy:(List Int)=>.d (.list (zA (eInt .u32) y))) ?_ h
 unfold oD
 refine .sA ?_
 refine .seqK (.guard λq1=>.guard λq2=>.regionW λe h=>regW.alt 5 rfl ?_)
 simp only[seval,EMA]
 refine kj (en:=(eInt .u32)) (z:=0) rfl rfl og jP rfl rfl (ra q1) q2 (regW.of ?_)
 simp only[seval,EMA]
 refine mU e (.seqK (.sA ?_)) h
 refine Mir.jOB (λ_=>rfl) ?_ ?_
 refine .block (.guard λq3=>Mir.rF q3 (λ_ _=>rfl) (by simp only[seval,FMA,zNI]) (by simp only[seval,FMA,zNI]) ?_ ?_)
 intro i1 e1 v1 q4
 refine .seqK (.sR λe h=>?_)
 simp only[seval,EMA,q4]
 refine mU e (.condT rfl (.skip (Mir.toK (.seqK (Mir.jOB (λ_=>rfl) ?_ ?_))))) h
 refine .block (.sA ?_)
 refine .seqK (.sA ?_)
 refine Mir.jOB (λ_=>rfl) ?_ ?_
 refine .block (.guard λq5=>Mir.rF q5 (λ_ _=>rfl) (by simp only[seval,FMA,zNI]) (by simp only[seval,FMA,zNI]) ?_ ?_)
 intro i2 e2 v2 q6
 refine .seqK (.sR λe h=>?_)
 simp only[seval,EMA,q6]
 refine mU e (.condT rfl (.skip (Mir.toK (.seqK (.block (.seqK (.bind λe3 q7=>?_))))))) h
 replace q7:=gq q7
 refine Mir.regionS (by kernel_rfl) λe h=>stW.alt 5 rfl (by kernel_rfl) ?_
 simp only[seval,EMA]
 refine st_indexR rfl rfl rfl eu bJ (fT q7.1) (fU q7.2 q7.1) (stW.alt 0 rfl (by kernel_rfl) ?_)
 simp only[seval,EMA]
 refine st_loadR rfl rfl (fi q7.2) (by simp only[↓reduceIte,nA,nL,mo,ag_264,bJ,fR,iS,SV,eInt]<;>rfl) (stW.of (by kernel_rfl) ?_)
 simp only[seval,EMA,q4,zF,q6]
 refine mU e (.seqK (.bind λe4 q8=>?_)) h
 replace q8:=gq q8
 refine .regionW λe h=>regW.alt 7 rfl ?_
 simp only[seval,EMA]
 refine ci rfl rfl rfl eu bJ (fT q8.1) (fU q8.2 q8.1) (regW.alt 0 rfl ?_)
 simp only[seval,EMA]
 refine bU rfl rfl (fi q8.2) rfl rfl bJ rfl (zB rfl) (regW.of ?_)
 exact zzA
 exact zzA
 intro v3
 refine Mir.toK (.bind λe5 q10=>?_)
 replace q10:=gq q10
 refine .regionW λe h=>regW.alt 7 rfl ?_
 simp only[seval,EMA]
 refine ci rfl rfl rfl eu bJ (fT q10.1) (fU q10.2 q10.1) (regW.alt 0 rfl ?_)
 simp only[seval,EMA]
 refine bU rfl rfl (fi q10.2) rfl rfl bJ rfl (zB rfl) (regW.of ?_)
 exact zzA
 exact zzA
 exact zzA
 intro v5
 refine Mir.toK (.seqK (.frz 0 rfl ?_))
 exact zzA
instance:Sp 83 (type_of% @ql):=⟨@ql⟩
def mn(a0:am)(a1:am):Option am:=ac (oD a0.Limbs a1.Limbs) λ(y1:(List Int))=>ac (dQ (!(a0.Neg==a1.Neg)) y1) λ(y2:am)=>some y2
instance r01_Mul_spec:Sp 31 (∀{a0:am} {a1:am},Ct 31 [.agg (cU a0),.agg (cU a1)] (λy:am=>.agg [.d (.bool y.Neg),.d (.list (zA (eInt .u32) y.Limbs))]) (mn a0 a1)):=⟨zzF Tryz.func31 (mn.eq_1 ..)⟩
def kd(a0:(List Int)):Option Int:=ac (dR (λ(v1:Int×Int)=>lF ([dL (eInt .u32) a0,U,U,.d (.int .u64 v1.1),dI v1.2]++us 16) ⟨[],[]⟩ ( if (decide (v1.2≥0))=true then ac (gt a0 v1.2) λ(e1:Int)=>some (.go (zO.wrap ((zO.wrap (v1.1*1000000000))+(zO.wrap e1)),zL.wrap (v1.2-1)))else some (.ret v1.1))) fuel (0,zL.wrap ((a0.length:Int)-1))) λ(v2:Int)=>jB 0 ([U,U,U,.d (.int .u64 v2)]++us 17) ⟨[],[]⟩ ( some v2)
instance r01_short_spec:Sp 169 (∀{a0:(List Int)},Ct 169 [.d (.list (zA (eInt .u32) a0))] (λy:Int=>.d (.int .u64 y)) (kd a0)):=⟨zzF Tryz.func169 (kd.eq_1 ..)⟩
def oG(a0:(List Int))(a1:(List Int)):Option ((List Int)×(List Int)):=jV 1 ([dL (eInt .u32) a0,dL (eInt .u32) a1]++us 26++[dB ((decide ((a0.length:Int)≤2))&&(decide ((a1.length:Int)≤2)))]++us 144) ⟨[],[]⟩ ( if ((decide ((a0.length:Int)≤2))&&(decide ((a1.length:Int)≤2)))=true then ac (kd a0) λ(y1:Int)=>ac (kd a1) λ(y2:Int)=>aA (!(y2==0)) ( ac (jb (zO.wrap (zE y1 y2))) λ(y3:(List Int))=>aA (!(y2==0)) ( ac (jb (zH y1 y2)) λ(y4:(List Int))=>some (y3,y4)))else none)
instance r01_parts_spec:Sp 168 (∀{a0:(List Int)} {a1:(List Int)},Ct 168 [.d (.list (zA (eInt .u32) a0)),.d (.list (zA (eInt .u32) a1))] (λy:(List Int)×(List Int)=>.tuple [.d (.list (zA (eInt .u32) y.1)),.d (.list (zA (eInt .u32) y.2))]) (oG a0 a1)):=⟨zzF Tryz.func168 (oG.eq_1 ..)⟩
def r01_Sub(a0:am)(a1:am):Option am:=ac (qC a1) λ(y1:am)=>ac (oI a0 y1) λ(y2:am)=>some y2
instance r01_Sub_spec:Sp 170 (∀{a0:am} {a1:am},Ct 170 [.agg (cU a0),.agg (cU a1)] (λy:am=>.agg [.d (.bool y.Neg),.d (.list (zA (eInt .u32) y.Limbs))]) (r01_Sub a0 a1)):=⟨zzF Tryz.func170 (r01_Sub.eq_1 ..)⟩
def kP(a0:am)(a1:am):Option (am×am×Int):=if ((a1.Limbs.length:Int)==0)=true then some (am.mk false [],am.mk false [],6)else ac (oG a0.Limbs a1.Limbs) λ(y1:(List Int)×(List Int))=>ac (dQ (!(a0.Neg==a1.Neg)) y1.1) λ(y2:am)=>ac (dQ a0.Neg y1.2) λ(y3:am)=>jV 5 ([U,U,U,.ptr 1 0,.ptr 2 0,.ptr 3 0,U,U,U,.ptr 4 0,.ptr 5 0]++us 34++[dB ((decide ((y1.2.length:Int)>0))&&(!(a0.Neg==a1.Neg)))]++us 8) ⟨[(cU a0),(cU a1),[dB false,.nil],[dB false,.nil],(cU y2),(cU y3)],[]⟩ ( ac (if ((decide ((y1.2.length:Int)>0))&&(!(a0.Neg==a1.Neg)))=true then ac (fa 1) λ(y4:am)=>ac (r01_Sub y2 y4) λ(y5:am)=>ac (oI y3 a1) λ(y6:am)=>some (y5,y6)else some (y2,y3)) λ(v1:am×am)=>jC ([U,U,U,U,.ptr 2 0,.ptr 3 0,U,U,U,.ptr 4 0,.ptr 5 0]++us 43) ⟨[(cU a0),(cU a1),[dB false,.nil],[dB false,.nil],(cU v1.1),(cU v1.2)],[]⟩ ( some (v1.1,v1.2,0)))
theorem oH{a0:am}{a1:am}{y:am×am×Int}(h:kP a0 a1=some y):Spec gP 87 [.agg (cU a0),.agg (cU a1)] (.tuple [.agg [.d (.bool y.1.Neg),.d (.list (zA (eInt .u32) y.1.Limbs))],.agg [.d (.bool y.2.1.Neg),.d (.list (zA (eInt .u32) y.2.1.Limbs))],.d (.int .i64 y.2.2)]):=by
 refine auA Tryz.func87 (λy:am×am×Int=>.tuple [.agg [.d (.bool y.1.Neg),.d (.list (zA (eInt .u32) y.1.Limbs))],.agg [.d (.bool y.2.1.Neg),.d (.list (zA (eInt .u32) y.2.1.Limbs))],.d (.int .i64 y.2.2)]) ?_ h
 unfold kP
 refine .sA ?_
 refine .seqK (.sA ?_)
 refine .cond rfl (λhb2=>?_) (λhb2=>?_)
 refine .sA ?_
 refine .ret QA
 refine .skip (Mir.toK (.seqK (.bind λy1 hy3=>.region λe h=>WA ?_)))
 refine .byA (r01_parts_spec.1 _ hy3) (mA ?_ h)
 refine .seqK (.bind λy2 hy4=>.bind λy3 hy5=>.regionD [] (by kernel_rfl) λe h=>?_)
 simp only[seval,EMA,SB]
 refine Spec.by (oE.1 _ hy4) (by simp only[seval,FMA]) ?_
 simp only[seval,EMA,SB]
 refine Spec.by (oE.1 _ hy5) (by simp only[seval,FMA]) ?_
 simp only[seval,EMA,SB]
 refine mU e (.seqK (.seqK (Mir.jV rfl ?_ ?_))) h
 refine SWs.region ?_
 rcases Bool.eq_false_or_eq_true (decide ((y1.2.length:Int)>0))with hb6 | hb6
 simp only[seval,EMA,SL,PB,hb6]
 simp only[seval,EMA,SL,PB,hb6]
 refine Mir.toK (Mir.jOC (λ_=>rfl) ?_ ?_)
 refine .cond rfl (λhb11=>?_) (λhb11=>?_)
 refine .bind λy4 hy12=>.bind λy5 hy13=>.bind λy6 hy14=>.regionD [] (by kernel_rfl) λe h=>?_
 simp only[seval,EMA,SB]
 refine Spec.by (r01_FromInt64_spec.1 _ hy12) (by simp only[seval,FMA]) ?_
 simp only[seval,EMA,SB]
 refine Spec.by (r01_Sub_spec.1 _ hy13) (by simp only[seval,FMA]) ?_
 simp only[seval,EMA,SB]
 refine Spec.by (r01_Add_spec.1 _ hy14) (by simp only[seval,FMA]) ?_
 simp only[seval,EMA,SB]
 cases h
 simp only[seval,FMA]
 refine .skip QA
 intro v1
 refine Mir.toK (.seqK (.regionD [(10,4)] (by kernel_rfl) λe h=>?_))
 simp only[seval,EMA,SB]
 refine mU e (.ret QA) h
instance:Sp 87 (type_of% @oH):=⟨@oH⟩
def r01_GCD(a0:am)(a1:am):Option am:=ac (dR (λ(v1:Unit)=>lF ([U,U,U,U,.ptr 2 0,dL (eInt .u32) a0.Limbs,dL (eInt .u32) a1.Limbs]++us 47) ⟨[(cU a0),(cU a1),[dB false,.nil]],[]⟩ ( jV 2 ([U,U,U,U,.ptr 2 0,dL (eInt .u32) a0.Limbs,dL (eInt .u32) a1.Limbs]++us 20++[dB ((decide ((a1.Limbs.length:Int)>0))&&((decide ((a0.Limbs.length:Int)>2))||(decide ((a1.Limbs.length:Int)>2))))]++us 26) ⟨[(cU a0),(cU a1),[dB false,.nil]],[]⟩ ( if ((decide ((a1.Limbs.length:Int)>0))&&((decide ((a0.Limbs.length:Int)>2))||(decide ((a1.Limbs.length:Int)>2))))=true then none else some (.ret ())))) fuel ()) λ(v2:Unit)=>jB 0 ([U,U,U,U,.ptr 2 0,dL (eInt .u32) a0.Limbs,dL (eInt .u32) a1.Limbs]++us 47) ⟨[(cU a0),(cU a1),[dB false,.nil]],[]⟩ ( if ((a1.Limbs.length:Int)==0)=true then ac (dQ false a0.Limbs) λ(y1:am)=>some y1 else ac (kd a0.Limbs) λ(y2:Int)=>ac (kd a1.Limbs) λ(y3:Int)=>ac (dR (λ(v3:Int×Int)=>lF ([U,U,U,U,.ptr 2 0,U,U,U,U,.d (.int .u64 v3.1),.d (.int .u64 v3.2)]++us 43) ⟨[(cU a0),(cU a1),[dB false,.nil]],[]⟩ ( if (decide (v3.2>0))=true then aA (!(v3.2==0)) ( some (.go (v3.2,zH v3.1 v3.2)))else some (.ret v3.1))) fuel (y2,y3)) λ(v4:Int)=>jB 2 ([U,U,U,U,.ptr 2 0,U,U,U,U,.d (.int .u64 v4)]++us 44) ⟨[(cU a0),(cU a1),[dB false,.nil]],[]⟩ ( ac (jb v4) λ(y4:(List Int))=>ac (dQ false y4) λ(y5:am)=>some y5))
instance r01_GCD_spec:Sp 86 (∀{a0:am} {a1:am},Ct 86 [.agg (cU a0),.agg (cU a1)] (λy:am=>.agg [.d (.bool y.Neg),.d (.list (zA (eInt .u32) y.Limbs))]) (r01_GCD a0 a1)):=⟨zzF Tryz.func86 (r01_GCD.eq_1 ..)⟩
def r01_Sign(a0:am):Option Int:=if ((a0.Limbs.length:Int)==0)=true then some 0 else if a0.Neg=true then some (-1)else some 1
instance r01_Sign_spec:Sp 84 (∀{a0:am},Ct 84 [.agg (cU a0)] (λy:Int=>.d (.int .i64 y)) (r01_Sign a0)):=⟨zzF Tryz.func84 (r01_Sign.eq_1 ..)⟩
end Go.Proofs.YtphbhdoljnokkaaGreatDoor
