import Derived.Test.YtjemmjpdmbenkaaGreatDoorMA
import Derived.Test.YtjemmjpdmbenkaaGreatDoorMB
import Derived.Test.YtjemmjpdmbenkaaGreatDoorMH
import Derived.Test.YtjemmjpdmbenkaaGreatDoorMW
import Derived.Test.YtjemmjpdmbenkaaGreatDoorMP
open List renaming map → zA,replicate → zB,length → zE,all_cons → zG,all_nil → zH
open Int renaming toNat_natCast → zD,tdiv → zF
open Go.IntKind renaming i64 → zI
namespace Go.Proofs.YtjemmjpdmbenkaaGreatDoor
open Go.RowKit
open Nat renaming reduceAdd → nA,reduceSub → nS,reduceMul → nM,reduceEqDiff → nE,reduceLeDiff → nL,reduceLT → nT,reduceBEq → nB
open Int renaming reduceLT → iT,reduceToNat → iN,reduceEq → iE
set_option linter.unusedVariables false
set_option linter.unusedSimpArgs false
set_option maxRecDepth 100000
set_option maxHeartbeats 8000000
def lp(a0:aa)(a1:Int)(a2:Int):Option Bool:=ah (gk a0 a1) λ(y1:(List Int))=>ah (aU y1 a2) λ(y2:Bool)=>some y2
instance sp_has_spec:Sp 50 (∀{a0:aa} {a1:Int} {a2:Int},Ct 50 [.agg (cC a0),.d (.int .u8 a1),dI a2] (λy:Bool=>.d (.bool y)) (lp a0 a1 a2)):=⟨zzF Tryz.func50 (lp.eq_1 ..)⟩
def fU(a0:aa):Option Bool:=ah (lp a0 77 30000) λ(y1:Bool)=>some y1
instance sp_Split_c1_spec:Sp 49 (∀{a0:aa},Ct 49 [.agg (cC a0)] (λy:Bool=>.d (.bool y)) (fU a0)):=⟨zzF Tryz.func49 (fU.eq_1 ..)⟩
def bn(a0:List aa):Option (List aa):=av (bo a0.length) (some a0)
variable {c0:Nat}{y:List aa}
theorem fq(h:(some [])=some y):Spec gP 51 [.d (.other (.slice none 0 c0))] (.d (.list (zA ac y))):=by
 refine jq Tryz.func51 rfl (by kernel_rfl) (by kernel_rfl) (λy:List aa=>.d (.list (zA ac y))) ?_ h
 simp only[zB,zE,nS,nA,Tryz.ntmps51,SV]
 refine .sA ?_
 refine .seqK (.sA ?_)
 refine .condT rfl (.sA ?_)
 refine .ret QA
variable {p0:Addr}
theorem fp(h:(some [])=some y):Spec gP 51 [.d (.other (.slice (some p0) 0 c0))] (.d (.list (zA ac y))):=by
 refine jq Tryz.func51 rfl (by kernel_rfl) (by kernel_rfl) (λy:List aa=>.d (.list (zA ac y))) ?_ h
 simp only[zB,zE,nS,nA,Tryz.ntmps51,SV]
 refine .sA ?_
 refine .seqK (.sA ?_)
 refine .condF rfl (.skip (Mir.toK (.sR λe h=>?_)))
 simp only[seval,EMA,(oL 0),zG,zH]
 refine mU e (.ret QA) h
theorem ft{x0:aa}{l0:List aa}(h:(av (bo ((x0::l0).length)) (   some (x0::l0)))=some y):Spec gP 51 [.d (.list (zA ac (x0::l0)))] (.d (.list (zA ac y))):=by
 refine jq Tryz.func51 rfl (by kernel_rfl) (by kernel_rfl) (λy:List aa=>.d (.list (zA ac y))) ?_ h
 simp only[zB,zE,nS,nA,Tryz.ntmps51,SV]
 refine .sA ?_
 refine .seqK (.sA ?_)
 refine .condF rfl (.skip (Mir.toK (.seqK (.guard λq1=>.region λe h=>?_))))
 simp only[seval,EMA,(oL 0),q1]
 refine mU e (.ret QA) h
theorem b9{a0:List aa}{y:List aa}(h:bn a0=some y):Spec gP 51 [.d (.list (zA ac a0))] (.d (.list (zA ac y))):=by
 obtain⟨hl,h⟩:=fZ h
 cases h
 cases a0 with
 | nil =>
  refine Spec.nilcase λA c=>?_
  cases A with
  | none=>exact fq rfl
  | some p=>exact fp rfl
 | cons x l=>exact ft (by simp only[av,hl])
instance:Sp 51 (type_of% @b9):=⟨@b9⟩
def mi(a0:aa):Option Bool:=jV 1 ([U,U,dB (((a0.Words.length:Int)==1)&&(!a0.Skip&&(a0.Comment==[])))]++us 14) ⟨[(cC a0)],[]⟩ ( some (((a0.Words.length:Int)==1)&&(!a0.Skip&&(a0.Comment==[]))))
instance sp_plain_spec:Sp 54 (∀{a0:aa},Ct 54 [.agg (cC a0)] (λy:Bool=>.d (.bool y)) (mi a0)):=⟨zzF Tryz.func54 (mi.eq_1 ..)⟩
def mh(a0:Int):Option (Int×Bool):=jV 2 ([U,U,dI (zI.wrap (zF a0 1000)),dB (((Int.tmod a0 1000)==0)&&((decide ((zI.wrap (zF a0 1000))≥1))&&(decide ((zI.wrap (zF a0 1000))≤9999))))]++us 15) ⟨[],[]⟩ ( some (zI.wrap (zF a0 1000),((Int.tmod a0 1000)==0)&&((decide ((zI.wrap (zF a0 1000))≥1))&&(decide ((zI.wrap (zF a0 1000))≤9999)))))
instance sp_whole_spec:Sp 97 (∀{a0:Int},Ct 97 [dI a0] (λy:Int×Bool=>.tuple [.d (.int .i64 y.1),.d (.bool y.2)]) (mh a0)):=⟨zzF Tryz.func97 (mh.eq_1 ..)⟩
def gz(a0:aa):Option (Int×Bool):=ah (ah (mi a0) λ(y1:Bool)=>if y1=true then ah (gt a0.Words 0) λ(e1:ay)=>some (e1.Letter != 79)else some true) λ(v1:Bool)=>jR 1 ([U,.ptr 0 0]++us 12++[dB v1]++us 8) ⟨[(cC a0)],[]⟩ ( if v1=true then some (0,false)else ah (gt a0.Words 0) λ(e2:ay)=>ah (mh e2.Value) λ(y2:Int×Bool)=>some (y2.1,y2.2))
instance sp_beginning_spec:Sp 52 (∀{a0:aa},Ct 52 [.agg (cC a0)] (λy:Int×Bool=>.tuple [.d (.int .i64 y.1),.d (.bool y.2)]) (gz a0)):=⟨zzF Tryz.func52 (gz.eq_1 ..)⟩
def fT(a0:aa):Option Bool:=ah (ah (mi a0) λ(y1:Bool)=>if y1=true then ah (lp a0 77 99000) λ(y2:Bool)=>some y2 else some false) λ(v1:Bool)=>jR 1 ([U,U,dB v1]++us 6) ⟨[(cC a0)],[]⟩ ( some v1)
instance sp_Split_c2_spec:Sp 53 (∀{a0:aa},Ct 53 [.agg (cC a0)] (λy:Bool=>.d (.bool y)) (fT a0)):=⟨zzF Tryz.func53 (fT.eq_1 ..)⟩
def gw(a0:aa):Option Bool:=ah (ah (gk a0 79) λ(y1:(List Int))=>if (decide ((y1.length:Int)>0))=true then some true else ah (lp a0 77 30000) λ(y2:Bool)=>if y2=true then some true else ah (lp a0 77 99000) λ(y3:Bool)=>some y3) λ(v1:Bool)=>jR 1 ([U,U,dB v1]++us 12) ⟨[(cC a0)],[]⟩ ( some v1)
instance sp_marked_spec:Sp 99 (∀{a0:aa},Ct 99 [.agg (cC a0)] (λy:Bool=>.d (.bool y)) (gw a0)):=⟨zzF Tryz.func99 (gw.eq_1 ..)⟩
def d9(a0:aH):Option Bool:=ah (iF 98 (λv1:Bool=>.d (.bool v1)) (λv1:Bool=>⟨[(cN a0)],[]⟩) (ah (iF 48 (λv2:Int=>.d (.int .i64 v2)) (λv2:Int=>⟨[(cN a0)],[]⟩) (bindX (av (be a0.Blocks) ( az (λ(i1:Nat) (e1:aa) (v3:Unit)=>rF ([dL ac a0.Blocks,.fn 99 [],U,U,U,U,U,dI (a0.Blocks.length:Int),dI (i1:Int)]++us 10) ⟨[(cN a0)],[]⟩ ( ah (gw e1) λ(y1:Bool)=>if y1=true then some (.ret (.ret (i1:Int)))else some (.go ()))) (λ(v3:Unit)=>some (.go ())) a0.Blocks 0 ())) λ(v4:Unit)=>jB 0 (us 19) ⟨[(cN a0)],[]⟩ ( some (-1)))) λ(v2:Int)=>some (decide (v2≥0)))) λ(v1:Bool)=>some v1
instance sp_ordered_c1_spec:Sp 101 (∀{a0:aH},Ct 101 [.agg (cN a0)] (λy:Bool=>.d (.bool y)) (d9 a0)):=⟨zzF Tryz.func101 (d9.eq_1 ..)⟩
def iw(a0:aD):Option Bool:=ah (if (decide ((zI.wrap ((a0.Main.length:Int)-1))<0))=true then some true else ah (gt a0.Main (zI.wrap ((a0.Main.length:Int)-1))) λ(e1:aa)=>ah (lp e1 77 30000) λ(y1:Bool)=>if y1=true then ah (gk e1 79) λ(y2:(List Int))=>if (decide ((y2.length:Int)>0))=true then some true else ah (lp e1 77 99000) λ(y3:Bool)=>if y3=true then some true else ah (cutT a0.Main (zI.wrap ((a0.Main.length:Int)-1))) λ(s1:(List aa))=>ah (iF 98 (λv1:Bool=>.d (.bool v1)) (λv1:Bool=>⟨[(cO a0)],[]⟩) (ah (iF 48 (λv2:Int=>.d (.int .i64 v2)) (λv2:Int=>⟨[(cO a0)],[]⟩) (bindX (av (be s1) ( az (λ(i1:Nat) (e2:aa) (v3:Unit)=>rF ([dL ac s1,.fn 99 [],U,U,U,U,U,dI (s1.length:Int),dI (i1:Int)]++us 10) ⟨[(cO a0)],[]⟩ ( ah (gw e2) λ(y4:Bool)=>if y4=true then some (.ret (.ret (i1:Int)))else some (.go ()))) (λ(v3:Unit)=>some (.go ())) s1 0 ())) λ(v4:Unit)=>jB 0 (us 19) ⟨[(cO a0)],[]⟩ ( some (-1)))) λ(v2:Int)=>some (decide (v2≥0)))) λ(v1:Bool)=>some v1 else some true) λ(v5:Bool)=>jR 2 ([U,.ptr 0 0]++us 41++[dB v5]++us 4) ⟨[(cO a0)],[]⟩ ( if v5=true then some false else ah (iF 100 (λv6:Bool=>.d (.bool v6)) (λv6:Bool=>⟨[(cO a0)],[]⟩) (ah (iF 136 (λv7:Int=>.d (.int .i64 v7)) (λv7:Int=>⟨[(cO a0)],[]⟩) (bindX (av (be a0.Subs) ( az (λ(i2:Nat) (e3:aH) (v8:Unit)=>rF ([dL aJ a0.Subs,.fn 101 [],U,U,U,U,U,dI (a0.Subs.length:Int),dI (i2:Int)]++us 10) ⟨[(cO a0)],[]⟩ ( ah (d9 e3) λ(y5:Bool)=>if y5=true then some (.ret (.ret (i2:Int)))else some (.go ()))) (λ(v8:Unit)=>some (.go ())) a0.Subs 0 ())) λ(v9:Unit)=>jB 0 (us 19) ⟨[(cO a0)],[]⟩ ( some (-1)))) λ(v7:Int)=>some (decide (v7≥0)))) λ(v6:Bool)=>some (!v6))
theorem ll{a0:aD}{y:Bool}(h:iw a0=some y):Spec gP 55 [.agg (cO a0)] (.d (.bool y)):=by
 refine auA Tryz.func55 (λy:Bool=>.d (.bool y)) ?_ h
 unfold iw
 refine .sA ?_
 refine .sA ?_
 refine .seqK (.seqK (Mir.jOR (λ_=>rfl) ?_ ?_))
 refine .ite (λhb1=>?_) (λhb1=>?_)
 exact zzA
 refine .bind λe1 q2=>?_
 replace q2:=gM q2
 refine .bind λy1 hy3=>.ite (λhb4=>?_) (λhb4=>?_)
 refine .bind λy2 hy5=>.ite (λhb6=>?_) (λhb6=>?_)
 exact zzA
 refine .bind λy3 hy7=>.ite (λhb8=>?_) (λhb8=>?_)
 exact zzA
 refine .bind λs1 q9=>?_
 replace q9:=cutT_ok q9
 refine .bind λv1 hv81=>.region λe h=>?_
 simp only[seval,EMA,q2,hb1,hb4,hb6,hb8]
 refine aY.by (sp_has_spec.1 _ hy3) (by simp only[seval,FMA,hb1,hb4,hb6,hb8]) ?_
 simp only[seval,EMA,q2,hb1,hb4,hb6,hb8]
 exact zzA
 exact zzA
 exact zzA
instance:Sp 55 (type_of% @ll):=⟨@ll⟩
def fS(a0:(List aH)):Option Bool:=bindX (av (be a0) ( az (λ(i1:Nat) (e1:aH) (v1:Unit)=>rF ([dL aJ a0,U,U,U,U,dL aJ a0,dI (a0.length:Int),dI (i1:Int)]++us 10) ⟨[],[]⟩ ( ah (cutT a0 (i1:Int)) λ(s1:(List aH))=>ah (iF 100 (λv2:Bool=>.d (.bool v2)) (λv2:Bool=>⟨[(cN e1)],[]⟩) (ah (iF 136 (λv3:Int=>.d (.int .i64 v3)) (λv3:Int=>⟨[(cN e1)],[]⟩) (bindX (av (be s1) ( az (λ(i2:Nat) (e2:aH) (v4:Unit)=>rF ([dL aJ s1,.fn 102 [.ptr 0 0],U,U,U,U,U,dI (s1.length:Int),dI (i2:Int)]++us 10) ⟨[(cN e1)],[]⟩ ( ah (iF 102 (λv5:Unit=>.d (.bool (e1.Number==e2.Number))) (λv5:Unit=>⟨[(cN e1)],[]⟩) (some ())) λ(v5:Unit)=>if (e1.Number==e2.Number)=true then some (.ret (.ret (i2:Int)))else some (.go ()))) (λ(v4:Unit)=>some (.go ())) s1 0 ())) λ(v6:Unit)=>jB 0 (us 19) ⟨[(cN e1)],[]⟩ ( some (-1)))) λ(v3:Int)=>some (decide (v3≥0)))) λ(v2:Bool)=>if v2=true then some (.ret (.ret true))else some (.go ()))) (λ(v1:Unit)=>some (.go ())) a0 0 ())) λ(v7:Unit)=>jB 0 (us 18) ⟨[],[]⟩ ( some false)
instance sp_repeated_spec:Sp 56 (∀{a0:(List aH)},Ct 56 [.d (.list (zA aJ a0))] (λy:Bool=>.d (.bool y)) (fS a0)):=⟨zzF Tryz.func56 (fS.eq_1 ..)⟩
def sp_Split(a0:(List aa)):Option (aD×Int):=ah (iF 48 (λv1:Int=>.d (.int .i64 v1)) (λv1:Int=>⟨[[.nil,.nil]],[]⟩) (bindX (av (be a0) ( az (λ(i1:Nat) (e1:aa) (v2:Unit)=>rF ([dL ac a0,.fn 49 [],U,U,U,U,U,dI (a0.length:Int),dI (i1:Int)]++us 10) ⟨[[.nil,.nil]],[]⟩ ( ah (fU e1) λ(y1:Bool)=>if y1=true then some (.ret (.ret (i1:Int)))else some (.go ()))) (λ(v2:Unit)=>some (.go ())) a0 0 ())) λ(v3:Unit)=>jB 0 (us 19) ⟨[[.nil,.nil]],[]⟩ ( some (-1)))) λ(v1:Int)=>if (decide (v1<0))=true then some (aD.mk [] [],1)else ah (cutT a0 (zI.wrap (v1+1))) λ(s1:(List aa))=>ah (bn s1) λ(y2:(List aa))=>ah (cutF a0 (zI.wrap (v1+1))) λ(s2:(List aa))=>gF [.cell 1 1 121] ( bindX (bt (λ(v4:(List aa)×(List aH))=>lF ([U,U,.ptr 0 0,U,U,.ptr 1 0,dL ac v4.1]++us 61) ⟨[[.nil,.nil],[dL ac y2,.own 0 (zA aJ v4.2)]],[(121,v4.2.length)]⟩ ( if (decide ((v4.1.length:Int)>0))=true then ah (gt v4.1 0) λ(e2:aa)=>ah (gz e2) λ(y3:Int×Bool)=>ah (iF 48 (λv5:Int=>.d (.int .i64 v5)) (λv5:Int=>⟨[[.nil,.nil],[dL ac y2,.own 0 (zA aJ v4.2)]],[(121,v4.2.length)]⟩) (bindX (av (be v4.1) ( az (λ(i2:Nat) (e3:aa) (v6:Unit)=>rF ([dL ac v4.1,.fn 53 [],U,U,U,U,U,dI (v4.1.length:Int),dI (i2:Int)]++us 10) ⟨[[.nil,.nil],[dL ac y2,.own 0 (zA aJ v4.2)]],[(121,v4.2.length)]⟩ ( ah (fT e3) λ(y4:Bool)=>if y4=true then some (.ret (.ret (i2:Int)))else some (.go ()))) (λ(v6:Unit)=>some (.go ())) v4.1 0 ())) λ(v7:Unit)=>jB 0 (us 19) ⟨[[.nil,.nil],[dL ac y2,.own 0 (zA aJ v4.2)]],[(121,v4.2.length)]⟩ ( some (-1)))) λ(v5:Int)=>jV 9 ([U,U,.ptr 0 0,U,U,.ptr 1 0,dL ac v4.1,dI y3.1,U,dI v5]++us 32++[dB (!y3.2||(decide (v5<0)))]++us 25) ⟨[[.nil,.nil],[dL ac y2,.own 0 (zA aJ v4.2)]],[(121,v4.2.length)]⟩ ( if (!y3.2||(decide (v5<0)))=true then some (.ret (.ret (aD.mk [] [],1)))else ah (cutL v4.1 1 v5) λ(s3:(List aa))=>ah (bn s3) λ(y5:(List aa))=>av (bo (v4.2.length+1)) ( ah (cutF v4.1 (zI.wrap (v5+1))) λ(s4:(List aa))=>some (.go (s4,v4.2++[aH.mk y3.1 y5]))))else some (.ret (.go v4.2)))) fuel (s2,[])) λ(v8:(List aH))=>jB 0 ([U,U,.ptr 0 0,U,U,.ptr 1 0]++us 62) ⟨[[.nil,.nil],[dL ac y2,.own 0 (zA aJ v8)]],[(121,v8.length)]⟩ ( ah (iw (aD.mk y2 v8)) λ(y6:Bool)=>if (!y6)=true then some (aD.mk [] [],1)else ah (fS v8) λ(y7:Bool)=>if y7=true then some (aD.mk [] [],5)else some (aD.mk y2 v8,0)))
instance sp_Split_spec:Sp 20 (∀{a0:(List aa)},Ct 20 [.d (.list (zA ac a0))] (λy:aD×Int=>.tuple [.agg [.d (.list (zA ac y.1.Main)),.d (.list (zA aJ y.1.Subs))],.d (.int .i64 y.2)]) (sp_Split a0)):=⟨zzF Tryz.func20 (sp_Split.eq_1 ..)⟩
def lk(a0:aD):Option Bool:=bindX (av (be a0.Subs) ( az (λ(i1:Nat) (e1:aH) (v1:Unit)=>rF ([U,.ptr 0 0,U,U,U,U,dL aJ a0.Subs,dI (a0.Subs.length:Int),dI (i1:Int)]++us 20) ⟨[(cO a0)],[]⟩ ( jV 4 ([U,.ptr 0 0,U,U,U,U,dL aJ a0.Subs,dI (a0.Subs.length:Int),dI (i1:Int)]++us 10++[dB ((decide (e1.Number<1))||(decide (e1.Number>9999)))]++us 9) ⟨[(cO a0),(cN e1)],[]⟩ ( if ((decide (e1.Number<1))||(decide (e1.Number>9999)))=true then some (.ret (.ret false))else some (.go ())))) (λ(v1:Unit)=>some (.go ())) a0.Subs 0 ())) λ(v2:Unit)=>jB 0 ([U,.ptr 0 0]++us 27) ⟨[(cO a0)],[]⟩ ( ah (ah (iw a0) λ(y1:Bool)=>if y1=true then ah (fS a0.Subs) λ(y2:Bool)=>some (!y2)else some false) λ(v3:Bool)=>jR 7 ([U,U,dB v3]++us 26) ⟨[(cO a0)],[]⟩ ( some v3))
instance sp_proper_spec:Sp 137 (∀{a0:aD},Ct 137 [.agg (cO a0)] (λy:Bool=>.d (.bool y)) (lk a0)):=⟨zzF Tryz.func137 (lk.eq_1 ..)⟩
def bj(a0:(List (List aa))):Option (List aa):=ah (av (be a0) ( az (λ(i1:Nat) (e1:(List aa)) (v1:Int)=>rF ([dL (bC ac) a0,U,U,dI v1,U,U,U,U,U,dL (bC ac) a0,dI (a0.length:Int),dI (i1:Int)]++us 24) ⟨[],[]⟩ ( if (decide ((zI.wrap (v1+(e1.length:Int)))<0))=true then none else some (.go (zI.wrap (v1+(e1.length:Int)))))) (λ(v1:Int)=>some v1) a0 0 0)) λ(v2:Int)=>jB 0 ([dL (bC ac) a0,U,U,dI v2]++us 32) ⟨[],[]⟩ ( av (decide (0≤v2∧v2≤16777216)) ( ah (av (be a0) ( az (λ(i2:Nat) (e2:(List aa)) (v3:(List aa))=>rF (us 6++[.own 0 (zA ac v3)]++us 18++[dL (bC ac) a0,dI (a0.length:Int),dI (i2:Int)]++us 8) ⟨[],[(87,v3.length)]⟩ ( av (bo (v3.length+e2.length)) ( some (.go (v3++e2))))) (λ(v3:(List aa))=>some v3) a0 0 [])) λ(v4:(List aa))=>jB 2 (us 6++[.own 0 (zA ac v4)]++us 29) ⟨[],[(87,v4.length)]⟩ ( some v4)))
theorem bA{a0:(List (List aa))}{y:(List aa)}(h:bj a0=some y):Spec gP 138 [.d (.list (zA (bC ac) a0))] (.d (.list (zA ac y))):=by
 refine auA Tryz.func138 (λy:(List aa)=>.d (.list (zA ac y))) ?_ h
 unfold bj
 refine .sA ?_
 refine .sA ?_
 refine .seqK (.sA ?_)
 refine Mir.jOB (λ_=>rfl) ?_ ?_
 exact zzA
 intro v2
 refine Mir.toK (.seqK (.guard λq55=>.region λe h=>WA ?_))
 refine grow_S q55 ?_
 exact zzA
instance:Sp 138 (type_of% @bA):=⟨@bA⟩
def iO(a0:aa):Option (Int×Int×Bool×Int):=ah (lp a0 77 98000) λ(y1:Bool)=>if (!y1)=true then some (0,0,false,0)else ah (av (be a0.Words) ( az (λ(i1:Nat) (e1:ay) (v1:Int×Int×Bool×(List (Int×Int)))=>rF (us 6++[.mp 1,dI v1.1,dI v1.2.1,dB v1.2.2.1]++us 9++[dL aw a0.Words,dI (a0.Words.length:Int),dI (i1:Int)]++us 58) ⟨[(cC a0),[.mapc .u8 (zA (ekv (evI .i64)) v1.2.2.2)]],[]⟩ ( ah (ah (mh e1.Value) λ(y2:Int×Bool)=>if (e1.Letter==80)=true then jV 13 (us 6++[.mp 1,dI y2.1,dI v1.2.1,dB (v1.2.2.1&&y2.2)]++us 9++[dL aw a0.Words,dI (a0.Words.length:Int),dI (i1:Int)]++us 58) ⟨[(cC a0),[.mapc .u8 (zA (ekv (evI .i64)) (mput v1.2.2.2 e1.Letter (zI.wrap (((mget v1.2.2.2 e1.Letter).getD 0)+1))))],(cK e1)],[]⟩ ( some (y2.1,v1.2.1,v1.2.2.1&&y2.2))else if (e1.Letter==76)=true then jV 15 (us 6++[.mp 1,dI v1.1,dI y2.1,dB (v1.2.2.1&&y2.2)]++us 9++[dL aw a0.Words,dI (a0.Words.length:Int),dI (i1:Int)]++us 58) ⟨[(cC a0),[.mapc .u8 (zA (ekv (evI .i64)) (mput v1.2.2.2 e1.Letter (zI.wrap (((mget v1.2.2.2 e1.Letter).getD 0)+1))))],(cK e1)],[]⟩ ( some (v1.1,y2.1,v1.2.2.1&&y2.2))else ah (if (e1.Letter==77)=true then some (e1.Letter==77)else some (e1.Letter==78)) λ(v2:Bool)=>jC (us 6++[.mp 1,dI v1.1,dI v1.2.1,dB v1.2.2.1]++us 9++[dL aw a0.Words,dI (a0.Words.length:Int),dI (i1:Int)]++us 30++[dB v2]++us 27) ⟨[(cC a0),[.mapc .u8 (zA (ekv (evI .i64)) (mput v1.2.2.2 e1.Letter (zI.wrap (((mget v1.2.2.2 e1.Letter).getD 0)+1))))],(cK e1)],[]⟩ ( if v2=true then some (v1.1,v1.2.1,v1.2.2.1)else some (v1.1,v1.2.1,false))) λ(v3:Int×Int×Bool)=>jB 1 (us 6++[.mp 1,dI v3.1,dI v3.2.1,dB v3.2.2]++us 9++[dL aw a0.Words,dI (a0.Words.length:Int),dI (i1:Int)]++us 58) ⟨[(cC a0),[.mapc .u8 (zA (ekv (evI .i64)) (mput v1.2.2.2 e1.Letter (zI.wrap (((mget v1.2.2.2 e1.Letter).getD 0)+1))))]],[]⟩ ( some (.go (v3.1,v3.2.1,v3.2.2,mput v1.2.2.2 e1.Letter (zI.wrap (((mget v1.2.2.2 e1.Letter).getD 0)+1))))))) (λ(v1:Int×Int×Bool×(List (Int×Int)))=>some (v1.1,v1.2.1,v1.2.2.1,v1.2.2.2)) a0.Words 0 (0,1,true,[]))) λ(v4:Int×Int×Bool×(List (Int×Int)))=>jB 0 (us 6++[.mp 1,dI v4.1,dI v4.2.1,dB v4.2.2.1]++us 70) ⟨[(cC a0),[.mapc .u8 (zA (ekv (evI .i64)) v4.2.2.2)]],[]⟩ ( ah (if v4.2.2.1=true then if (((mget v4.2.2.2 77).getD 0) != 1)=true then some true else if (((mget v4.2.2.2 80).getD 0) != 1)=true then some true else if (decide (((mget v4.2.2.2 76).getD 0)>1))=true then some true else some (decide (((mget v4.2.2.2 78).getD 0)>1))else some true) λ(v5:Bool)=>jR 19 (us 7++[dI v4.1,dI v4.2.1]++us 68++[dB v5,U,U]) ⟨[(cC a0),[.mapc .u8 (zA (ekv (evI .i64)) v4.2.2.2)]],[]⟩ ( if v5=true then some (0,0,false,1)else some (v4.1,v4.2.1,true,0)))
theorem fa{a0:aa}{y:Int×Int×Bool×Int}(h:iO a0=some y):Spec gP 105 [.agg (cC a0)] (.tuple [.d (.int .i64 y.1),.d (.int .i64 y.2.1),.d (.bool y.2.2.1),.d (.int .i64 y.2.2.2)]):=by
 refine auA Tryz.func105 (λy:Int×Int×Bool×Int=>.tuple [.d (.int .i64 y.1),.d (.int .i64 y.2.1),.d (.bool y.2.2.1),.d (.int .i64 y.2.2.2)]) ?_ h
 unfold iO
 refine .sA ?_
 refine .seqK (.seqK (.bind λy1 hy1=>.region λe h=>WA ?_))
 refine .byA (sp_has_spec.1 _ hy1) (mA ?_ h)
 refine .cond rfl (λhb3=>?_) (λhb3=>?_)
 exact zzA
 refine .skip (Mir.toK (.seqK (.regionW λe h=>regW.alt 0 rfl ?_)))
 simp only[seval,EMA]
 refine d6 .u8 (regW.of ?_)
 simp only[seval,EMA,xMN]
 refine mU e (.sA ?_) h
 refine .seqK (.sA ?_)
 refine Mir.jOB (λ_=>rfl) ?_ ?_
 refine .block (.guard λq1=>Mir.rF q1 (λ_ _=>rfl) (by simp only[seval,FMA,zNI]) (by simp only[seval,FMA,zNI]) ?_ ?_)
 intro i1 e1 v1 q2
 refine .sR λe h=>?_
 simp only[seval,EMA,q2]
 refine mU e (.seqK (.condT rfl (.skip (Mir.toK (.seqK (Mir.jOB (λ_=>rfl) ?_ ?_)))))) h
 refine .block (.sR λe h=>?_)
 simp only[seval,EMA,q2,zD]
 refine mU e (.seqK (.regionW λe h=>regW.alt 3 rfl ?_)) h
 simp only[seval,EMA]
 refine bv rfl rfl rfl (by simp only[mapT,gR,nq]) jl rfl (regW.alt 1 rfl ?_)
 simp only[seval,EMA,mg_I]
 refine cd (et:=3) rfl rfl rfl rfl (by simp only[mapT,gR,nq]) (regW.of ?_)
 simp only[seval,EMA,mp_I]
 exact zzA
 exact zzA
 exact zzA
 intro v4
 refine Mir.toK (.seqK (.seqK (Mir.jOR (λ_=>rfl) ?_ ?_)))
 refine .ite (λh8=>?_) (λh8=>?_)
 refine .ite (λh9=>?_) (λh9=>?_)
 refine .regionW λe h=>regW.alt 4 rfl ?_
 simp only[seval,EMA,h8,h9]
 refine bv rfl rfl rfl (by simp only[mapT,gR,nq]) jl rfl (regW.of ?_)
 simp only[seval,EMA,mg_I,h8,h9]
 exact zzA
 refine .ite (λh10=>?_) (λh10=>?_)
 refine .regionW λe h=>regW.alt 4 rfl ?_
 simp only[seval,EMA,h8,h9,h10]
 refine bv rfl rfl rfl (by simp only[mapT,gR,nq]) jl rfl (regW.alt 4 rfl ?_)
 simp only[seval,EMA,mg_I,h8,h9,h10]
 refine bv rfl rfl rfl (by simp only[mapT,gR,nq]) jl rfl (regW.of ?_)
 simp only[seval,EMA,mg_I,h8,h9,h10]
 exact zzA
 refine .ite (λh11=>?_) (λh11=>?_)
 refine .regionW λe h=>regW.alt 4 rfl ?_
 simp only[seval,EMA,h8,h9,h10,h11]
 refine bv rfl rfl rfl (by simp only[mapT,gR,nq]) jl rfl (regW.alt 4 rfl ?_)
 simp only[seval,EMA,mg_I,h8,h9,h10,h11]
 refine bv rfl rfl rfl (by simp only[mapT,gR,nq]) jl rfl (regW.alt 4 rfl ?_)
 simp only[seval,EMA,mg_I,h8,h9,h10,h11]
 refine bv rfl rfl rfl (by simp only[mapT,gR,nq]) jl rfl (regW.of ?_)
 simp only[seval,EMA,mg_I,h8,h9,h10,h11]
 exact zzA
 refine .regionW λe h=>regW.alt 4 rfl ?_
 simp only[seval,EMA,h8,h9,h10,h11]
 refine bv rfl rfl rfl (by simp only[mapT,gR,nq]) jl rfl (regW.alt 4 rfl ?_)
 simp only[seval,EMA,mg_I,h8,h9,h10,h11]
 refine bv rfl rfl rfl (by simp only[mapT,gR,nq]) jl rfl (regW.alt 4 rfl ?_)
 simp only[seval,EMA,mg_I,h8,h9,h10,h11]
 refine bv rfl rfl rfl (by simp only[mapT,gR,nq]) jl rfl (regW.alt 4 rfl ?_)
 simp only[seval,EMA,mg_I,h8,h9,h10,h11]
 refine bv rfl rfl rfl (by simp only[mapT,gR,nq]) jl rfl (regW.of ?_)
 simp only[seval,EMA,mg_I,h8,h9,h10,h11]
 exact zzA
 exact zzA
 exact zzA
instance:Sp 105 (type_of% @fa):=⟨@fa⟩
def bM(rc:Int→(List (Int×(List aa)))→(List (Int×Int))→(List (Int×Int))→(List (Int×Int))→Option (Bool×(List (Int×Int))×(List (Int×Int))×(List (Int×Int))))(xc1:Int)(mc1:(List (Int×(List aa))))(mc2:(List (Int×Int)))(mc3:(List (Int×Int)))(mc4:(List (Int×Int))):Option (Bool×(List (Int×Int))×(List (Int×Int))×(List (Int×Int))):=if (((mget mc2 xc1).getD 0)==1)=true then some (false,mc2,mc3,mc4)else if (((mget mc2 xc1).getD 0)==2)=true then some (true,mc2,mc3,mc4)else bindX (av (be ((mget mc1 xc1).getD [])) ( az (λ(i1:Nat) (e1:aa) (v1:(List (Int×Int))×(List (Int×Int))×(List (Int×Int)))=>bindX (ah (iO e1) λ(y1:Int×Int×Bool×Int)=>some (.go (y1.1,y1.2.2.1))) λ(v2:Int×Bool)=>ah (if v2.2=true then ah (rc v2.1 mc1 v1.1 v1.2.1 v1.2.2) λ(v3:Bool×(List (Int×Int))×(List (Int×Int))×(List (Int×Int)))=>some (!v3.1,v3.2.1,v3.2.2.1,v3.2.2.2)else some (false,v1.1,v1.2.1,v1.2.2)) λ(v4:Bool×(List (Int×Int))×(List (Int×Int))×(List (Int×Int)))=>if v4.1=true then some (.ret (.ret (false,v4.2.1,v4.2.2.1,v4.2.2.2)))else some (.go (v4.2.1,v4.2.2.1,v4.2.2.2))) (λ(v1:(List (Int×Int))×(List (Int×Int))×(List (Int×Int)))=>some (.go (v1.1,v1.2.1,v1.2.2))) ((mget mc1 xc1).getD []) 0 (mput mc2 xc1 1,mc3,mc4))) λ(v5:(List (Int×Int))×(List (Int×Int))×(List (Int×Int)))=>ah (ah (av (be ((mget mc1 xc1).getD [])) ( az (λ(i2:Nat) (e2:aa) (v6:Int×Int)=>ah (iO e2) λ(y2:Int×Int×Bool×Int)=>ah (if (!y2.2.2.1)=true then some (v6.1,zI.wrap (v6.2+1))else some (mmI true v6.1 (zI.wrap (1+((mget v5.2.1 y2.1).getD 0))),zI.wrap (v6.2+(mmI false (zI.wrap (y2.2.1*((mget v5.2.2 y2.1).getD 0))) 20001)))) λ(v7:Int×Int)=>some (.go (v7.1,mmI false v7.2 20001))) (λ(v6:Int×Int)=>some (v6.1,v6.2)) ((mget mc1 xc1).getD []) 0 (0,0))) λ(v8:Int×Int)=>some (v8.1,v8.2)) λ(v9:Int×Int)=>some (true,mput v5.1 xc1 2,mput v5.2.1 xc1 v9.1,mput v5.2.2 xc1 v9.2)
theorem iM(rc:Int→(List (Int×(List aa)))→(List (Int×Int))→(List (Int×Int))→(List (Int×Int))→Option (Bool×(List (Int×Int))×(List (Int×Int))×(List (Int×Int))))(ih:∀(xc1:Int) (pc0:aD) (mc1:(List (Int×(List aa)))) (mc2:(List (Int×Int))) (mc3:(List (Int×Int))) (mc4:(List (Int×Int))) (mc5:(List (Int×(List aa)))) (pc7:aH) (L:List (TypeId×Nat)) {v:(Bool×(List (Int×Int))×(List (Int×Int))×(List (Int×Int)))} (_:rc xc1 mc1 mc2 mc3 mc4=some v) {R':V→Sg→Prop} (hR:R' (.d (.bool v.1)) (⟨[(cO pc0),[.mapc .i64 (zA (ekv (evL ac)) mc1)],[.mapc .i64 (zA (ekv (evI .i64)) v.2.1)],[.mapc .i64 (zA (ekv (evI .i64)) v.2.2.1)],[.mapc .i64 (zA (ekv (evI .i64)) v.2.2.2)],[.mapc .i64 (zA (ekv (evL ac)) mc5)],[.mp 1,.mp 2,.mp 3,.mp 4,.mp 5],(cN pc7)],L⟩)),aY gP 139 [.ptr 6 0,dI xc1] ⟨[(cO pc0),[.mapc .i64 (zA (ekv (evL ac)) mc1)],[.mapc .i64 (zA (ekv (evI .i64)) mc2)],[.mapc .i64 (zA (ekv (evI .i64)) mc3)],[.mapc .i64 (zA (ekv (evI .i64)) mc4)],[.mapc .i64 (zA (ekv (evL ac)) mc5)],[.mp 1,.mp 2,.mp 3,.mp 4,.mp 5],(cN pc7)],L⟩ R')(xc1:Int)(pc0:aD)(mc1:(List (Int×(List aa))))(mc2:(List (Int×Int)))(mc3:(List (Int×Int)))(mc4:(List (Int×Int)))(mc5:(List (Int×(List aa))))(pc7:aH)(L:List (TypeId×Nat)){v:(Bool×(List (Int×Int))×(List (Int×Int))×(List (Int×Int)))}(h:bM rc xc1 mc1 mc2 mc3 mc4=some v){R':V→Sg→Prop}(hR:R' (.d (.bool v.1)) (⟨[(cO pc0),[.mapc .i64 (zA (ekv (evL ac)) mc1)],[.mapc .i64 (zA (ekv (evI .i64)) v.2.1)],[.mapc .i64 (zA (ekv (evI .i64)) v.2.2.1)],[.mapc .i64 (zA (ekv (evI .i64)) v.2.2.2)],[.mapc .i64 (zA (ekv (evL ac)) mc5)],[.mp 1,.mp 2,.mp 3,.mp 4,.mp 5],(cN pc7)],L⟩)):aY gP 139 [.ptr 6 0,dI xc1] ⟨[(cO pc0),[.mapc .i64 (zA (ekv (evL ac)) mc1)],[.mapc .i64 (zA (ekv (evI .i64)) mc2)],[.mapc .i64 (zA (ekv (evI .i64)) mc3)],[.mapc .i64 (zA (ekv (evI .i64)) mc4)],[.mapc .i64 (zA (ekv (evL ac)) mc5)],[.mp 1,.mp 2,.mp 3,.mp 4,.mp 5],(cN pc7)],L⟩ R':=by
 refine aY.inl Tryz.func139 rfl (by kernel_rfl) (by kernel_rfl) (λv:(Bool×(List (Int×Int))×(List (Int×Int))×(List (Int×Int)))=>.d (.bool v.1)) (λv:(Bool×(List (Int×Int))×(List (Int×Int))×(List (Int×Int)))=>⟨[(cO pc0),[.mapc .i64 (zA (ekv (evL ac)) mc1)],[.mapc .i64 (zA (ekv (evI .i64)) v.2.1)],[.mapc .i64 (zA (ekv (evI .i64)) v.2.2.1)],[.mapc .i64 (zA (ekv (evI .i64)) v.2.2.2)],[.mapc .i64 (zA (ekv (evL ac)) mc5)],[.mp 1,.mp 2,.mp 3,.mp 4,.mp 5],(cN pc7)],L⟩) h (by simp[okF,lh,lg,V.unders,V.under,bL]) ?_ hR
 unfold bM
 simp only[zB,zE,nS,nA,Tryz.ntmps139,SV]
 refine .sR λe h=>?_
 simp only[seval,EMA,SYK]
 refine mU e (.seqK (.seqK (.regionW λe h=>regW.alt 5 rfl ?_))) h
 simp only[seval,EMA,SYK]
 refine bv rfl rfl rfl (by simp only[mapT,und_178,lc]) jl rfl (regW.of ?_)
 simp only[seval,EMA,mg_I,SYK]
 refine mU e (.block (.sR λe h=>?_)) h
 simp only[seval,EMA,SYK]
 refine mU e (.cond rfl (λhb5=>?_) (λhb5=>?_)) h
 refine .sR λe h=>?_
 simp only[seval,EMA,SYK]
 refine mU e (.ret λe h=>?_) h
 cases h
 simp only[seval,FMA,SYK]
 refine .sR λe h=>?_
 simp only[seval,EMA,SYK]
 refine mU e (.cond rfl (λhb7=>?_) (λhb7=>?_)) h
 refine .sR λe h=>?_
 simp only[seval,EMA,SYK]
 refine mU e (.ret λe h=>?_) h
 cases h
 simp only[seval,FMA,SYK]
 refine .skip (Mir.toB (Mir.toK (.seqK (.regionW λe h=>regW.alt 5 rfl ?_))))
 simp only[seval,EMA,SYK]
 refine cd (et:=3) rfl rfl rfl rfl (by simp only[mapT,und_178,lc]) (regW.of ?_)
 simp only[seval,EMA,mp_I,SYK]
 refine mU e (.seqK (.seqK (.regionW λe h=>regW.alt 5 rfl ?_))) h
 simp only[seval,EMA,SYK]
 refine bv rfl rfl rfl (by simp only[mapT,nt,lc]) gQ rfl (regW.of ?_)
 simp only[seval,EMA,mg_L,SYK]
 refine mU e (Mir.join (λv5:(List (Int×Int))×(List (Int×Int))×(List (Int×Int))=>([.ptr 6 0,dI xc1]++us 76)) (λv5=>⟨[(cO pc0),[.mapc .i64 (zA (ekv (evL ac)) mc1)],[.mapc .i64 (zA (ekv (evI .i64)) v5.1)],[.mapc .i64 (zA (ekv (evI .i64)) v5.2.1)],[.mapc .i64 (zA (ekv (evI .i64)) v5.2.2)],[.mapc .i64 (zA (ekv (evL ac)) mc5)],[.mp 1,.mp 2,.mp 3,.mp 4,.mp 5],(cN pc7)],L⟩) (λ_=>by simp[okF,lh,lg,V.unders,V.under,bL]) ?_ ?_) h
 refine .block (.guard λq1=>Mir.range (λ(i1:Nat) (v1:(List (Int×Int))×(List (Int×Int))×(List (Int×Int)))=>([.ptr 6 0,dI xc1]++us 29++[dL ac ((mget mc1 xc1).getD []),dI (((mget mc1 xc1).getD []).length:Int),dI (i1:Int)]++us 44)) (λi1 v1=>⟨[(cO pc0),[.mapc .i64 (zA (ekv (evL ac)) mc1)],[.mapc .i64 (zA (ekv (evI .i64)) v1.1)],[.mapc .i64 (zA (ekv (evI .i64)) v1.2.1)],[.mapc .i64 (zA (ekv (evI .i64)) v1.2.2)],[.mapc .i64 (zA (ekv (evL ac)) mc5)],[.mp 1,.mp 2,.mp 3,.mp 4,.mp 5],(cN pc7)],L⟩) q1 (λ_ _=>by simp[okF,lh,lg,V.unders,V.under,bL]) (by simp only[seval,FMA,SYK,zNI]) (by simp only[seval,FMA,SYK,zNI]) ?_ ?_)
 intro i1 e1 v1 q2
 refine .sR λe h=>?_
 simp only[seval,EMA,q2,SYK]
 refine mU e (.seqK (.condT rfl (.skip (Mir.toK (.seqK (.block (Mir.joinL2 (λv2:Int×Bool=>([.ptr 6 0,dI xc1,U,U,U,U,U,dI v2.1,U,dB v2.2]++us 21++[dL ac ((mget mc1 xc1).getD []),dI (((mget mc1 xc1).getD []).length:Int),dI (i1:Int)]++us 44)) (λv2=>⟨[(cO pc0),[.mapc .i64 (zA (ekv (evL ac)) mc1)],[.mapc .i64 (zA (ekv (evI .i64)) v1.1)],[.mapc .i64 (zA (ekv (evI .i64)) v1.2.1)],[.mapc .i64 (zA (ekv (evI .i64)) v1.2.2)],[.mapc .i64 (zA (ekv (evL ac)) mc5)],[.mp 1,.mp 2,.mp 3,.mp 4,.mp 5],(cN pc7)],L⟩) (λ_=>by simp[okF,lh,lg,V.unders,V.under,bL]) ?_ ?_))))))) h
 refine MirL.cons (.region λe h=>?_)
 simp only[seval,EMA,q2,zD,SYK]
 refine MirL.use (e:=e) (MirL.cons ?_) h
 refine .bind λy1 h1=>.region λe h=>?_
 simp only[seval,EMA,SYK]
 refine aY.by (fa h1) (by simp only[seval,FMA,SYK]) ?_
 simp only[seval,EMA,SYK]
 cases h
 simp only[seval,FMA,SYK]
 intro v2
 refine .seqK (Mir.joinO (λv4:Bool×(List (Int×Int))×(List (Int×Int))×(List (Int×Int))=>([.ptr 6 0,dI xc1]++us 29++[dL ac ((mget mc1 xc1).getD []),dI (((mget mc1 xc1).getD []).length:Int),dI (i1:Int)]++us 16++[dB v4.1]++us 27)) (λv4=>⟨[(cO pc0),[.mapc .i64 (zA (ekv (evL ac)) mc1)],[.mapc .i64 (zA (ekv (evI .i64)) v4.2.1)],[.mapc .i64 (zA (ekv (evI .i64)) v4.2.2.1)],[.mapc .i64 (zA (ekv (evI .i64)) v4.2.2.2)],[.mapc .i64 (zA (ekv (evL ac)) mc5)],[.mp 1,.mp 2,.mp 3,.mp 4,.mp 5],(cN pc7)],L⟩) (λ_=>by simp[okF,lh,lg,V.unders,V.under,bL]) ?_ ?_)
 refine .ite (λh2=>?_) (λh2=>?_)
 refine .bind λv3 h3=>.region λe h=>?_
 simp only[seval,EMA,SYK,h2]
 refine ih v2.1 pc0 mc1 v1.1 v1.2.1 v1.2.2 mc5 pc7 L h3 ?_
 simp only[seval,EMA,SYK,h2]
 cases h
 simp only[seval,FMA,SYK,h2]
 refine .region λe h=>?_
 simp only[seval,EMA,SYK,h2]
 cases h
 simp only[seval,FMA,SYK,h2]
 intro v4
 refine Mir.toK (.cond rfl (λh4=>?_) (λh4=>?_))
 refine .sR λe h=>?_
 simp only[seval,EMA,SYK]
 refine mU e (.ret λe h=>?_) h
 cases h
 simp only[seval,FMA,SYK]
 refine .skip (Mir.toB (Mir.toK (.region λe h=>?_)))
 simp only[seval,EMA,SYK]
 cases h
 simp only[seval,FMA,SYK,q2]
 intro v1 q3
 refine .sR λe h=>?_
 simp only[seval,EMA,q3,SYK]
 refine mU e (.seqK (.condF rfl (.exit λe h=>?_))) h
 cases h
 simp only[seval,FMA,SYK]
 intro v5
 refine Mir.toK (.seqK (.regionW λe h=>regW.alt 5 rfl ?_))
 simp only[seval,EMA,SYK]
 refine cd (et:=3) rfl rfl rfl rfl (by simp only[mapT,und_178,lc]) (regW.of ?_)
 simp only[seval,EMA,mp_I,SYK]
 refine mU e (.seqK (.bind λv9 h5=>Mir.regionA 0 [] ([.ptr 6 0,dI xc1]++us 50++[.ptr 6 0,.ptr 6 0,.ptr 6 1,.mp 2,dI xc1,.tuple [dI v9.1,dI v9.2],.ptr 6 0,.ptr 6 0,.ptr 6 2,.mp 3,dI xc1,.ptr 6 0,.ptr 6 0,.ptr 6 3,.mp 4,dI xc1,.ptr 6 0,.ptr 6 0,.ptr 6 0,.ptr 6 0,.mp 1,dI xc1,dL ac ((mget mc1 xc1).getD []),.tuple [dI v9.1,dI v9.2],dI v9.1,dI v9.2]) ⟨[(cO pc0),[.mapc .i64 (zA (ekv (evL ac)) mc1)],[.mapc .i64 (zA (ekv (evI .i64)) (mput v5.1 xc1 2))],[.mapc .i64 (zA (ekv (evI .i64)) (mput v5.2.1 xc1 v9.1))],[.mapc .i64 (zA (ekv (evI .i64)) (mput v5.2.2 xc1 v9.2))],[.mapc .i64 (zA (ekv (evL ac)) mc5)],[.mp 1,.mp 2,.mp 3,.mp 4,.mp 5],(cN pc7)],L⟩ (by kernel_rfl) (λe h=>?_) (λe h=>?_))) h
 simp only[seval,EMA,SB,SYK]
 refine regV.toA (k:=6) (ms:=[1,2,3,4,5]) (regV.moveB (j:=0) (by kernel_rfl) rfl rfl rfl ?_)
 simp only[seval,EMA,SYK]
 refine regV.nilB (j:=1) (by kernel_rfl) rfl rfl rfl rfl ?_
 simp only[seval,EMA,SYK]
 refine regV.fieldB (j:=2) (y:=.ptr 6 2) (by kernel_rfl) rfl rfl rfl (by first | simp only[seval,EMA,fld_181_2,sz_178,SYK] | kernel_rfl) ?_
 simp only[seval,EMA,SYK]
 refine regV.loadB (j:=3) (m:=3) (by kernel_rfl) rfl rfl rfl rfl ag_178 rfl ?_
 simp only[seval,EMA,SYK]
 refine regV.moveB (j:=4) (by kernel_rfl) rfl rfl rfl ?_
 simp only[seval,EMA,SYK]
 refine regV.moveB (j:=5) (by kernel_rfl) rfl rfl rfl ?_
 simp only[seval,EMA,SYK]
 refine regV.nilB (j:=6) (by kernel_rfl) rfl rfl rfl rfl ?_
 simp only[seval,EMA,SYK]
 refine regV.fieldB (j:=7) (y:=.ptr 6 3) (by kernel_rfl) rfl rfl rfl (by first | simp only[seval,EMA,fld_181_3,sz_179,SYK] | kernel_rfl) ?_
 simp only[seval,EMA,SYK]
 refine regV.loadB (j:=8) (m:=4) (by kernel_rfl) rfl rfl rfl rfl ag_179 rfl ?_
 simp only[seval,EMA,SYK]
 refine regV.moveB (j:=9) (by kernel_rfl) rfl rfl rfl ?_
 simp only[seval,EMA,SYK]
 refine regV.moveB (j:=10) (by kernel_rfl) rfl rfl rfl ?_
 simp only[seval,EMA,SYK]
 refine regV.moveB (j:=11) (by kernel_rfl) rfl rfl rfl ?_
 simp only[seval,EMA,SYK]
 refine regV.nilB (j:=12) (by kernel_rfl) rfl rfl rfl rfl ?_
 simp only[seval,EMA,SYK]
 refine regV.fieldB (j:=13) (y:=.ptr 6 0) (by kernel_rfl) rfl rfl rfl (by first | simp only[seval,EMA,fld_181_0,sz_177,SYK] | kernel_rfl) ?_
 simp only[seval,EMA,SYK]
 refine regV.loadB (j:=14) (m:=1) (by kernel_rfl) rfl rfl rfl rfl ag_177 rfl ?_
 simp only[seval,EMA,SYK]
 refine regV.moveB (j:=15) (by kernel_rfl) rfl rfl rfl ?_
 simp only[seval,EMA,SYK]
 refine regV.one (j:=16) (by kernel_rfl) rfl (regW.alt 0 rfl ?_)
 simp only[seval,EMA,SYK]
 refine bv rfl rfl rfl (by simp only[mapT,nt,lc]) gQ rfl (regW.of ?_)
 simp only[seval,EMA,mg_L,SYK]
 refine⟨rfl,?_⟩
 refine regV.one (j:=17) (by kernel_rfl) rfl (regW.of ?_)
 simp only[seval,EMA,SYK]
 refine aY.inl Tryz.func104 rfl (by kernel_rfl) (by kernel_rfl) (λv9:Int×Int=>.tuple [dI v9.1,dI v9.2]) (λv9=>⟨[(cO pc0),[.mapc .i64 (zA (ekv (evL ac)) mc1)],[.mapc .i64 (zA (ekv (evI .i64)) (mput v5.1 xc1 2))],[.mapc .i64 (zA (ekv (evI .i64)) v5.2.1)],[.mapc .i64 (zA (ekv (evI .i64)) v5.2.2)],[.mapc .i64 (zA (ekv (evL ac)) mc5)],[.mp 1,.mp 2,.mp 3,.mp 4,.mp 5],(cN pc7)],L⟩) h5 (by simp[okF,lh,lg,V.unders,V.under,bL]) ?_ ?_
 simp only[zB,zE,nS,nA,Tryz.ntmps104,SV]
 refine .sR λe h=>?_
 simp only[seval,EMA,SYK]
 refine mU e (.sR λe h=>?_) h
 simp only[seval,EMA,SYK]
 refine mU e (.seqK (.sR λe h=>?_)) h
 simp only[seval,EMA,SYK]
 refine mU e (Mir.joinO (λv8:Int×Int=>(us 6++[dI v8.1,dI v8.2]++us 48)) (λv8=>⟨[(cO pc0),[.mapc .i64 (zA (ekv (evL ac)) mc1)],[.mapc .i64 (zA (ekv (evI .i64)) (mput v5.1 xc1 2))],[.mapc .i64 (zA (ekv (evI .i64)) v5.2.1)],[.mapc .i64 (zA (ekv (evI .i64)) v5.2.2)],[.mapc .i64 (zA (ekv (evL ac)) mc5)],[.mp 1,.mp 2,.mp 3,.mp 4,.mp 5],(cN pc7)],L⟩) (λ_=>by simp[okF,lh,lg,V.unders,V.under,bL]) ?_ ?_) h
 refine .block (.guard λq4=>Mir.range (λ(i2:Nat) (v6:Int×Int)=>([.ptr 6 0,U,U,U,U,U,dI v6.1,dI v6.2]++us 6++[dL ac ((mget mc1 xc1).getD []),dI (((mget mc1 xc1).getD []).length:Int),dI (i2:Int)]++us 39)) (λi2 v6=>⟨[(cO pc0),[.mapc .i64 (zA (ekv (evL ac)) mc1)],[.mapc .i64 (zA (ekv (evI .i64)) (mput v5.1 xc1 2))],[.mapc .i64 (zA (ekv (evI .i64)) v5.2.1)],[.mapc .i64 (zA (ekv (evI .i64)) v5.2.2)],[.mapc .i64 (zA (ekv (evL ac)) mc5)],[.mp 1,.mp 2,.mp 3,.mp 4,.mp 5],(cN pc7)],L⟩) q4 (λ_ _=>by simp[okF,lh,lg,V.unders,V.under,bL]) (by simp only[seval,FMA,SYK,zNI]) (by simp only[seval,FMA,SYK,zNI]) ?_ ?_)
 intro i2 e2 v6 q5
 refine .sR λe h=>?_
 simp only[seval,EMA,q5,SYK]
 refine mU e (.seqK (.condT rfl (.skip (Mir.toK (.seqK (.block (.sR λe h=>?_))))))) h
 simp only[seval,EMA,q5,zD,SYK]
 refine mU e (.seqK (.bind λy2 h6=>.region λe h=>?_)) h
 simp only[seval,EMA,SYK]
 refine aY.by (fa h6) (by simp only[seval,FMA,SYK]) ?_
 simp only[seval,EMA,SYK]
 refine mU e (.seqK (.sR λe h=>?_)) h
 simp only[seval,EMA,SYK]
 refine mU e (Mir.joinO (λv7:Int×Int=>([.ptr 6 0,U,U,U,U,U,dI v7.1,dI v7.2]++us 6++[dL ac ((mget mc1 xc1).getD []),dI (((mget mc1 xc1).getD []).length:Int),dI (i2:Int)]++us 39)) (λv7=>⟨[(cO pc0),[.mapc .i64 (zA (ekv (evL ac)) mc1)],[.mapc .i64 (zA (ekv (evI .i64)) (mput v5.1 xc1 2))],[.mapc .i64 (zA (ekv (evI .i64)) v5.2.1)],[.mapc .i64 (zA (ekv (evI .i64)) v5.2.2)],[.mapc .i64 (zA (ekv (evL ac)) mc5)],[.mp 1,.mp 2,.mp 3,.mp 4,.mp 5],(cN pc7),(cC e2)],L⟩) (λ_=>by simp[okF,lh,lg,V.unders,V.under,bL]) ?_ ?_) h
 refine .cond rfl (λh7=>?_) (λh7=>?_)
 refine .region λe h=>?_
 simp only[seval,EMA,SYK]
 cases h
 simp only[seval,FMA,SYK]
 refine .seqK (.regionW λe h=>regW.alt 6 rfl ?_)
 simp only[seval,EMA,SYK]
 refine bv rfl rfl rfl (by simp only[mapT,und_178,lc]) jl rfl (regW.of ?_)
 simp only[seval,EMA,mg_I,SYK]
 refine mU e (.regionW λe h=>regW.alt 7 rfl ?_) h
 simp only[seval,EMA,SYK]
 refine bv rfl rfl rfl (by simp only[mapT,und_179,lc]) iH rfl (regW.of ?_)
 simp only[seval,EMA,mg_I,SYK]
 cases h
 simp only[seval,FMA,SYK]
 intro v7
 refine Mir.toK (.region λe h=>?_)
 simp only[seval,EMA,SYK]
 refine mU e (.region λe h=>?_) h
 simp only[seval,EMA,SYK]
 cases h
 simp only[seval,FMA,SYK,q5]
 intro v6 q6
 refine .sR λe h=>?_
 simp only[seval,EMA,q6,SYK]
 refine mU e (.seqK (.condF rfl (.exit λe h=>?_))) h
 cases h
 simp only[seval,FMA,SYK]
 intro v8
 refine Mir.toK (.sR λe h=>?_)
 simp only[seval,EMA,SYK]
 refine mU e (.ret λe h=>?_) h
 cases h
 simp only[seval,FMA,SYK]
 simp only[seval,EMA,SYK]
 refine⟨rfl,?_⟩
 refine regV.moveB (j:=18) (by kernel_rfl) rfl rfl rfl ?_
 simp only[seval,EMA,SYK]
 refine regV.extB (j:=19) (by kernel_rfl) rfl rfl rfl rfl rfl ?_
 simp only[seval,EMA,SYK]
 refine regV.extB (j:=20) (by kernel_rfl) rfl rfl rfl rfl rfl ?_
 simp only[seval,EMA,SYK]
 refine regV.one (j:=21) (by kernel_rfl) rfl (regW.alt 0 rfl ?_)
 simp only[seval,EMA,SYK]
 refine cd (et:=3) rfl rfl rfl rfl (by simp only[mapT,und_178,lc]) (regW.of ?_)
 simp only[seval,EMA,mp_I,SYK]
 refine⟨rfl,?_⟩
 refine regV.one (j:=22) (by kernel_rfl) rfl (regW.alt 0 rfl ?_)
 simp only[seval,EMA,SYK]
 refine cd (et:=2) rfl rfl rfl rfl (by simp only[mapT,und_179,lc]) (regW.of ?_)
 simp only[seval,EMA,mp_I,SYK]
 refine⟨rfl,?_⟩
 exact regV.nil (by kernel_rfl) ⟨by first | rfl | simp only[seval,FMA,SYK,xMA,xLA],by first | rfl | simp only[seval,FMA,SYK,xMA,xLA]⟩
 refine mU e (.sR λe h=>?_) h
 simp only[seval,EMA,SYK]
 refine mU e (.ret λe h=>?_) h
 cases h
 simp only[seval,FMA,SYK]
def bw:Nat→Int→(List (Int×(List aa)))→(List (Int×Int))→(List (Int×Int))→(List (Int×Int))→Option (Bool×(List (Int×Int))×(List (Int×Int))×(List (Int×Int))) | 0=>λ_ _ _ _ _=>none | n+1=>bM (bw n)
theorem dV:∀(n:Nat) (xc1:Int) (pc0:aD) (mc1:(List (Int×(List aa)))) (mc2:(List (Int×Int))) (mc3:(List (Int×Int))) (mc4:(List (Int×Int))) (mc5:(List (Int×(List aa)))) (pc7:aH) (L:List (TypeId×Nat)) {v:(Bool×(List (Int×Int))×(List (Int×Int))×(List (Int×Int)))} (_:bw n xc1 mc1 mc2 mc3 mc4=some v) {R':V→Sg→Prop} (hR:R' (.d (.bool v.1)) (⟨[(cO pc0),[.mapc .i64 (zA (ekv (evL ac)) mc1)],[.mapc .i64 (zA (ekv (evI .i64)) v.2.1)],[.mapc .i64 (zA (ekv (evI .i64)) v.2.2.1)],[.mapc .i64 (zA (ekv (evI .i64)) v.2.2.2)],[.mapc .i64 (zA (ekv (evL ac)) mc5)],[.mp 1,.mp 2,.mp 3,.mp 4,.mp 5],(cN pc7)],L⟩)),aY gP 139 [.ptr 6 0,dI xc1] ⟨[(cO pc0),[.mapc .i64 (zA (ekv (evL ac)) mc1)],[.mapc .i64 (zA (ekv (evI .i64)) mc2)],[.mapc .i64 (zA (ekv (evI .i64)) mc3)],[.mapc .i64 (zA (ekv (evI .i64)) mc4)],[.mapc .i64 (zA (ekv (evL ac)) mc5)],[.mp 1,.mp 2,.mp 3,.mp 4,.mp 5],(cN pc7)],L⟩ R'
 | 0=>(by intros;rename_i h _ _;cases h)
 | n+1=>iM (bw n) (dV n)
def gx(xc1:Int)(mc1:(List (Int×(List aa))))(mc2:(List (Int×Int)))(mc3:(List (Int×Int)))(mc4:(List (Int×Int))):Option (Bool×(List (Int×Int))×(List (Int×Int))×(List (Int×Int))):=bw fuel xc1 mc1 mc2 mc3 mc4
theorem iL(xc1:Int)(pc0:aD)(mc1:(List (Int×(List aa))))(mc2:(List (Int×Int)))(mc3:(List (Int×Int)))(mc4:(List (Int×Int)))(mc5:(List (Int×(List aa))))(pc7:aH)(L:List (TypeId×Nat)){v:(Bool×(List (Int×Int))×(List (Int×Int))×(List (Int×Int)))}(h:gx xc1 mc1 mc2 mc3 mc4=some v){R':V→Sg→Prop}(hR:R' (.d (.bool v.1)) (⟨[(cO pc0),[.mapc .i64 (zA (ekv (evL ac)) mc1)],[.mapc .i64 (zA (ekv (evI .i64)) v.2.1)],[.mapc .i64 (zA (ekv (evI .i64)) v.2.2.1)],[.mapc .i64 (zA (ekv (evI .i64)) v.2.2.2)],[.mapc .i64 (zA (ekv (evL ac)) mc5)],[.mp 1,.mp 2,.mp 3,.mp 4,.mp 5],(cN pc7)],L⟩)):aY gP 139 [.ptr 6 0,dI xc1] ⟨[(cO pc0),[.mapc .i64 (zA (ekv (evL ac)) mc1)],[.mapc .i64 (zA (ekv (evI .i64)) mc2)],[.mapc .i64 (zA (ekv (evI .i64)) mc3)],[.mapc .i64 (zA (ekv (evI .i64)) mc4)],[.mapc .i64 (zA (ekv (evL ac)) mc5)],[.mp 1,.mp 2,.mp 3,.mp 4,.mp 5],(cN pc7)],L⟩ R':=dV fuel xc1 pc0 mc1 mc2 mc3 mc4 mc5 pc7 L h hR
def dw(xb0:aD):Option ((Int) ⊕ ((List (Int×(List aa)))×(List (Int×Int))×(List (Int×Int))×(List (Int×Int)))):=ah (lk xb0) λ(y1:Bool)=>if (!y1)=true then some (.inl 1)else ah (av (be xb0.Subs) ( az (λ(i1:Nat) (e1:aH) (v3:(List (List aa))×(List (Int×(List aa))))=>av (bo (v3.1.length+1)) ( some (.go (v3.1++[e1.Blocks],mput v3.2 e1.Number e1.Blocks)))) (λ(v3:(List (List aa))×(List (Int×(List aa))))=>some (v3.1,v3.2)) xb0.Subs 0 ([xb0.Main],[]))) λ(v4:(List (List aa))×(List (Int×(List aa))))=>ah (bj v4.1) λ(y2:(List aa))=>bindX (av (be y2) ( az (λ(i2:Nat) (e2:aa) (v5:(List Int))=>bindX (ah (iO e2) λ(y3:Int×Int×Bool×Int)=>if (y3.2.2.2 != 0)=true then some (.ret (.ret (.ret (.inl y3.2.2.2))))else if y3.2.2.1=true then av (bo (v5.length+1)) ( some (.go (v5++[y3.1])))else some (.go v5)) λ(v6:(List Int))=>some (.go v6)) (λ(v5:(List Int))=>some (.go v5)) y2 0 [])) λ(v7:(List Int))=>bindX (av (be v7) ( az (λ(i3:Nat) (e3:Int) (v8:Unit)=>if (!((mget v4.2 e3).isSome))=true then some (.ret (.ret (.inl 4)))else some (.go ())) (λ(v8:Unit)=>some (.go ())) v7 0 ())) λ(v9:Unit)=>bindX (av (be xb0.Subs) ( az (λ(i4:Nat) (e4:aH) (v10:(List (Int×Int))×(List (Int×Int))×(List (Int×Int)))=>ah (gx e4.Number v4.2 v10.1 v10.2.1 v10.2.2) λ(v11:Bool×(List (Int×Int))×(List (Int×Int))×(List (Int×Int)))=>if (!v11.1)=true then some (.ret (.ret (.inl 12)))else some (.go (v11.2.1,v11.2.2.1,v11.2.2.2))) (λ(v10:(List (Int×Int))×(List (Int×Int))×(List (Int×Int)))=>some (.go (v10.1,v10.2.1,v10.2.2))) xb0.Subs 0 ([],[],[]))) λ(v12:(List (Int×Int))×(List (Int×Int))×(List (Int×Int)))=>some (.inr (v4.2,v12.1,v12.2.1,v12.2.2))
theorem fM(xb0:aD)(pb0:aD){v:((Int) ⊕ ((List (Int×(List aa)))×(List (Int×Int))×(List (Int×Int))×(List (Int×Int))))}(h:dw xb0=some v){R':V→Sg→Prop}(hR:R' (Sum.elim (λv1:Int=>.tuple [.d (.other (.pointer none)),dI v1]) (λv2:(List (Int×(List aa)))×(List (Int×Int))×(List (Int×Int))×(List (Int×Int))=>.tuple [.ptr 6 0,dI 0]) v) (Sum.elim (λv1:Int=>(⟨[(cO pb0)],[]⟩:Sg)) (λv2:(List (Int×(List aa)))×(List (Int×Int))×(List (Int×Int))×(List (Int×Int))=>⟨[(cO pb0),[.mapc .i64 (zA (ekv (evL ac)) v2.1)],[.mapc .i64 (zA (ekv (evI .i64)) v2.2.1)],[.mapc .i64 (zA (ekv (evI .i64)) v2.2.2.1)],[.mapc .i64 (zA (ekv (evI .i64)) v2.2.2.2)],[.mapc .i64 (zA (ekv (evL ac)) [])],[.mp 1,.mp 2,.mp 3,.mp 4,.mp 5]],[]⟩) v)):aY gP 103 [.agg (cO xb0)] ⟨[(cO pb0)],[]⟩ R':=by
 refine aY.inl Tryz.func103 rfl (by kernel_rfl) (by kernel_rfl) (λv:((Int) ⊕ ((List (Int×(List aa)))×(List (Int×Int))×(List (Int×Int))×(List (Int×Int))))=>Sum.elim (λv1:Int=>.tuple [.d (.other (.pointer none)),dI v1]) (λv2:(List (Int×(List aa)))×(List (Int×Int))×(List (Int×Int))×(List (Int×Int))=>.tuple [.ptr 6 0,dI 0]) v) (λv:((Int) ⊕ ((List (Int×(List aa)))×(List (Int×Int))×(List (Int×Int))×(List (Int×Int))))=>Sum.elim (λv1:Int=>(⟨[(cO pb0)],[]⟩:Sg)) (λv2:(List (Int×(List aa)))×(List (Int×Int))×(List (Int×Int))×(List (Int×Int))=>⟨[(cO pb0),[.mapc .i64 (zA (ekv (evL ac)) v2.1)],[.mapc .i64 (zA (ekv (evI .i64)) v2.2.1)],[.mapc .i64 (zA (ekv (evI .i64)) v2.2.2.1)],[.mapc .i64 (zA (ekv (evI .i64)) v2.2.2.2)],[.mapc .i64 (zA (ekv (evL ac)) [])],[.mp 1,.mp 2,.mp 3,.mp 4,.mp 5]],[]⟩) v) h (by cases v<;>rfl) ?_ hR
 unfold dw
 simp only[zB,zE,nS,nA,Tryz.ntmps103,SV]
 refine .seqK (.regionW λe h=>regW.alt 0 rfl ?_)
 simp only[seval,EMA]
 refine kZ [.list (zA ac xb0.Main),.list (zA aJ xb0.Subs)] _ rfl rfl (regW.of ?_)
 simp only[seval,EMA]
 refine mU e (.seqK (.seqK (.bind λy1 hy1=>.region λe h=>WA ?_))) h
 refine .byA (sp_proper_spec.1 _ hy1) (mA ?_ h)
 refine .cond rfl (λhb3=>?_) (λhb3=>?_)
 exact zzA
 refine .skip (Mir.toK (.seqK (.regionW λe h=>regW.alt 0 rfl ?_)))
 simp only[seval,EMA]
 refine d6 .i64 (regW.alt 0 rfl ?_)
 simp only[seval,EMA,xMN]
 refine d6 .i64 (regW.alt 0 rfl ?_)
 simp only[seval,EMA,xMN]
 refine d6 .i64 (regW.alt 0 rfl ?_)
 simp only[seval,EMA,xMN]
 refine d6 .i64 (regW.alt 0 rfl ?_)
 simp only[seval,EMA,xMN]
 refine d6 .i64 (regW.of ?_)
 simp only[seval,EMA,xMN]
 refine mU e (.seqK (.regionW λe h=>regW.alt 2 rfl ?_)) h
 simp only[seval,EMA]
 refine alt_litOwn (es:=zA (bC ac) [xb0.Main]) mb (by simp only[seval,EMA,(oL 1)]) (by decide) (regW.of ?_)
 simp only[seval,EMA,(oL 1)]
 refine mU e (.seqK (.sA ?_)) h
 refine Mir.joinO (λv4:(List (List aa))×(List (Int×(List aa)))=>([U,.iptr [.list (zA ac xb0.Main),.list (zA aJ xb0.Subs)] 0,U,U,.ptr 6 0,.own 0 (zA (bC ac) v4.1)]++us 104)) (λv4=>⟨[(cO pb0),[.mapc .i64 (zA (ekv (evL ac)) v4.2)],[.mapc .i64 (zA (ekv (evI .i64)) [])],[.mapc .i64 (zA (ekv (evI .i64)) [])],[.mapc .i64 (zA (ekv (evI .i64)) [])],[.mapc .i64 (zA (ekv (evL ac)) [])],[.mp 1,.mp 2,.mp 3,.mp 4,.mp 5]],[(31,v4.1.length)]⟩) (λ_=>rfl) ?_ ?_
 refine .block (.guard λqg43=>Mir.range (λ(i1:Nat) (v3:(List (List aa))×(List (Int×(List aa))))=>([U,.iptr [.list (zA ac xb0.Main),.list (zA aJ xb0.Subs)] 0,U,U,.ptr 6 0,.own 0 (zA (bC ac) v3.1)]++us 29++[dL aJ xb0.Subs,dI (xb0.Subs.length:Int),dI (i1:Int)]++us 72)) (λi1 v3=>⟨[(cO pb0),[.mapc .i64 (zA (ekv (evL ac)) v3.2)],[.mapc .i64 (zA (ekv (evI .i64)) [])],[.mapc .i64 (zA (ekv (evI .i64)) [])],[.mapc .i64 (zA (ekv (evI .i64)) [])],[.mapc .i64 (zA (ekv (evL ac)) [])],[.mp 1,.mp 2,.mp 3,.mp 4,.mp 5]],[(31,v3.1.length)]⟩) qg43 (λ_ _=>rfl) (by simp only[seval,FMA,zNI]) (by simp only[seval,FMA,zNI]) ?_ ?_)
 intro i1 e1 v3 qr41
 refine .sR λe h=>?_
 simp only[seval,EMA,qr41]
 refine mU e (.seqK (.condT rfl (.skip (Mir.toK (.seqK (.block (.sR λe h=>?_))))))) h
 simp only[seval,EMA,qr41,zD]
 refine mU e (.seqK (.regionT 8 [] (by kernel_rfl) λe h=>?_)) h
 simp only[seval,EMA,SB]
 refine regW.alt 0 rfl ?_
 simp only[seval,EMA]
 refine cd (et:=31) rfl rfl rfl rfl (by simp only[mapT,nt,lc]) (regW.of ?_)
 simp only[seval,EMA,mp_L]
 exact zzA
 exact zzA
 intro v4
 refine Mir.toK (.sA ?_)
 refine .seqK (.seqK (.bind λy2 hy46=>.region λe h=>WA ?_))
 refine .byA (bA hy46) (mA ?_ h)
 refine .gh [.slot 8 2] rfl (Mir.join (λv7:(List Int)=>([U,.iptr [.list (zA ac xb0.Main),.list (zA aJ xb0.Subs)] 0,U,U,.ptr 6 0,U,U,U,.own 1 (zA (eInt .i64) v7)]++us 101)) (λv7=>⟨[(cO pb0),[.mapc .i64 (zA (ekv (evL ac)) v4.2)],[.mapc .i64 (zA (ekv (evI .i64)) [])],[.mapc .i64 (zA (ekv (evI .i64)) [])],[.mapc .i64 (zA (ekv (evI .i64)) [])],[.mapc .i64 (zA (ekv (evL ac)) [])],[.mp 1,.mp 2,.mp 3,.mp 4,.mp 5]],[(31,v4.1.length),(2,v7.length)]⟩) (λ_=>rfl) ?_ ?_)
 refine .block (.guard λq1=>Mir.range (λ(i2:Nat) (v5:(List Int))=>([U,.iptr [.list (zA ac xb0.Main),.list (zA aJ xb0.Subs)] 0,U,U,.ptr 6 0,U,U,U,.own 1 (zA (eInt .i64) v5)]++us 47++[dL ac y2,dI (y2.length:Int),dI (i2:Int)]++us 51)) (λi2 v5=>⟨[(cO pb0),[.mapc .i64 (zA (ekv (evL ac)) v4.2)],[.mapc .i64 (zA (ekv (evI .i64)) [])],[.mapc .i64 (zA (ekv (evI .i64)) [])],[.mapc .i64 (zA (ekv (evI .i64)) [])],[.mapc .i64 (zA (ekv (evL ac)) [])],[.mp 1,.mp 2,.mp 3,.mp 4,.mp 5]],[(31,v4.1.length),(2,v5.length)]⟩) q1 (λ_ _=>rfl) (by simp only[seval,FMA,zNI]) (by simp only[seval,FMA,zNI]) ?_ ?_)
 intro i2 e2 v5 q2
 refine .sR λe h=>?_
 simp only[seval,EMA,q2]
 refine mU e (.seqK (.condT rfl (.skip (Mir.toK (.seqK (Mir.join (λv6:(List Int)=>([U,.iptr [.list (zA ac xb0.Main),.list (zA aJ xb0.Subs)] 0,U,U,.ptr 6 0,U,U,U,.own 1 (zA (eInt .i64) v6)]++us 47++[dL ac y2,dI (y2.length:Int),dI (i2:Int)]++us 51)) (λv6=>⟨[(cO pb0),[.mapc .i64 (zA (ekv (evL ac)) v4.2)],[.mapc .i64 (zA (ekv (evI .i64)) [])],[.mapc .i64 (zA (ekv (evI .i64)) [])],[.mapc .i64 (zA (ekv (evI .i64)) [])],[.mapc .i64 (zA (ekv (evL ac)) [])],[.mp 1,.mp 2,.mp 3,.mp 4,.mp 5]],[(31,v4.1.length),(2,v6.length)]⟩) (λ_=>rfl) ?_ ?_)))))) h
 exact zzA
 exact zzA
 exact zzA
 intro v7
 refine Mir.toK (.seqK (.sA ?_))
 refine Mir.join (λv9:Unit=>([U,.iptr [.list (zA ac xb0.Main),.list (zA aJ xb0.Subs)] 0,U,U,.ptr 6 0]++us 105)) (λv9=>⟨[(cO pb0),[.mapc .i64 (zA (ekv (evL ac)) v4.2)],[.mapc .i64 (zA (ekv (evI .i64)) [])],[.mapc .i64 (zA (ekv (evI .i64)) [])],[.mapc .i64 (zA (ekv (evI .i64)) [])],[.mapc .i64 (zA (ekv (evL ac)) [])],[.mp 1,.mp 2,.mp 3,.mp 4,.mp 5]],[(31,v4.1.length),(2,v7.length)]⟩) (λ_=>rfl) ?_ ?_
 refine .block (.guard λq5=>Mir.range (λ(i3:Nat) (v8:Unit)=>([U,.iptr [.list (zA ac xb0.Main),.list (zA aJ xb0.Subs)] 0,U,U,.ptr 6 0]++us 73++[.own 1 (zA (eInt .i64) v7),dI (v7.length:Int),dI (i3:Int)]++us 29)) (λi3 v8=>⟨[(cO pb0),[.mapc .i64 (zA (ekv (evL ac)) v4.2)],[.mapc .i64 (zA (ekv (evI .i64)) [])],[.mapc .i64 (zA (ekv (evI .i64)) [])],[.mapc .i64 (zA (ekv (evI .i64)) [])],[.mapc .i64 (zA (ekv (evL ac)) [])],[.mp 1,.mp 2,.mp 3,.mp 4,.mp 5]],[(31,v4.1.length),(2,v7.length)]⟩) q5 (λ_ _=>rfl) (by simp only[seval,FMA,zNI]) (by simp only[seval,FMA,zNI]) ?_ ?_)
 intro i3 e3 v8 q6
 refine .sR λe h=>?_
 simp only[seval,EMA,q6]
 refine mU e (.seqK (.condT rfl (.skip (Mir.toK (.seqK (.block (.sR λe h=>?_))))))) h
 simp only[seval,EMA,q6,zD]
 refine mU e (.seqK (.regionW λe h=>regW.alt 5 rfl ?_)) h
 simp only[seval,EMA]
 refine alt_lookupOk rfl rfl rfl (by simp only[mapT,nt,lc]) gQ rfl (regW.of ?_)
 simp only[seval,EMA,mg_L,mis_kv]
 exact zzA
 exact zzA
 intro v9
 refine Mir.toK (.seqK (.sA ?_))
 refine Mir.join (λv12:(List (Int×Int))×(List (Int×Int))×(List (Int×Int))=>([U,U,U,U,.ptr 6 0]++us 105)) (λv12=>⟨[(cO pb0),[.mapc .i64 (zA (ekv (evL ac)) v4.2)],[.mapc .i64 (zA (ekv (evI .i64)) v12.1)],[.mapc .i64 (zA (ekv (evI .i64)) v12.2.1)],[.mapc .i64 (zA (ekv (evI .i64)) v12.2.2)],[.mapc .i64 (zA (ekv (evL ac)) [])],[.mp 1,.mp 2,.mp 3,.mp 4,.mp 5]],[(31,v4.1.length),(2,v7.length)]⟩) (λ_=>rfl) ?_ ?_
 refine .block (.guard λq8=>Mir.range (λ(i4:Nat) (v10:(List (Int×Int))×(List (Int×Int))×(List (Int×Int)))=>([U,U,U,U,.ptr 6 0]++us 92++[dL aJ xb0.Subs,dI (xb0.Subs.length:Int),dI (i4:Int)]++us 10)) (λi4 v10=>⟨[(cO pb0),[.mapc .i64 (zA (ekv (evL ac)) v4.2)],[.mapc .i64 (zA (ekv (evI .i64)) v10.1)],[.mapc .i64 (zA (ekv (evI .i64)) v10.2.1)],[.mapc .i64 (zA (ekv (evI .i64)) v10.2.2)],[.mapc .i64 (zA (ekv (evL ac)) [])],[.mp 1,.mp 2,.mp 3,.mp 4,.mp 5]],[(31,v4.1.length),(2,v7.length)]⟩) q8 (λ_ _=>rfl) (by simp only[seval,FMA,zNI]) (by simp only[seval,FMA,zNI]) ?_ ?_)
 intro i4 e4 v10 q9
 refine .sR λe h=>?_
 simp only[seval,EMA,q9]
 refine mU e (.seqK (.condT rfl (.skip (Mir.toK (.seqK (.block (.sR λe h=>?_))))))) h
 simp only[seval,EMA,q9,zD]
 refine mU e (.seqK (.bind λv11 h5=>.region λe h=>WA ?_)) h
 refine iL e4.Number pb0 v4.2 v10.1 v10.2.1 v10.2.2 [] e4 [(31,v4.1.length),(2,v7.length)] h5 ?_
 exact zzA
 exact zzA
 exact zzA
def gy(xa0:aD):Option ((Int) ⊕ (Int×(List (Int×(List aa)))×(List (Int×Int))×(List (Int×Int))×(List (Int×Int)))):=ah (dw xa0) λ(v3:(Int) ⊕ ((List (Int×(List aa)))×(List (Int×Int))×(List (Int×Int))×(List (Int×Int))))=>Sum.elim (λv4=>if (v4 != 0)=true then some (.inl v4)else none) (λv5=>ah (ah (av (be xa0.Main) ( az (λ(i1:Nat) (e1:aa) (v6:Int×Int)=>ah (iO e1) λ(y1:Int×Int×Bool×Int)=>ah (if (!y1.2.2.1)=true then some (v6.1,zI.wrap (v6.2+1))else some (mmI true v6.1 (zI.wrap (1+((mget v5.2.2.1 y1.1).getD 0))),zI.wrap (v6.2+(mmI false (zI.wrap (y1.2.1*((mget v5.2.2.2 y1.1).getD 0))) 20001)))) λ(v7:Int×Int)=>some (.go (v7.1,mmI false v7.2 20001))) (λ(v6:Int×Int)=>some (v6.1,v6.2)) xa0.Main 0 (0,0))) λ(v8:Int×Int)=>some (v8.1,v8.2)) λ(v9:Int×Int)=>if ((decide (v9.1>8))||(decide (v9.2>20000)))=true then some (.inl 3)else some (.inr (v9.2,v5.1,v5.2.1,v5.2.2.1,v5.2.2.2))) v3
theorem jr(xa0:aD)(pa0:aD){v:((Int) ⊕ (Int×(List (Int×(List aa)))×(List (Int×Int))×(List (Int×Int))×(List (Int×Int))))}(h:gy xa0=some v){R':V→Sg→Prop}(hR:R' (Sum.elim (λv1:Int=>.tuple [.d (.other (.pointer none)),dI 0,dI v1]) (λv2:Int×(List (Int×(List aa)))×(List (Int×Int))×(List (Int×Int))×(List (Int×Int))=>.tuple [.ptr 6 0,dI v2.1,dI 0]) v) (Sum.elim (λv1:Int=>(⟨[(cO pa0)],[]⟩:Sg)) (λv2:Int×(List (Int×(List aa)))×(List (Int×Int))×(List (Int×Int))×(List (Int×Int))=>⟨[(cO pa0),[.mapc .i64 (zA (ekv (evL ac)) v2.2.1)],[.mapc .i64 (zA (ekv (evI .i64)) v2.2.2.1)],[.mapc .i64 (zA (ekv (evI .i64)) v2.2.2.2.1)],[.mapc .i64 (zA (ekv (evI .i64)) v2.2.2.2.2)],[.mapc .i64 (zA (ekv (evL ac)) [])],[.mp 1,.mp 2,.mp 3,.mp 4,.mp 5]],[]⟩) v)):aY gP 57 [.agg (cO xa0)] ⟨[(cO pa0)],[]⟩ R':=by
 refine aY.inl Tryz.func57 rfl (by kernel_rfl) (by kernel_rfl) (λv:((Int) ⊕ (Int×(List (Int×(List aa)))×(List (Int×Int))×(List (Int×Int))×(List (Int×Int))))=>Sum.elim (λv1:Int=>.tuple [.d (.other (.pointer none)),dI 0,dI v1]) (λv2:Int×(List (Int×(List aa)))×(List (Int×Int))×(List (Int×Int))×(List (Int×Int))=>.tuple [.ptr 6 0,dI v2.1,dI 0]) v) (λv:((Int) ⊕ (Int×(List (Int×(List aa)))×(List (Int×Int))×(List (Int×Int))×(List (Int×Int))))=>Sum.elim (λv1:Int=>(⟨[(cO pa0)],[]⟩:Sg)) (λv2:Int×(List (Int×(List aa)))×(List (Int×Int))×(List (Int×Int))×(List (Int×Int))=>⟨[(cO pa0),[.mapc .i64 (zA (ekv (evL ac)) v2.2.1)],[.mapc .i64 (zA (ekv (evI .i64)) v2.2.2.1)],[.mapc .i64 (zA (ekv (evI .i64)) v2.2.2.2.1)],[.mapc .i64 (zA (ekv (evI .i64)) v2.2.2.2.2)],[.mapc .i64 (zA (ekv (evL ac)) [])],[.mp 1,.mp 2,.mp 3,.mp 4,.mp 5]],[]⟩) v) h (by cases v<;>rfl) ?_ hR
 unfold gy
 simp only[zB,zE,nS,nA,Tryz.ntmps57,SV]
 refine .seqK (.regionW λe h=>regW.alt 0 rfl ?_)
 simp only[seval,EMA]
 refine kZ [.list (zA ac xa0.Main),.list (zA aJ xa0.Subs)] _ rfl rfl (regW.of ?_)
 simp only[seval,EMA]
 refine mU e (.seqK (.bind λv3 hv1=>?_)) h
 rcases v3 with v4 | v5
 refine .region λe h=>WA ?_
 refine fM xa0 pa0 hv1 ?_
 simp only[seval,EMA]
 refine mU e (.seqK (.sA ?_)) h
 refine .cond rfl (λhb3=>?_) (λhb3=>?_)
 exact zzA
 exact zzA
 refine .region λe h=>WA ?_
 refine fM xa0 pa0 hv1 ?_
 simp only[seval,EMA]
 refine mU e (.seqK (.sR λe h=>?_)) h
 simp only[seval,EMA,(nr rfl:((0:Int) != 0)=false)]
 refine mU e (.condF rfl (.skip (Mir.toK (.seqK (.bind λv9 hv82=>.region λe h=>WA ?_))))) h
 refine aY.inl Tryz.func104 rfl (by kernel_rfl) (by kernel_rfl) (λv9:Int×Int=>.tuple [dI v9.1,dI v9.2]) (λv9=>⟨[(cO pa0),[.mapc .i64 (zA (ekv (evL ac)) v5.1)],[.mapc .i64 (zA (ekv (evI .i64)) v5.2.1)],[.mapc .i64 (zA (ekv (evI .i64)) v5.2.2.1)],[.mapc .i64 (zA (ekv (evI .i64)) v5.2.2.2)],[.mapc .i64 (zA (ekv (evL ac)) [])],[.mp 1,.mp 2,.mp 3,.mp 4,.mp 5]],[]⟩) hv82 rfl ?_ ?_
 simp only[zB,zE,nS,nA,Tryz.ntmps104,SV]
 refine .sA ?_
 refine .sA ?_
 refine .seqK (.sA ?_)
 refine Mir.joinO (λv8:Int×Int=>(us 6++[dI v8.1,dI v8.2]++us 48)) (λv8=>⟨[(cO pa0),[.mapc .i64 (zA (ekv (evL ac)) v5.1)],[.mapc .i64 (zA (ekv (evI .i64)) v5.2.1)],[.mapc .i64 (zA (ekv (evI .i64)) v5.2.2.1)],[.mapc .i64 (zA (ekv (evI .i64)) v5.2.2.2)],[.mapc .i64 (zA (ekv (evL ac)) [])],[.mp 1,.mp 2,.mp 3,.mp 4,.mp 5]],[]⟩) (λ_=>rfl) ?_ ?_
 refine .block (.guard λq1=>Mir.range (λ(i1:Nat) (v6:Int×Int)=>([.ptr 6 0,U,U,U,U,U,dI v6.1,dI v6.2]++us 6++[dL ac xa0.Main,dI (xa0.Main.length:Int),dI (i1:Int)]++us 39)) (λi1 v6=>⟨[(cO pa0),[.mapc .i64 (zA (ekv (evL ac)) v5.1)],[.mapc .i64 (zA (ekv (evI .i64)) v5.2.1)],[.mapc .i64 (zA (ekv (evI .i64)) v5.2.2.1)],[.mapc .i64 (zA (ekv (evI .i64)) v5.2.2.2)],[.mapc .i64 (zA (ekv (evL ac)) [])],[.mp 1,.mp 2,.mp 3,.mp 4,.mp 5]],[]⟩) q1 (λ_ _=>rfl) (by simp only[seval,FMA,zNI]) (by simp only[seval,FMA,zNI]) ?_ ?_)
 intro i1 e1 v6 q2
 refine .sR λe h=>?_
 simp only[seval,EMA,q2]
 refine mU e (.seqK (.condT rfl (.skip (Mir.toK (.seqK (.block (.sR λe h=>?_))))))) h
 simp only[seval,EMA,q2,zD]
 refine mU e (.seqK (.bind λy1 h1=>.region λe h=>WA ?_)) h
 refine .byA (fa h1) (mA ?_ h)
 refine .seqK (.sA ?_)
 refine Mir.joinO (λv7:Int×Int=>([.ptr 6 0,U,U,U,U,U,dI v7.1,dI v7.2]++us 6++[dL ac xa0.Main,dI (xa0.Main.length:Int),dI (i1:Int)]++us 39)) (λv7=>⟨[(cO pa0),[.mapc .i64 (zA (ekv (evL ac)) v5.1)],[.mapc .i64 (zA (ekv (evI .i64)) v5.2.1)],[.mapc .i64 (zA (ekv (evI .i64)) v5.2.2.1)],[.mapc .i64 (zA (ekv (evI .i64)) v5.2.2.2)],[.mapc .i64 (zA (ekv (evL ac)) [])],[.mp 1,.mp 2,.mp 3,.mp 4,.mp 5],(cC e1)],[]⟩) (λ_=>rfl) ?_ ?_
 refine .cond rfl (λ_=>.rA) (λh2=>?_)
 refine .seqK (.regionW λe h=>regW.alt 6 rfl ?_)
 simp only[seval,EMA]
 refine bv rfl rfl rfl (by simp only[mapT,und_178,lc]) jl rfl (regW.of ?_)
 simp only[seval,EMA,mg_I]
 refine mU e (.regionW λe h=>regW.alt 7 rfl ?_) h
 simp only[seval,EMA]
 refine bv rfl rfl rfl (by simp only[mapT,und_179,lc]) iH rfl (regW.of ?_)
 simp only[seval,EMA,mg_I]
 exact zzA
 exact zzA
 exact zzA
 exact zzA
 simp only[seval,EMA]
 refine mU e (.seqK (.seqK (.joinV ([U,U,U,U,U,.ptr 6 0,U,U,dI v9.2]++us 20++[dB ((decide (v9.1>8))||(decide (v9.2>20000))),U,U]) ⟨[(cO pa0),[.mapc .i64 (zA (ekv (evL ac)) v5.1)],[.mapc .i64 (zA (ekv (evI .i64)) v5.2.1)],[.mapc .i64 (zA (ekv (evI .i64)) v5.2.2.1)],[.mapc .i64 (zA (ekv (evI .i64)) v5.2.2.2)],[.mapc .i64 (zA (ekv (evL ac)) [])],[.mp 1,.mp 2,.mp 3,.mp 4,.mp 5]],[]⟩ rfl ?_ ?_))) h
 exact zzA
 exact zzA
def cb(rc:(List aa)→(List (Int×(List aa)))→(List (Int×(List aa)))→Option ((List aa)×(List (Int×(List aa)))))(xd1:(List aa))(md1:(List (Int×(List aa))))(md5:(List (Int×(List aa)))):Option ((List aa)×(List (Int×(List aa)))):=ah (av (be xd1) ( az (λ(i1:Nat) (e1:aa) (v1:(List aa)×(List (Int×(List aa))))=>ah (bindX (ah (iO e1) λ(y1:Int×Int×Bool×Int)=>if (!y1.2.2.1)=true then av (bo (v1.1.length+1)) ( some (.ret (v1.1++[e1],v1.2)))else some (.go (y1.1,y1.2.1))) λ(v2:Int×Int)=>ah (if (!((mget v1.2 v2.1).isSome))=true then ah (rc ((mget md1 v2.1).getD []) md1 v1.2) λ(v3:(List aa)×(List (Int×(List aa))))=>some (v3.1,mput v3.2 v2.1 v3.1)else some ((mget v1.2 v2.1).getD [],v1.2)) λ(v4:(List aa)×(List (Int×(List aa))))=>if ((v4.1.length:Int)==0)=true then some (v1.1,v4.2)else bt (λ(v5:(List aa)×Int)=>if (decide (v5.2<v2.2))=true then av (bo (v5.1.length+v4.1.length)) ( some (.go (v5.1++v4.1,zI.wrap (v5.2+1))))else some (.ret (v5.1,v4.2))) fuel (v1.1,0)) λ(v6:(List aa)×(List (Int×(List aa))))=>some (.go (v6.1,v6.2))) (λ(v1:(List aa)×(List (Int×(List aa))))=>some (v1.1,v1.2)) xd1 0 ([],md5))) λ(v7:(List aa)×(List (Int×(List aa))))=>some (v7.1,v7.2)
theorem ig(rc:(List aa)→(List (Int×(List aa)))→(List (Int×(List aa)))→Option ((List aa)×(List (Int×(List aa)))))(ih:∀(xd1:(List aa)) (pd0:aD) (md1:(List (Int×(List aa)))) (md2:(List (Int×Int))) (md3:(List (Int×Int))) (md4:(List (Int×Int))) (md5:(List (Int×(List aa)))) (L:List (TypeId×Nat)) {v:((List aa)×(List (Int×(List aa))))} (_:rc xd1 md1 md5=some v) {R':V→Sg→Prop} (hR:R' (.d (.list (zA ac v.1))) (⟨[(cO pd0),[.mapc .i64 (zA (ekv (evL ac)) md1)],[.mapc .i64 (zA (ekv (evI .i64)) md2)],[.mapc .i64 (zA (ekv (evI .i64)) md3)],[.mapc .i64 (zA (ekv (evI .i64)) md4)],[.mapc .i64 (zA (ekv (evL ac)) v.2)],[.mp 1,.mp 2,.mp 3,.mp 4,.mp 5]],L⟩)),aY gP 58 [.ptr 6 0,.d (.list (zA ac xd1))] ⟨[(cO pd0),[.mapc .i64 (zA (ekv (evL ac)) md1)],[.mapc .i64 (zA (ekv (evI .i64)) md2)],[.mapc .i64 (zA (ekv (evI .i64)) md3)],[.mapc .i64 (zA (ekv (evI .i64)) md4)],[.mapc .i64 (zA (ekv (evL ac)) md5)],[.mp 1,.mp 2,.mp 3,.mp 4,.mp 5]],L⟩ R')(xd1:(List aa))(pd0:aD)(md1:(List (Int×(List aa))))(md2:(List (Int×Int)))(md3:(List (Int×Int)))(md4:(List (Int×Int)))(md5:(List (Int×(List aa))))(L:List (TypeId×Nat)){v:((List aa)×(List (Int×(List aa))))}(h:cb rc xd1 md1 md5=some v){R':V→Sg→Prop}(hR:R' (.d (.list (zA ac v.1))) (⟨[(cO pd0),[.mapc .i64 (zA (ekv (evL ac)) md1)],[.mapc .i64 (zA (ekv (evI .i64)) md2)],[.mapc .i64 (zA (ekv (evI .i64)) md3)],[.mapc .i64 (zA (ekv (evI .i64)) md4)],[.mapc .i64 (zA (ekv (evL ac)) v.2)],[.mp 1,.mp 2,.mp 3,.mp 4,.mp 5]],L⟩)):aY gP 58 [.ptr 6 0,dL ac xd1] ⟨[(cO pd0),[.mapc .i64 (zA (ekv (evL ac)) md1)],[.mapc .i64 (zA (ekv (evI .i64)) md2)],[.mapc .i64 (zA (ekv (evI .i64)) md3)],[.mapc .i64 (zA (ekv (evI .i64)) md4)],[.mapc .i64 (zA (ekv (evL ac)) md5)],[.mp 1,.mp 2,.mp 3,.mp 4,.mp 5]],L⟩ R':=by
 refine aY.inl Tryz.func58 rfl (by kernel_rfl) (by kernel_rfl) (λv:((List aa)×(List (Int×(List aa))))=>.d (.list (zA ac v.1))) (λv:((List aa)×(List (Int×(List aa))))=>⟨[(cO pd0),[.mapc .i64 (zA (ekv (evL ac)) md1)],[.mapc .i64 (zA (ekv (evI .i64)) md2)],[.mapc .i64 (zA (ekv (evI .i64)) md3)],[.mapc .i64 (zA (ekv (evI .i64)) md4)],[.mapc .i64 (zA (ekv (evL ac)) v.2)],[.mp 1,.mp 2,.mp 3,.mp 4,.mp 5]],L⟩) h (by simp[okF,lh,lg,V.unders,V.under,bL]) ?_ hR
 unfold cb
 simp only[zB,zE,nS,nA,Tryz.ntmps58,SV]
 refine .sR λe h=>?_
 simp only[seval,EMA,SYK]
 refine mU e (.sR λe h=>?_) h
 simp only[seval,EMA,SYK]
 refine mU e (.seqK (.sR λe h=>?_)) h
 simp only[seval,EMA,SYK]
 refine mU e (.gh [.slot 5 87] rfl (Mir.joinO (λv7:(List aa)×(List (Int×(List aa)))=>([U,U,U,U,U,.own L.length (zA ac v7.1)]++us 64)) (λv7=>⟨[(cO pd0),[.mapc .i64 (zA (ekv (evL ac)) md1)],[.mapc .i64 (zA (ekv (evI .i64)) md2)],[.mapc .i64 (zA (ekv (evI .i64)) md3)],[.mapc .i64 (zA (ekv (evI .i64)) md4)],[.mapc .i64 (zA (ekv (evL ac)) v7.2)],[.mp 1,.mp 2,.mp 3,.mp 4,.mp 5]],(L++[(87,v7.1.length)])⟩) (λ_=>by simp[okF,lh,lg,V.unders,V.under,bL]) ?_ ?_)) h
 refine .block (.guard λq1=>Mir.range (λ(i1:Nat) (v1:(List aa)×(List (Int×(List aa))))=>([.ptr 6 0,U,U,U,U,.own L.length (zA ac v1.1)]++us 8++[dL ac xd1,dI (xd1.length:Int),dI (i1:Int)]++us 53)) (λi1 v1=>⟨[(cO pd0),[.mapc .i64 (zA (ekv (evL ac)) md1)],[.mapc .i64 (zA (ekv (evI .i64)) md2)],[.mapc .i64 (zA (ekv (evI .i64)) md3)],[.mapc .i64 (zA (ekv (evI .i64)) md4)],[.mapc .i64 (zA (ekv (evL ac)) v1.2)],[.mp 1,.mp 2,.mp 3,.mp 4,.mp 5]],(L++[(87,v1.1.length)])⟩) q1 (λ_ _=>by simp[okF,lh,lg,V.unders,V.under,bL]) (by simp only[seval,FMA,SYK,zNI]) (by simp only[seval,FMA,SYK,zNI]) ?_ ?_)
 intro i1 e1 v1 q2
 refine .sR λe h=>?_
 simp only[seval,EMA,q2,SYK]
 refine mU e (.seqK (.condT rfl (.skip (Mir.toK (.seqK (Mir.joinO (λv6:(List aa)×(List (Int×(List aa)))=>([.ptr 6 0,U,U,U,U,.own L.length (zA ac v6.1)]++us 8++[dL ac xd1,dI (xd1.length:Int),dI (i1:Int)]++us 53)) (λv6=>⟨[(cO pd0),[.mapc .i64 (zA (ekv (evL ac)) md1)],[.mapc .i64 (zA (ekv (evI .i64)) md2)],[.mapc .i64 (zA (ekv (evI .i64)) md3)],[.mapc .i64 (zA (ekv (evI .i64)) md4)],[.mapc .i64 (zA (ekv (evL ac)) v6.2)],[.mp 1,.mp 2,.mp 3,.mp 4,.mp 5]],(L++[(87,v6.1.length)])⟩) (λ_=>by simp[okF,lh,lg,V.unders,V.under,bL]) ?_ ?_)))))) h
 refine .block (Mir.joinL3 (λv2:Int×Int=>([.ptr 6 0,U,U,U,U,.own L.length (zA ac v1.1),U,U,dI v2.1,dI v2.2,U,U,U,U,dL ac xd1,dI (xd1.length:Int),dI (i1:Int)]++us 53)) (λv2=>⟨[(cO pd0),[.mapc .i64 (zA (ekv (evL ac)) md1)],[.mapc .i64 (zA (ekv (evI .i64)) md2)],[.mapc .i64 (zA (ekv (evI .i64)) md3)],[.mapc .i64 (zA (ekv (evI .i64)) md4)],[.mapc .i64 (zA (ekv (evL ac)) v1.2)],[.mp 1,.mp 2,.mp 3,.mp 4,.mp 5]],(L++[(87,v1.1.length)])⟩) (λ_=>by simp[okF,lh,lg,V.unders,V.under,bL]) ?_ ?_)
 refine MirL.cons (.region λe h=>?_)
 simp only[seval,EMA,q2,zD,SYK]
 refine MirL.use (e:=e) (MirL.cons ?_) h
 refine .bind λy1 h1=>.region λe h=>?_
 simp only[seval,EMA,SYK]
 refine aY.by (fa h1) (by simp only[seval,FMA,SYK]) ?_
 simp only[seval,EMA,SYK]
 refine MirL.use (e:=e) (MirL.cons ?_) h
 refine .sR λe h=>?_
 simp only[seval,EMA,SYK]
 refine mU e (.cond rfl (λh2=>?_) (λh2=>?_)) h
 refine .seqK (.guard λq3=>.region λe h=>?_)
 simp only[seval,EMA,(oL 3),q3,SYK]
 refine mU e (.exit λe h=>?_) h
 cases h
 simp only[seval,FMA,SYK]
 refine .skip λe h=>?_
 cases h
 simp only[seval,FMA,SYK]
 intro v2
 refine .seqK (.regionW λe h=>regW.alt 5 rfl ?_)
 simp only[seval,EMA,SYK]
 refine alt_lookupOk rfl rfl rfl (by simp only[mapT,nt,lc]) gQ rfl (regW.of ?_)
 simp only[seval,EMA,mg_L,mis_kv,SYK]
 refine mU e (.seqK (.sR λe h=>?_)) h
 simp only[seval,EMA,SYK]
 refine mU e (Mir.joinO (λv4:(List aa)×(List (Int×(List aa)))=>([.ptr 6 0,U,U,U,U,.own L.length (zA ac v1.1),U,U,U,dI v2.2,U,U,dL ac v4.1,U,dL ac xd1,dI (xd1.length:Int),dI (i1:Int)]++us 53)) (λv4=>⟨[(cO pd0),[.mapc .i64 (zA (ekv (evL ac)) md1)],[.mapc .i64 (zA (ekv (evI .i64)) md2)],[.mapc .i64 (zA (ekv (evI .i64)) md3)],[.mapc .i64 (zA (ekv (evI .i64)) md4)],[.mapc .i64 (zA (ekv (evL ac)) v4.2)],[.mp 1,.mp 2,.mp 3,.mp 4,.mp 5]],(L++[(87,v1.1.length)])⟩) (λ_=>by simp[okF,lh,lg,V.unders,V.under,bL]) ?_ ?_) h
 refine .cond rfl (λh3=>?_) (λh3=>?_)
 refine .seqK (.bind λv3 h4=>.regionW λe h=>regW.alt 6 rfl ?_)
 simp only[seval,EMA,SYK]
 refine bv rfl rfl rfl (by simp only[mapT,nt,lc]) gQ rfl (regW.of ?_)
 simp only[seval,EMA,mg_L,SYK]
 refine ih ((mget md1 v2.1).getD []) pd0 md1 md2 md3 md4 v1.2 (L++[(87,v1.1.length)]) h4 ?_
 simp only[seval,EMA,SYK]
 refine mU e (.regionW λe h=>regW.alt 6 rfl ?_) h
 simp only[seval,EMA,SYK]
 refine cd (et:=31) rfl rfl rfl rfl (by simp only[mapT,nt,lc]) (regW.of ?_)
 simp only[seval,EMA,mp_L,SYK]
 cases h
 simp only[seval,FMA,SYK]
 refine .skip λe h=>?_
 cases h
 simp only[seval,FMA,SYK]
 intro v4
 refine Mir.toK (.seqK (.sR λe h=>?_))
 simp only[seval,EMA,SYK]
 refine mU e (.cond rfl (λh5=>?_) (λh5=>?_)) h
 refine .exit λe h=>?_
 cases h
 simp only[seval,FMA,SYK]
 refine .skip (Mir.toK (.sR λe h=>?_))
 simp only[seval,EMA,SYK]
 refine mU e (.block (Mir.loop (λv5:(List aa)×Int=>([.ptr 6 0,U,U,U,U,.own L.length (zA ac v5.1)]++us 6++[dL ac v4.1,U,dL ac xd1,dI (xd1.length:Int),dI (i1:Int)]++us 44++[dI v2.2,dI v5.2]++us 7)) (λv5=>⟨[(cO pd0),[.mapc .i64 (zA (ekv (evL ac)) md1)],[.mapc .i64 (zA (ekv (evI .i64)) md2)],[.mapc .i64 (zA (ekv (evI .i64)) md3)],[.mapc .i64 (zA (ekv (evI .i64)) md4)],[.mapc .i64 (zA (ekv (evL ac)) v4.2)],[.mp 1,.mp 2,.mp 3,.mp 4,.mp 5]],(L++[(87,v5.1.length)])⟩) (λ_=>by simp[okF,lh,lg,V.unders,V.under,bL]) (by simp only[seval,FMA,SYK]) (by simp only[seval,FMA,SYK]) λv5=>.sR λe h=>?_)) h
 simp only[seval,EMA,SYK]
 refine mU e (.seqK (.cond rfl (λh6=>?_) (λh6=>?_))) h
 refine .skip (Mir.toK (.seqK (.block (.guard λq4=>.region λe h=>?_))))
 simp only[seval,EMA,q4,SYK]
 refine mU e (.region λe h=>?_) h
 simp only[seval,EMA,SYK]
 cases h
 simp only[seval,FMA,SYK]
 refine .exit λe h=>?_
 cases h
 simp only[seval,FMA,SYK]
 intro v6
 refine Mir.toK (.region λe h=>?_)
 simp only[seval,EMA,SYK]
 cases h
 simp only[seval,FMA,SYK,q2]
 intro v1 q5
 refine .sR λe h=>?_
 simp only[seval,EMA,q5,SYK]
 refine mU e (.seqK (.condF rfl (.exit λe h=>?_))) h
 cases h
 simp only[seval,FMA,SYK]
 intro v7
 refine Mir.toK (.sR λe h=>?_)
 simp only[seval,EMA,SYK]
 refine mU e (.ret λe h=>?_) h
 cases h
 simp only[seval,FMA,SYK]
def bz:Nat→(List aa)→(List (Int×(List aa)))→(List (Int×(List aa)))→Option ((List aa)×(List (Int×(List aa)))) | 0=>λ_ _ _=>none | n+1=>cb (bz n)
theorem dJ:∀(n:Nat) (xd1:(List aa)) (pd0:aD) (md1:(List (Int×(List aa)))) (md2:(List (Int×Int))) (md3:(List (Int×Int))) (md4:(List (Int×Int))) (md5:(List (Int×(List aa)))) (L:List (TypeId×Nat)) {v:((List aa)×(List (Int×(List aa))))} (_:bz n xd1 md1 md5=some v) {R':V→Sg→Prop} (hR:R' (.d (.list (zA ac v.1))) (⟨[(cO pd0),[.mapc .i64 (zA (ekv (evL ac)) md1)],[.mapc .i64 (zA (ekv (evI .i64)) md2)],[.mapc .i64 (zA (ekv (evI .i64)) md3)],[.mapc .i64 (zA (ekv (evI .i64)) md4)],[.mapc .i64 (zA (ekv (evL ac)) v.2)],[.mp 1,.mp 2,.mp 3,.mp 4,.mp 5]],L⟩)),aY gP 58 [.ptr 6 0,.d (.list (zA ac xd1))] ⟨[(cO pd0),[.mapc .i64 (zA (ekv (evL ac)) md1)],[.mapc .i64 (zA (ekv (evI .i64)) md2)],[.mapc .i64 (zA (ekv (evI .i64)) md3)],[.mapc .i64 (zA (ekv (evI .i64)) md4)],[.mapc .i64 (zA (ekv (evL ac)) md5)],[.mp 1,.mp 2,.mp 3,.mp 4,.mp 5]],L⟩ R'
 | 0=>(by intros;rename_i h _ _;cases h)
 | n+1=>ig (bz n) (dJ n)
def fN(xd1:(List aa))(md1:(List (Int×(List aa))))(md5:(List (Int×(List aa)))):Option ((List aa)×(List (Int×(List aa)))):=bz fuel xd1 md1 md5
theorem ie(xd1:(List aa))(pd0:aD)(md1:(List (Int×(List aa))))(md2:(List (Int×Int)))(md3:(List (Int×Int)))(md4:(List (Int×Int)))(md5:(List (Int×(List aa))))(L:List (TypeId×Nat)){v:((List aa)×(List (Int×(List aa))))}(h:fN xd1 md1 md5=some v){R':V→Sg→Prop}(hR:R' (.d (.list (zA ac v.1))) (⟨[(cO pd0),[.mapc .i64 (zA (ekv (evL ac)) md1)],[.mapc .i64 (zA (ekv (evI .i64)) md2)],[.mapc .i64 (zA (ekv (evI .i64)) md3)],[.mapc .i64 (zA (ekv (evI .i64)) md4)],[.mapc .i64 (zA (ekv (evL ac)) v.2)],[.mp 1,.mp 2,.mp 3,.mp 4,.mp 5]],L⟩)):aY gP 58 [.ptr 6 0,.d (.list (zA ac xd1))] ⟨[(cO pd0),[.mapc .i64 (zA (ekv (evL ac)) md1)],[.mapc .i64 (zA (ekv (evI .i64)) md2)],[.mapc .i64 (zA (ekv (evI .i64)) md3)],[.mapc .i64 (zA (ekv (evI .i64)) md4)],[.mapc .i64 (zA (ekv (evL ac)) md5)],[.mp 1,.mp 2,.mp 3,.mp 4,.mp 5]],L⟩ R':=dJ fuel xd1 pd0 md1 md2 md3 md4 md5 L h hR
def bR(a0:List ay):Option (List ay):=av (bo a0.length) (some a0)
theorem fK{y:List ay}(h:(some [])=some y):Spec gP 59 [.d (.other (.slice none 0 c0))] (.d (.list (zA aw y))):=by
 refine jq Tryz.func59 rfl (by kernel_rfl) (by kernel_rfl) (λy:List ay=>.d (.list (zA aw y))) ?_ h
 simp only[zB,zE,nS,nA,Tryz.ntmps59,SV]
 refine .sA ?_
 refine .seqK (.sA ?_)
 refine .condT rfl (.sA ?_)
 refine .ret QA
theorem fJ{y:List ay}(h:(some [])=some y):Spec gP 59 [.d (.other (.slice (some p0) 0 c0))] (.d (.list (zA aw y))):=by
 refine jq Tryz.func59 rfl (by kernel_rfl) (by kernel_rfl) (λy:List ay=>.d (.list (zA aw y))) ?_ h
 simp only[zB,zE,nS,nA,Tryz.ntmps59,SV]
 refine .sA ?_
 refine .seqK (.sA ?_)
 refine .condF rfl (.skip (Mir.toK (.sR λe h=>?_)))
 simp only[seval,EMA,(oL 0),zG,zH]
 refine mU e (.ret QA) h
theorem fL{x0:ay}{l0:List ay}{y:List ay}(h:(av (bo ((x0::l0).length)) (   some (x0::l0)))=some y):Spec gP 59 [.d (.list (zA aw (x0::l0)))] (.d (.list (zA aw y))):=by
 refine jq Tryz.func59 rfl (by kernel_rfl) (by kernel_rfl) (λy:List ay=>.d (.list (zA aw y))) ?_ h
 simp only[zB,zE,nS,nA,Tryz.ntmps59,SV]
 refine .sA ?_
 refine .seqK (.sA ?_)
 refine .condF rfl (.skip (Mir.toK (.seqK (.guard λq1=>.region λe h=>?_))))
 simp only[seval,EMA,(oL 0),q1]
 refine mU e (.ret QA) h
theorem cf{a0:List ay}{y:List ay}(h:bR a0=some y):Spec gP 59 [.d (.list (zA aw a0))] (.d (.list (zA aw y))):=by
 obtain⟨hl,h⟩:=fZ h
 cases h
 cases a0 with
 | nil =>
  refine Spec.nilcase λA c=>?_
  cases A with
  | none=>exact fK rfl
  | some p=>exact fJ rfl
 | cons x l=>exact fL (by simp only[av,hl])
instance:Sp 59 (type_of% @cf):=⟨@cf⟩
def lq(a0:aD):Option ((List aa)×Int):=ah (gy a0) λ(v1:(Int) ⊕ (Int×(List (Int×(List aa)))×(List (Int×Int))×(List (Int×Int))×(List (Int×Int))))=>Sum.elim (λv2=>if (v2 != 0)=true then some ([],v2)else none) (λv3=>ah (fN a0.Main v3.2.1 []) λ(v4:(List aa)×(List (Int×(List aa))))=>gF [.slot 7 87] ( ah (av (be v4.1) ( az (λ(i1:Nat) (e1:aa) (v5:(List aa))=>rF (us 7++[.own 0 (zA ac v5)]++us 14++[dL ac v4.1,dI (v4.1.length:Int),dI (i1:Int)]++us 13) ⟨[(cO a0),[.mapc .i64 (zA (ekv (evL ac)) v3.2.1)],[.mapc .i64 (zA (ekv (evI .i64)) v3.2.2.1)],[.mapc .i64 (zA (ekv (evI .i64)) v3.2.2.2.1)],[.mapc .i64 (zA (ekv (evI .i64)) v3.2.2.2.2)],[.mapc .i64 (zA (ekv (evL ac)) v4.2)],[.mp 1,.mp 2,.mp 3,.mp 4,.mp 5]],[(87,v5.length)]⟩ ( ah (bR e1.Words) λ(y1:(List ay))=>av (bo (v5.length+1)) ( some (.go (v5++[aa.mk e1.Skip y1 e1.Comment]))))) (λ(v5:(List aa))=>some v5) v4.1 0 [])) λ(v6:(List aa))=>jB 0 (us 7++[.own 0 (zA ac v6)]++us 30) ⟨[(cO a0),[.mapc .i64 (zA (ekv (evL ac)) v3.2.1)],[.mapc .i64 (zA (ekv (evI .i64)) v3.2.2.1)],[.mapc .i64 (zA (ekv (evI .i64)) v3.2.2.2.1)],[.mapc .i64 (zA (ekv (evI .i64)) v3.2.2.2.2)],[.mapc .i64 (zA (ekv (evL ac)) v4.2)],[.mp 1,.mp 2,.mp 3,.mp 4,.mp 5]],[(87,v6.length)]⟩ ( some (v6,0)))) v1
theorem mY{a0:aD}{y:(List aa)×Int}(h:lq a0=some y):Spec gP 21 [.agg (cO a0)] (.tuple [.d (.list (zA ac y.1)),.d (.int .i64 y.2)]):=by
 refine auA Tryz.func21 (λy:(List aa)×Int=>.tuple [.d (.list (zA ac y.1)),.d (.int .i64 y.2)]) ?_ h
 unfold lq
 refine .sA ?_
 refine .seqK (.bind λv1 hv1=>?_)
 rcases v1 with v2 | v3
 refine .region λe h=>WA ?_
 refine jr a0 a0 hv1 ?_
 simp only[seval,EMA]
 refine mU e (.seqK (.sA ?_)) h
 refine .cond rfl (λhb3=>?_) (λhb3=>?_)
 exact zzA
 exact zzA
 refine .region λe h=>WA ?_
 refine jr a0 a0 hv1 ?_
 simp only[seval,EMA]
 refine mU e (.seqK (.sR λe h=>?_)) h
 simp only[seval,EMA,(nr rfl:((0:Int) != 0)=false)]
 refine mU e (.condF rfl (.skip (Mir.toK (.sA ?_)))) h
 refine .seqK (.seqK (.bind λv4 hv4=>.region λe h=>WA ?_))
 refine ie a0.Main a0 v3.2.1 v3.2.2.1 v3.2.2.2.1 v3.2.2.2.2 [] [] hv4 ?_
 exact zzA
instance:Sp 21 (type_of% @mY):=⟨@mY⟩
end Go.Proofs.YtjemmjpdmbenkaaGreatDoor
