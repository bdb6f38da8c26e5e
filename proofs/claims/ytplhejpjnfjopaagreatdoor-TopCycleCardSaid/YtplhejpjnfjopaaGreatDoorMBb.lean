import Derived.Test.YtplhejpjnfjopaaGreatDoorMBa
open List renaming map → zA,replicate → zB,length → zD
open Bool renaming eq_false_or_eq_true → zE
open Int renaming toNat_natCast → zF,tdiv → zG,tmod → zI,reduceToNat → zJ
open Nat renaming le_refl → zH
open Go.IntKind renaming i64 → zK
namespace Go.Proofs.YtplhejpjnfjopaaGreatDoor
open Go.RowKit
open Nat renaming reduceAdd → nA,reduceSub → nS,reduceMul → nM,reduceEqDiff → nE,reduceLeDiff → nL,reduceLT → nT,reduceBEq → nB
open Int renaming reduceLT → iT,reduceToNat → iN,reduceEq → iE
set_option linter.unusedVariables false
set_option linter.unusedSimpArgs false
set_option maxRecDepth 100000
set_option maxHeartbeats 8000000
def ke(a0:aJ):Option Bool:=bindO (if (decide ((zK.wrap ((a0.Main.length:Int)-1))<0))=true then some true else bindO (gt a0.Main (zK.wrap ((a0.Main.length:Int)-1))) λ(e1:ac)=>bindO (kN e1 77 30000) λ(y1:Bool)=>if y1=true then bindO (gf e1 79) λ(y2:(List Int))=>if (decide ((y2.length:Int)>0))=true then some true else bindO (kN e1 77 99000) λ(y3:Bool)=>if y3=true then some true else bindO (cutT a0.Main (zK.wrap ((a0.Main.length:Int)-1))) λ(s1:(List ac))=>bindO (bindO (bindX (aF (okIdx s1) ( aU (λ(i1:Nat) (e2:ac) (v1:Unit)=>bindO (jI e2) λ(y4:Bool)=>if y4=true then some (.ret (.ret (i1:Int)))else some (.go ())) (λ(v1:Unit)=>some (.go ())) s1 0 ())) λ(v2:Unit)=>some (-1)) λ(v3:Int)=>some (decide (v3≥0))) λ(v4:Bool)=>some v4 else some true) λ(v5:Bool)=>if v5=true then some false else bindO (bindO (bindX (aF (okIdx a0.Subs) ( aU (λ(i2:Nat) (e3:bd) (v6:Unit)=>bindO (iP e3) λ(y5:Bool)=>if y5=true then some (.ret (.ret (i2:Int)))else some (.go ())) (λ(v6:Unit)=>some (.go ())) a0.Subs 0 ())) λ(v7:Unit)=>some (-1)) λ(v8:Int)=>some (decide (v8≥0))) λ(v9:Bool)=>some (!v9)
theorem gy{a0:aJ}{y:Bool}(h:ke a0=some y):Spec gP 86 [.agg (cN a0)] (.d (.bool y)):=by
 refine aB Tryz.func86 rfl (by kernel_rfl) (by kernel_rfl) (λy:Bool=>.d (.bool y)) ?_ h
 unfold ke
 simp only[zB,zD,nS,nA,Tryz.ntmps86,SV]
 refine .sR λe h=>?_
 simp only[seval,EMB]
 refine mU e (.sR λe h=>?_) h
 simp only[seval,EMB,de,sz_50,ag_50,aE]
 refine mU e (.seqK (.seqK (Mir.joinO (λv5:Bool=>([U,.ptr 0 0,U,U,U,U,U,U,U,U,U,U,U,U,U,U,U,U,U,U,U,U,U,U,U,U,U,U,U,U,U,U,U,U,U,U,U,U,U,U,U,U,U,.d (.bool v5)]++us 4)) (λv5=>⟨[(cN a0)],[]⟩) (λ_=>rfl) ?_ ?_))) h
 refine .ite (λhb1=>?_) (λhb1=>?_)
 refine .region λe h=>?_
 simp only[seval,EMB,hb1]
 cases h
 simp only[seval,FMB,hb1]
 refine .bind λe1 q2=>?_
 replace q2:=gt_ok q2
 refine .bind λy1 hy3=>.ite (λhb4=>?_) (λhb4=>?_)
 refine .bind λy2 hy5=>.ite (λhb6=>?_) (λhb6=>?_)
 refine .region λe h=>?_
 simp only[seval,EMB,de,sz_50,ag_50,aE,sz_58,q2,ag_58,hb1,hb4,hb6]
 refine SpecS.by (cd hy3) (by simp only[seval,FMB,hb1,hb4,hb6]) ?_
 simp only[seval,EMB,de,sz_50,ag_50,aE,sz_58,q2,ag_58,hb1,hb4,hb6]
 refine SpecS.by (cf hy5) (by simp only[seval,FMB,hb1,hb4,hb6]) ?_
 simp only[seval,EMB,cn,hb1,hb4,hb6]
 cases h
 simp only[seval,FMB,hb1,hb4,hb6]
 refine .bind λy3 hy7=>.ite (λhb8=>?_) (λhb8=>?_)
 refine .region λe h=>?_
 simp only[seval,EMB,de,sz_50,ag_50,aE,sz_58,q2,ag_58,hb1,hb4,hb6,hb8]
 refine SpecS.by (cd hy3) (by simp only[seval,FMB,hb1,hb4,hb6,hb8]) ?_
 simp only[seval,EMB,de,sz_50,ag_50,aE,sz_58,q2,ag_58,hb1,hb4,hb6,hb8]
 refine SpecS.by (cf hy5) (by simp only[seval,FMB,hb1,hb4,hb6,hb8]) ?_
 simp only[seval,EMB,cn,de,sz_50,ag_50,aE,sz_58,q2,ag_58,hb1,hb4,hb6,hb8]
 refine SpecS.by (cd hy7) (by simp only[seval,FMB,hb1,hb4,hb6,hb8]) ?_
 simp only[seval,EMB,hb1,hb4,hb6,hb8]
 cases h
 simp only[seval,FMB,hb1,hb4,hb6,hb8]
 refine .bind λs1 q9=>?_
 replace q9:=cutT_ok q9
 refine .bind λv4 hv81=>.region λe h=>?_
 simp only[seval,EMB,de,sz_50,ag_50,aE,sz_58,q2,ag_58,hb1,hb4,hb6,hb8]
 refine SpecS.by (cd hy3) (by simp only[seval,FMB,hb1,hb4,hb6,hb8]) ?_
 simp only[seval,EMB,de,sz_50,ag_50,aE,sz_58,q2,ag_58,hb1,hb4,hb6,hb8]
 refine SpecS.by (cf hy5) (by simp only[seval,FMB,hb1,hb4,hb6,hb8]) ?_
 simp only[seval,EMB,cn,de,sz_50,ag_50,aE,sz_58,q2,ag_58,hb1,hb4,hb6,hb8]
 refine SpecS.by (cd hy7) (by simp only[seval,FMB,hb1,hb4,hb6,hb8]) ?_
 simp only[seval,EMB,de,sz_50,ag_50,aE,sz_58,q9,zH,and_true,true_and,dm,tm,ba,hb1,hb4,hb6,hb8]
 refine SpecS.inl Tryz.func133 rfl (by kernel_rfl) (by kernel_rfl) (λv4:Bool=>.d (.bool v4)) (λv4=>⟨[(cN a0)],[]⟩) hv81 rfl ?_ ?_
 simp only[zB,zD,nS,nA,Tryz.ntmps133,SV]
 refine .sR λe h=>?_
 simp only[seval,EMB]
 refine mU e (.seqK (.bind λv3 h1=>.region λe h=>?_)) h
 simp only[seval,EMB]
 refine SpecS.inl Tryz.func81 rfl (by kernel_rfl) (by kernel_rfl) (λv3:Int=>.d (.int .i64 v3)) (λv3=>⟨[(cN a0)],[]⟩) h1 rfl ?_ ?_
 simp only[zB,zD,nS,nA,Tryz.ntmps81,SV]
 refine .sR λe h=>?_
 simp only[seval,EMB]
 refine mU e (.seqK (.sR λe h=>?_)) h
 simp only[seval,EMB,aE]
 refine mU e (Mir.join (λv2:Unit=>(us 19)) (λv2=>⟨[(cN a0)],[]⟩) (λ_=>rfl) ?_ ?_) h
 refine .block (.guard λq1=>Mir.range (λ(i1:Nat) (v1:Unit)=>([.d (.list (zA aa s1)),.fn 134 [],U,U,U,U,U,.d (.int .i64 (s1.length:Int)),.d (.int .i64 (i1:Int))]++us 10)) (λi1 v1=>⟨[(cN a0)],[]⟩) q1 (λ_ _=>rfl) (by simp only[seval,FMB,zNI]) (by simp only[seval,FMB,zNI]) ?_ ?_)
 intro i1 e2 v1 q3
 refine .sR λe h=>?_
 simp only[seval,EMB,q3]
 refine mU e (.seqK (.condT rfl (.skip (Mir.toK (.seqK (.block (.sR λe h=>?_))))))) h
 simp only[seval,EMB]
 refine mU e (.seqK (.bind λy4 h2=>.region λe h=>?_)) h
 simp only[seval,EMB,aE,sz_58,q3,zF,ag_58]
 refine SpecS.by (dW h2) (by simp only[seval,FMB]) ?_
 simp only[seval,EMB]
 refine mU e (.cond rfl (λh3=>?_) (λh3=>?_)) h
 refine .sR λe h=>?_
 simp only[seval,EMB]
 refine mU e (.ret λe h=>?_) h
 cases h
 simp only[seval,FMB,Tryz.results81]
 refine .skip (Mir.toB (Mir.toK (.region λe h=>?_)))
 simp only[seval,EMB]
 cases h
 simp only[seval,FMB,Tryz.results81,q3]
 intro v1 q4
 refine .sR λe h=>?_
 simp only[seval,EMB,q4]
 refine mU e (.seqK (.condF rfl (.exit λe h=>?_))) h
 cases h
 simp only[seval,FMB,Tryz.results81]
 intro v2
 refine Mir.toK (.sR λe h=>?_)
 simp only[seval,EMB]
 refine mU e (.ret λe h=>?_) h
 cases h
 simp only[seval,FMB,Tryz.results81]
 simp only[seval,EMB]
 refine mU e (.ret λe h=>?_) h
 cases h
 simp only[seval,FMB,Tryz.results133]
 simp only[seval,EMB,hb1,hb4,hb6,hb8]
 cases h
 simp only[seval,FMB,hb1,hb4,hb6,hb8]
 refine .region λe h=>?_
 simp only[seval,EMB,de,sz_50,ag_50,aE,sz_58,q2,ag_58,hb1,hb4]
 refine SpecS.by (cd hy3) (by simp only[seval,FMB,hb1,hb4]) ?_
 simp only[seval,EMB,hb1,hb4]
 cases h
 simp only[seval,FMB,hb1,hb4]
 intro v5
 refine Mir.toK (.cond rfl (λh4=>?_) (λh4=>?_))
 refine .sR λe h=>?_
 simp only[seval,EMB]
 refine mU e (.ret λe h=>?_) h
 cases h
 simp only[seval,FMB,Tryz.results86]
 refine .skip (Mir.toK (.seqK (.bind λv9 h5=>.region λe h=>?_)))
 simp only[seval,EMB,fY,sz_69,ag_69]
 refine SpecS.inl Tryz.func135 rfl (by kernel_rfl) (by kernel_rfl) (λv9:Bool=>.d (.bool v9)) (λv9=>⟨[(cN a0)],[]⟩) h5 rfl ?_ ?_
 simp only[zB,zD,nS,nA,Tryz.ntmps135,SV]
 refine .sR λe h=>?_
 simp only[seval,EMB]
 refine mU e (.seqK (.bind λv8 h6=>.region λe h=>?_)) h
 simp only[seval,EMB]
 refine SpecS.inl Tryz.func163 rfl (by kernel_rfl) (by kernel_rfl) (λv8:Int=>.d (.int .i64 v8)) (λv8=>⟨[(cN a0)],[]⟩) h6 rfl ?_ ?_
 simp only[zB,zD,nS,nA,Tryz.ntmps163,SV]
 refine .sR λe h=>?_
 simp only[seval,EMB]
 refine mU e (.seqK (.sR λe h=>?_)) h
 simp only[seval,EMB,fi]
 refine mU e (Mir.join (λv7:Unit=>(us 19)) (λv7=>⟨[(cN a0)],[]⟩) (λ_=>rfl) ?_ ?_) h
 refine .block (.guard λq5=>Mir.range (λ(i2:Nat) (v6:Unit)=>([.d (.list (zA aK a0.Subs)),.fn 136 [],U,U,U,U,U,.d (.int .i64 (a0.Subs.length:Int)),.d (.int .i64 (i2:Int))]++us 10)) (λi2 v6=>⟨[(cN a0)],[]⟩) q5 (λ_ _=>rfl) (by simp only[seval,FMB,zNI]) (by simp only[seval,FMB,zNI]) ?_ ?_)
 intro i2 e3 v6 q6
 refine .sR λe h=>?_
 simp only[seval,EMB,q6]
 refine mU e (.seqK (.condT rfl (.skip (Mir.toK (.seqK (.block (.sR λe h=>?_))))))) h
 simp only[seval,EMB]
 refine mU e (.seqK (.bind λy5 h7=>.region λe h=>?_)) h
 simp only[seval,EMB,fi,kM,q6,zF,ag_131]
 refine SpecS.by (sp_ordered_c1_spec h7) (by simp only[seval,FMB]) ?_
 simp only[seval,EMB]
 refine mU e (.cond rfl (λh8=>?_) (λh8=>?_)) h
 refine .sR λe h=>?_
 simp only[seval,EMB]
 refine mU e (.ret λe h=>?_) h
 cases h
 simp only[seval,FMB,Tryz.results163]
 refine .skip (Mir.toB (Mir.toK (.region λe h=>?_)))
 simp only[seval,EMB]
 cases h
 simp only[seval,FMB,Tryz.results163,q6]
 intro v6 q7
 refine .sR λe h=>?_
 simp only[seval,EMB,q7]
 refine mU e (.seqK (.condF rfl (.exit λe h=>?_))) h
 cases h
 simp only[seval,FMB,Tryz.results163]
 intro v7
 refine Mir.toK (.sR λe h=>?_)
 simp only[seval,EMB]
 refine mU e (.ret λe h=>?_) h
 cases h
 simp only[seval,FMB,Tryz.results163]
 simp only[seval,EMB]
 refine mU e (.ret λe h=>?_) h
 cases h
 simp only[seval,FMB,Tryz.results135]
 simp only[seval,EMB]
 refine mU e (.ret λe h=>?_) h
 cases h
 simp only[seval,FMB,Tryz.results86]
def iO(a0:(List bd)):Option Bool:=bindX (aF (okIdx a0) ( aU (λ(i1:Nat) (e1:bd) (v1:Unit)=>bindO (cutT a0 (i1:Int)) λ(s1:(List bd))=>bindO (bindO (bindX (aF (okIdx s1) ( aU (λ(i2:Nat) (e2:bd) (v2:Unit)=>bindO (some ()) λ(v3:Unit)=>if (e1.Number==e2.Number)=true then some (.ret (.ret (i2:Int)))else some (.go ())) (λ(v2:Unit)=>some (.go ())) s1 0 ())) λ(v4:Unit)=>some (-1)) λ(v5:Int)=>some (decide (v5≥0))) λ(v6:Bool)=>if v6=true then some (.ret (.ret true))else some (.go ())) (λ(v1:Unit)=>some (.go ())) a0 0 ())) λ(v7:Unit)=>some false
theorem jo{a0:(List bd)}{y:Bool}(h:iO a0=some y):Spec gP 87 [.d (.list (zA aK a0))] (.d (.bool y)):=by
 refine aB Tryz.func87 rfl (by kernel_rfl) (by kernel_rfl) (λy:Bool=>.d (.bool y)) ?_ h
 unfold iO
 simp only[zB,zD,nS,nA,Tryz.ntmps87,SV]
 refine .sR λe h=>?_
 simp only[seval,EMB]
 refine mU e (.seqK (.sR λe h=>?_)) h
 simp only[seval,EMB,fi]
 refine mU e (Mir.join (λv7:Unit=>(us 18)) (λv7=>⟨[],[]⟩) (λ_=>rfl) ?_ ?_) h
 refine .block (.guard λq1=>Mir.range (λ(i1:Nat) (v1:Unit)=>([.d (.list (zA aK a0)),U,U,U,U,.d (.list (zA aK a0)),.d (.int .i64 (a0.length:Int)),.d (.int .i64 (i1:Int))]++us 10)) (λi1 v1=>⟨[],[]⟩) q1 (λ_ _=>rfl) (by simp only[seval,FMB,zNI]) (by simp only[seval,FMB,zNI]) ?_ ?_)
 intro i1 e1 v1 q2
 refine .sR λe h=>?_
 simp only[seval,EMB,q2]
 refine mU e (.seqK (.condT rfl (.skip (Mir.toK (.seqK (.block (.sR λe h=>?_))))))) h
 simp only[seval,EMB,fi,kM,q2,zF,ag_131,iC]
 refine mU e (.seqK (.bind λs1 q3=>?_)) h
 replace q3:=cutT_ok q3
 simp only[zF]at q3
 refine .bind λv6 h1=>.region λe h=>?_
 simp only[seval,EMB,fi,kM,q3,zH,and_true,true_and,dm,tm,zF,jt]
 refine SpecS.inl Tryz.func135 rfl (by kernel_rfl) (by kernel_rfl) (λv6:Bool=>.d (.bool v6)) (λv6=>⟨[(cM e1)],[]⟩) h1 rfl ?_ ?_
 simp only[zB,zD,nS,nA,Tryz.ntmps135,SV]
 refine .sR λe h=>?_
 simp only[seval,EMB]
 refine mU e (.seqK (.bind λv5 h2=>.region λe h=>?_)) h
 simp only[seval,EMB]
 refine SpecS.inl Tryz.func163 rfl (by kernel_rfl) (by kernel_rfl) (λv5:Int=>.d (.int .i64 v5)) (λv5=>⟨[(cM e1)],[]⟩) h2 rfl ?_ ?_
 simp only[zB,zD,nS,nA,Tryz.ntmps163,SV]
 refine .sR λe h=>?_
 simp only[seval,EMB]
 refine mU e (.seqK (.sR λe h=>?_)) h
 simp only[seval,EMB,fi]
 refine mU e (Mir.join (λv4:Unit=>(us 19)) (λv4=>⟨[(cM e1)],[]⟩) (λ_=>rfl) ?_ ?_) h
 refine .block (.guard λq4=>Mir.range (λ(i2:Nat) (v2:Unit)=>([.d (.list (zA aK s1)),.fn 137 [.ptr 0 0],U,U,U,U,U,.d (.int .i64 (s1.length:Int)),.d (.int .i64 (i2:Int))]++us 10)) (λi2 v2=>⟨[(cM e1)],[]⟩) q4 (λ_ _=>rfl) (by simp only[seval,FMB,zNI]) (by simp only[seval,FMB,zNI]) ?_ ?_)
 intro i2 e2 v2 q5
 refine .sR λe h=>?_
 simp only[seval,EMB,q5]
 refine mU e (.seqK (.condT rfl (.skip (Mir.toK (.seqK (.block (.sR λe h=>?_))))))) h
 simp only[seval,EMB]
 refine mU e (.seqK (.bind λv3 h3=>.region λe h=>?_)) h
 simp only[seval,EMB,fi,kM,q5,zF,ag_131]
 refine SpecS.inl Tryz.func137 rfl (by kernel_rfl) (by kernel_rfl) (λv3:Unit=>.d (.bool (e1.Number==e2.Number))) (λv3=>⟨[(cM e1)],[]⟩) h3 rfl ?_ ?_
 simp only[zB,zD,nS,nA,Tryz.ntmps137,SV]
 refine .sR λe h=>?_
 simp only[seval,EMB]
 refine mU e (.sR λe h=>?_) h
 simp only[seval,EMB,ix,sz_2,ag_2]
 refine mU e (.ret λe h=>?_) h
 cases h
 simp only[seval,FMB,Tryz.results137]
 simp only[seval,EMB]
 refine mU e (.cond rfl (λh4=>?_) (λh4=>?_)) h
 refine .sR λe h=>?_
 simp only[seval,EMB]
 refine mU e (.ret λe h=>?_) h
 cases h
 simp only[seval,FMB,Tryz.results163]
 refine .skip (Mir.toB (Mir.toK (.region λe h=>?_)))
 simp only[seval,EMB]
 cases h
 simp only[seval,FMB,Tryz.results163,q5]
 intro v2 q6
 refine .sR λe h=>?_
 simp only[seval,EMB,q6]
 refine mU e (.seqK (.condF rfl (.exit λe h=>?_))) h
 cases h
 simp only[seval,FMB,Tryz.results163]
 intro v4
 refine Mir.toK (.sR λe h=>?_)
 simp only[seval,EMB]
 refine mU e (.ret λe h=>?_) h
 cases h
 simp only[seval,FMB,Tryz.results163]
 simp only[seval,EMB]
 refine mU e (.ret λe h=>?_) h
 cases h
 simp only[seval,FMB,Tryz.results135]
 simp only[seval,EMB]
 refine mU e (.cond rfl (λh5=>?_) (λh5=>?_)) h
 refine .sR λe h=>?_
 simp only[seval,EMB]
 refine mU e (.ret λe h=>?_) h
 cases h
 simp only[seval,FMB,Tryz.results87]
 refine .skip (Mir.toB (Mir.toK (.region λe h=>?_)))
 simp only[seval,EMB]
 cases h
 simp only[seval,FMB,Tryz.results87,q2]
 intro v1 q7
 refine .sR λe h=>?_
 simp only[seval,EMB,q7]
 refine mU e (.seqK (.condF rfl (.exit λe h=>?_))) h
 cases h
 simp only[seval,FMB,Tryz.results87]
 intro v7
 refine Mir.toK (.sR λe h=>?_)
 simp only[seval,EMB]
 refine mU e (.ret λe h=>?_) h
 cases h
 simp only[seval,FMB,Tryz.results87]
def sp_Split(a0:(List ac)):Option (aJ×Int):=bindO (bindX (aF (okIdx a0) ( aU (λ(i1:Nat) (e1:ac) (v1:Unit)=>bindO (lh e1) λ(y1:Bool)=>if y1=true then some (.ret (.ret (i1:Int)))else some (.go ())) (λ(v1:Unit)=>some (.go ())) a0 0 ())) λ(v2:Unit)=>some (-1)) λ(v3:Int)=>if (decide (v3<0))=true then some (aJ.mk [] [],1)else bindO (cutT a0 (zK.wrap (v3+1))) λ(s1:(List ac))=>bindO (bc s1) λ(y2:(List ac))=>bindO (cutF a0 (zK.wrap (v3+1))) λ(s2:(List ac))=>bindX (loopX (λ(v4:(List ac)×(List bd))=>if (decide ((v4.1.length:Int)>0))=true then bindO (gt v4.1 0) λ(e2:ac)=>bindO (jJ e2) λ(y3:Int×Bool)=>bindO (bindX (aF (okIdx v4.1) ( aU (λ(i2:Nat) (e3:ac) (v5:Unit)=>bindO (lg e3) λ(y4:Bool)=>if y4=true then some (.ret (.ret (i2:Int)))else some (.go ())) (λ(v5:Unit)=>some (.go ())) v4.1 0 ())) λ(v6:Unit)=>some (-1)) λ(v7:Int)=>if (!y3.2||(decide (v7<0)))=true then some (.ret (.ret (aJ.mk [] [],1)))else bindO (cutL v4.1 1 v7) λ(s3:(List ac))=>bindO (bc s3) λ(y5:(List ac))=>aF (okLen (v4.2.length+1)) ( bindO (cutF v4.1 (zK.wrap (v7+1))) λ(s4:(List ac))=>some (.go (s4,v4.2++[bd.mk y3.1 y5])))else some (.ret (.go v4.2))) fuel (s2,[])) λ(v8:(List bd))=>bindO (ke (aJ.mk y2 v8)) λ(y6:Bool)=>if (!y6)=true then some (aJ.mk [] [],1)else bindO (iO v8) λ(y7:Bool)=>if y7=true then some (aJ.mk [] [],5)else some (aJ.mk y2 v8,0)
theorem sp_Split_spec{a0:(List ac)}{y:aJ×Int}(h:sp_Split a0=some y):Spec gP 39 [.d (.list (zA aa a0))] (.tuple [.agg [.d (.list (zA aa y.1.Main)),.d (.list (zA aK y.1.Subs))],.d (.int .i64 y.2)]):=by
 refine aB Tryz.func39 rfl (by kernel_rfl) (by kernel_rfl) (λy:aJ×Int=>.tuple [.agg [.d (.list (zA aa y.1.Main)),.d (.list (zA aK y.1.Subs))],.d (.int .i64 y.2)]) ?_ h
 unfold sp_Split
 simp only[zB,zD,nS,nA,Tryz.ntmps39,SV]
 refine .sR λe h=>?_
 simp only[seval,EMB,fE]
 refine mU e (.seqK (.bind λv3 hv71=>.region λe h=>?_)) h
 simp only[seval,EMB]
 refine SpecS.inl Tryz.func81 rfl (by kernel_rfl) (by kernel_rfl) (λv3:Int=>.d (.int .i64 v3)) (λv3=>⟨[[.nil,.nil]],[]⟩) hv71 rfl ?_ ?_
 simp only[zB,zD,nS,nA,Tryz.ntmps81,SV]
 refine .sR λe h=>?_
 simp only[seval,EMB]
 refine mU e (.seqK (.sR λe h=>?_)) h
 simp only[seval,EMB,aE]
 refine mU e (Mir.join (λv2:Unit=>(us 19)) (λv2=>⟨[[.nil,.nil]],[]⟩) (λ_=>rfl) ?_ ?_) h
 refine .block (.guard λq1=>Mir.range (λ(i1:Nat) (v1:Unit)=>([.d (.list (zA aa a0)),.fn 82 [],U,U,U,U,U,.d (.int .i64 (a0.length:Int)),.d (.int .i64 (i1:Int))]++us 10)) (λi1 v1=>⟨[[.nil,.nil]],[]⟩) q1 (λ_ _=>rfl) (by simp only[seval,FMB,zNI]) (by simp only[seval,FMB,zNI]) ?_ ?_)
 intro i1 e1 v1 q2
 refine .sR λe h=>?_
 simp only[seval,EMB,q2]
 refine mU e (.seqK (.condT rfl (.skip (Mir.toK (.seqK (.block (.sR λe h=>?_))))))) h
 simp only[seval,EMB]
 refine mU e (.seqK (.bind λy1 h1=>.region λe h=>?_)) h
 simp only[seval,EMB,aE,sz_58,q2,zF,ag_58]
 refine SpecS.by (sp_Split_c1_spec h1) (by simp only[seval,FMB]) ?_
 simp only[seval,EMB]
 refine mU e (.cond rfl (λh2=>?_) (λh2=>?_)) h
 refine .sR λe h=>?_
 simp only[seval,EMB]
 refine mU e (.ret λe h=>?_) h
 cases h
 simp only[seval,FMB,Tryz.results81]
 refine .skip (Mir.toB (Mir.toK (.region λe h=>?_)))
 simp only[seval,EMB]
 cases h
 simp only[seval,FMB,Tryz.results81,q2]
 intro v1 q3
 refine .sR λe h=>?_
 simp only[seval,EMB,q3]
 refine mU e (.seqK (.condF rfl (.exit λe h=>?_))) h
 cases h
 simp only[seval,FMB,Tryz.results81]
 intro v2
 refine Mir.toK (.sR λe h=>?_)
 simp only[seval,EMB]
 refine mU e (.ret λe h=>?_) h
 cases h
 simp only[seval,FMB,Tryz.results81]
 simp only[seval,EMB]
 refine mU e (.seqK (.sR λe h=>?_)) h
 simp only[seval,EMB]
 refine mU e (.cond rfl (λh3=>?_) (λh3=>?_)) h
 refine .sR λe h=>?_
 simp only[seval,EMB,fE,pl_71,sz_71]
 refine mU e (.ret λe h=>?_) h
 cases h
 simp only[seval,FMB,Tryz.results39,ag_71,sz_71]
 refine .skip (Mir.toK (.seqK (.bind λs1 q4=>?_)))
 replace q4:=cutT_ok q4
 refine .bind λy2 h4=>.region λe h=>?_
 simp only[seval,EMB,aE,sz_58,q4,zH,and_true,true_and,dm,tm,ba]
 refine SpecS.by (bq h4) (by simp only[seval,FMB]) ?_
 simp only[seval,EMB,fE,pl_71,sz_71]
 refine mU e (.seqK (.bind λs2 q5=>?_)) h
 replace q5:=jY q5
 refine .region λe h=>?_
 simp only[seval,EMB,aE,sz_58,q5,zH,and_true,true_and,dm,tm,ba]
 refine mU e (.seqK (.gh [.cell 1 1 131] rfl (Mir.join (λv8:(List bd)=>([U,U,.ptr 0 0,U,U,.ptr 1 0]++us 62)) (λv8=>⟨[[.nil,.nil],[.d (.list (zA aa y2)),.own 0 (zA aK v8)]],[(131,v8.length)]⟩) (λ_=>rfl) ?_ ?_))) h
 refine .block (Mir.loop (λv4:(List ac)×(List bd)=>([U,U,.ptr 0 0,U,U,.ptr 1 0,.d (.list (zA aa v4.1))]++us 61)) (λv4=>⟨[[.nil,.nil],[.d (.list (zA aa y2)),.own 0 (zA aK v4.2)]],[(131,v4.2.length)]⟩) (λ_=>rfl) (by simp only[seval,FMB]) (by simp only[seval,FMB]) λv4=>.seqK (.sR λe h=>?_))
 simp only[seval,EMB,aE]
 refine mU e (.cond rfl (λh5=>?_) (λh5=>?_)) h
 refine .skip (Mir.toK (.block (.seqK (.bind λe2 q6=>?_))))
 replace q6:=gt_ok q6
 simp only[zJ,Int.reduceLT,Nat.sub_zero,dp0]at q6
 refine .bind λy3 h6=>.region λe h=>?_
 simp only[seval,EMB,aE,sz_58,q6,ag_58]
 refine SpecS.by (sp_beginning_spec h6) (by simp only[seval,FMB]) ?_
 simp only[seval,EMB]
 refine mU e (.seqK (.bind λv7 h7=>.region λe h=>?_)) h
 simp only[seval,EMB]
 refine SpecS.inl Tryz.func81 rfl (by kernel_rfl) (by kernel_rfl) (λv7:Int=>.d (.int .i64 v7)) (λv7=>⟨[[.nil,.nil],[.d (.list (zA aa y2)),.own 0 (zA aK v4.2)]],[(131,v4.2.length)]⟩) h7 rfl ?_ ?_
 simp only[zB,zD,nS,nA,Tryz.ntmps81,SV]
 refine .sR λe h=>?_
 simp only[seval,EMB]
 refine mU e (.seqK (.sR λe h=>?_)) h
 simp only[seval,EMB,aE]
 refine mU e (Mir.join (λv6:Unit=>(us 19)) (λv6=>⟨[[.nil,.nil],[.d (.list (zA aa y2)),.own 0 (zA aK v4.2)]],[(131,v4.2.length)]⟩) (λ_=>rfl) ?_ ?_) h
 refine .block (.guard λq7=>Mir.range (λ(i2:Nat) (v5:Unit)=>([.d (.list (zA aa v4.1)),.fn 84 [],U,U,U,U,U,.d (.int .i64 (v4.1.length:Int)),.d (.int .i64 (i2:Int))]++us 10)) (λi2 v5=>⟨[[.nil,.nil],[.d (.list (zA aa y2)),.own 0 (zA aK v4.2)]],[(131,v4.2.length)]⟩) q7 (λ_ _=>rfl) (by simp only[seval,FMB,zNI]) (by simp only[seval,FMB,zNI]) ?_ ?_)
 intro i2 e3 v5 q8
 refine .sR λe h=>?_
 simp only[seval,EMB,q8]
 refine mU e (.seqK (.condT rfl (.skip (Mir.toK (.seqK (.block (.sR λe h=>?_))))))) h
 simp only[seval,EMB]
 refine mU e (.seqK (.bind λy4 h8=>.region λe h=>?_)) h
 simp only[seval,EMB,aE,sz_58,q8,zF,ag_58]
 refine SpecS.by (sp_Split_c2_spec h8) (by simp only[seval,FMB]) ?_
 simp only[seval,EMB]
 refine mU e (.cond rfl (λh9=>?_) (λh9=>?_)) h
 refine .sR λe h=>?_
 simp only[seval,EMB]
 refine mU e (.ret λe h=>?_) h
 cases h
 simp only[seval,FMB,Tryz.results81]
 refine .skip (Mir.toB (Mir.toK (.region λe h=>?_)))
 simp only[seval,EMB]
 cases h
 simp only[seval,FMB,Tryz.results81,q8]
 intro v5 q9
 refine .sR λe h=>?_
 simp only[seval,EMB,q9]
 refine mU e (.seqK (.condF rfl (.exit λe h=>?_))) h
 cases h
 simp only[seval,FMB,Tryz.results81]
 intro v6
 refine Mir.toK (.sR λe h=>?_)
 simp only[seval,EMB]
 refine mU e (.ret λe h=>?_) h
 cases h
 simp only[seval,FMB,Tryz.results81]
 simp only[seval,EMB]
 refine mU e (.seqK (.seqK (.joinV ([U,U,.ptr 0 0,U,U,.ptr 1 0,.d (.list (zA aa v4.1)),.d (.int .i64 y3.1),U,.d (.int .i64 v7),U,U,U,U,U,U,U,U,U,U,U,U,U,U,U,U,U,U,U,U,U,U,U,U,U,U,U,U,U,U,U,U,.d (.bool (!y3.2||(decide (v7<0))))]++us 25) ⟨[[.nil,.nil],[.d (.list (zA aa y2)),.own 0 (zA aK v4.2)]],[(131,v4.2.length)]⟩ rfl ?_ ?_))) h
 refine SWs.region ?_
 rcases zE (y3.2)with h10 | h10
 simp only[seval,EMB,SL,PB,h10]
 simp only[seval,EMB,SL,PB,h10]
 refine Mir.toK (.cond rfl (λh11=>?_) (λh11=>?_))
 refine .sR λe h=>?_
 simp only[seval,EMB,fE,pl_71,sz_71]
 refine mU e (.ret λe h=>?_) h
 cases h
 simp only[seval,FMB,Tryz.results39,ag_71,sz_71]
 refine .skip (Mir.toK (.seqK (.bind λs3 q10=>?_)))
 replace q10:=cutL_ok q10
 simp only[zJ,Int.reduceLT,Nat.sub_zero,dp0]at q10
 refine .bind λy5 h12=>.guard λq11=>.regionD [] (by kernel_rfl) λe h=>?_
 simp only[seval,EMB,SB,fY,sz_69,ag_69,aE,sz_58,q10,zH,and_true,true_and,dm,tm,ba]
 refine Spec.by (bq h12) (by simp only[seval,FMB]) ?_
 simp only[seval,EMB,SB,iC,pl_131,fi,kM,(oL 2),app_69,jt,q11,fY,sz_69]
 refine mU e (.bind λs4 q12=>?_) h
 replace q12:=jY q12
 refine .region λe h=>?_
 simp only[seval,EMB,aE,sz_58,q12,zH,and_true,true_and,dm,tm,ba]
 cases h
 simp only[seval,FMB,Tryz.results39,ag_71,sz_71]
 refine .exit λe h=>?_
 cases h
 simp only[seval,FMB,Tryz.results39,ag_71,sz_71]
 intro v8
 refine Mir.toK (.seqK (.seqK (.bind λy6 h13=>.region λe h=>?_)))
 simp only[seval,EMB,ag_71,sz_71]
 refine SpecS.by (gy h13) (by simp only[seval,FMB]) ?_
 simp only[seval,EMB]
 refine mU e (.cond rfl (λh14=>?_) (λh14=>?_)) h
 refine .sR λe h=>?_
 simp only[seval,EMB,fE,pl_71,sz_71]
 refine mU e (.ret λe h=>?_) h
 cases h
 simp only[seval,FMB,Tryz.results39,ag_71,sz_71]
 refine .skip (Mir.toK (.seqK (.seqK (.bind λy7 h15=>.region λe h=>?_))))
 simp only[seval,EMB,fY,sz_69,ag_69]
 refine SpecS.by (jo h15) (by simp only[seval,FMB]) ?_
 simp only[seval,EMB]
 refine mU e (.cond rfl (λh16=>?_) (λh16=>?_)) h
 refine .sR λe h=>?_
 simp only[seval,EMB,fE,pl_71,sz_71]
 refine mU e (.ret λe h=>?_) h
 cases h
 simp only[seval,FMB,Tryz.results39,ag_71,sz_71]
 refine .skip (Mir.toK (.sR λe h=>?_))
 simp only[seval,EMB,ag_71,sz_71]
 refine mU e (.ret λe h=>?_) h
 cases h
 simp only[seval,FMB,Tryz.results39,ag_71,sz_71]
def sp_proper(a0:aJ):Option Bool:=bindX (aF (okIdx a0.Subs) ( aU (λ(i1:Nat) (e1:bd) (v1:Unit)=>if ((decide (e1.Number<1))||(decide (e1.Number>9999)))=true then some (.ret (.ret false))else some (.go ())) (λ(v1:Unit)=>some (.go ())) a0.Subs 0 ())) λ(v2:Unit)=>bindO (bindO (ke a0) λ(y1:Bool)=>if y1=true then bindO (iO a0.Subs) λ(y2:Bool)=>some (!y2)else some false) λ(v3:Bool)=>some v3
theorem sp_proper_spec{a0:aJ}{y:Bool}(h:sp_proper a0=some y):Spec gP 164 [.agg (cN a0)] (.d (.bool y)):=by
 refine aB Tryz.func164 rfl (by kernel_rfl) (by kernel_rfl) (λy:Bool=>.d (.bool y)) ?_ h
 unfold sp_proper
 simp only[zB,zD,nS,nA,Tryz.ntmps164,SV]
 refine .sR λe h=>?_
 simp only[seval,EMB]
 refine mU e (.seqK (.sR λe h=>?_)) h
 simp only[seval,EMB,fY,sz_69,ag_69,fi]
 refine mU e (Mir.join (λv2:Unit=>([U,.ptr 0 0]++us 27)) (λv2=>⟨[(cN a0)],[]⟩) (λ_=>rfl) ?_ ?_) h
 refine .block (.guard λqg65=>Mir.range (λ(i1:Nat) (v1:Unit)=>([U,.ptr 0 0,U,U,U,U,.d (.list (zA aK a0.Subs)),.d (.int .i64 (a0.Subs.length:Int)),.d (.int .i64 (i1:Int))]++us 20)) (λi1 v1=>⟨[(cN a0)],[]⟩) qg65 (λ_ _=>rfl) (by simp only[seval,FMB,zNI]) (by simp only[seval,FMB,zNI]) ?_ ?_)
 intro i1 e1 v1 qr63
 refine .sR λe h=>?_
 simp only[seval,EMB,qr63]
 refine mU e (.seqK (.condT rfl (.skip (Mir.toK (.seqK (.block (.sR λe h=>?_))))))) h
 simp only[seval,EMB,fi,kM,qr63,zF,ag_131,iC]
 refine mU e (.seqK (.joinV ([U,.ptr 0 0,U,U,U,U,.d (.list (zA aK a0.Subs)),.d (.int .i64 (a0.Subs.length:Int)),.d (.int .i64 (i1:Int)),U,U,U,U,U,U,U,U,U,U,.d (.bool ((decide (e1.Number<1))||(decide (e1.Number>9999))))]++us 9) ⟨[(cN a0),(cM e1)],[]⟩ rfl ?_ ?_)) h
 refine SWs.region ?_
 rcases zE (decide (e1.Number<1))with hb68 | hb68
 simp only[seval,EMB,SL,PB,ix,sz_2,ag_2,hb68]
 simp only[seval,EMB,SL,PB,ix,sz_2,ag_2,hb68]
 refine Mir.toK (.cond rfl (λhb70=>?_) (λhb70=>?_))
 refine .sR λe h=>?_
 simp only[seval,EMB]
 refine mU e (.ret λe h=>?_) h
 cases h
 simp only[seval,FMB,Tryz.results164]
 refine .skip (Mir.toB (Mir.toK (.region λe h=>?_)))
 simp only[seval,EMB]
 cases h
 simp only[seval,FMB,Tryz.results164,qr63]
 intro v1 qd64
 refine .sR λe h=>?_
 simp only[seval,EMB,qd64]
 refine mU e (.seqK (.condF rfl (.exit λe h=>?_))) h
 cases h
 simp only[seval,FMB,Tryz.results164]
 intro v2
 refine Mir.toK (.seqK (Mir.joinO (λv3:Bool=>([U,U,.d (.bool v3)]++us 26)) (λv3=>⟨[(cN a0)],[]⟩) (λ_=>rfl) ?_ ?_))
 refine .bind λy1 hy71=>.ite (λhb72=>?_) (λhb72=>?_)
 refine .bind λy2 hy73=>.region λe h=>?_
 simp only[seval,EMB,ag_71,sz_71,hb72]
 refine SpecS.by (gy hy71) (by simp only[seval,FMB,hb72]) ?_
 simp only[seval,EMB,fY,sz_69,ag_69,hb72]
 refine SpecS.by (jo hy73) (by simp only[seval,FMB,hb72]) ?_
 simp only[seval,EMB,hb72]
 cases h
 simp only[seval,FMB,hb72]
 refine .region λe h=>?_
 simp only[seval,EMB,ag_71,sz_71,hb72]
 refine SpecS.by (gy hy71) (by simp only[seval,FMB,hb72]) ?_
 simp only[seval,EMB,hb72]
 cases h
 simp only[seval,FMB,hb72]
 intro v3
 refine Mir.toK (.ret λe h=>?_)
 cases h
 simp only[seval,FMB,Tryz.results164]
def bW(a0:(List (List ac))):Option (List ac):=bindO (aF (okIdx a0) ( aU (λ(i1:Nat) (e1:(List ac)) (v1:Int)=>if (decide ((zK.wrap (v1+(e1.length:Int)))<0))=true then none else some (.go (zK.wrap (v1+(e1.length:Int))))) (λ(v1:Int)=>some v1) a0 0 0)) λ(v2:Int)=>aF (decide (0≤v2∧v2≤16777216)) ( bindO (aF (okIdx a0) ( aU (λ(i2:Nat) (e2:(List ac)) (v3:(List ac))=>aF (okLen (v3.length+e2.length)) ( some (.go (v3++e2)))) (λ(v3:(List ac))=>some v3) a0 0 [])) λ(v4:(List ac))=>some v4)
theorem dG{a0:(List (List ac))}{y:(List ac)}(h:bW a0=some y):Spec gP 165 [.d (.list (zA (eList aa) a0))] (.d (.list (zA aa y))):=by
 refine aB Tryz.func165 rfl (by kernel_rfl) (by kernel_rfl) (λy:(List ac)=>.d (.list (zA aa y))) ?_ h
 unfold bW
 simp only[zB,zD,nS,nA,Tryz.ntmps165,SV]
 refine .sR λe h=>?_
 simp only[seval,EMB,eList]
 refine mU e (.sR λe h=>?_) h
 simp only[seval,EMB,eList]
 refine mU e (.seqK (.sR λe h=>?_)) h
 simp only[seval,EMB,lb,eList]
 refine mU e (Mir.joinO (λv2:Int=>([.d (.list (zA (eList aa) a0)),U,U,.d (.int .i64 v2)]++us 32)) (λv2=>⟨[],[]⟩) (λ_=>rfl) ?_ ?_) h
 refine .block (.guard λqg51=>Mir.range (λ(i1:Nat) (v1:Int)=>([.d (.list (zA (eList aa) a0)),U,U,.d (.int .i64 v1),U,U,U,U,U,.d (.list (zA (eList aa) a0)),.d (.int .i64 (a0.length:Int)),.d (.int .i64 (i1:Int))]++us 24)) (λi1 v1=>⟨[],[]⟩) qg51 (λ_ _=>rfl) (by simp only[seval,FMB,eList,zNI]) (by simp only[seval,FMB,eList,zNI]) ?_ ?_)
 intro i1 e1 v1 qr49
 refine .sR λe h=>?_
 simp only[seval,EMB,qr49,eList]
 refine mU e (.seqK (.condT rfl (.skip (Mir.toK (.seqK (.block (.sR λe h=>?_))))))) h
 simp only[seval,EMB,lb,sz_50,qr49,zF,ag_50,eList]
 refine mU e (.sR λe h=>?_) h
 simp only[seval,EMB,aE,eList]
 refine mU e (.sR λe h=>?_) h
 simp only[seval,EMB,eList]
 refine mU e (.cond rfl (λhb54=>?_) (λhb54=>?_)) h
 exact Mir.no
 refine .skip (Mir.toB (Mir.toK (.region λe h=>?_)))
 simp only[seval,EMB,eList]
 cases h
 simp only[seval,FMB,eList,Tryz.results165,qr49]
 intro v1 qd50
 refine .sR λe h=>?_
 simp only[seval,EMB,qd50,eList]
 refine mU e (.seqK (.condF rfl (.exit λe h=>?_))) h
 cases h
 simp only[seval,FMB,eList,Tryz.results165]
 intro v2
 refine Mir.toK (.seqK (.guard λq55=>.region λe h=>?_))
 simp only[seval,EMB,eList]
 refine grow_S q55 ?_
 simp only[seval,EMB,eList]
 refine mU e (.seqK (.sR λe h=>?_)) h
 simp only[seval,EMB,lb,eList]
 refine mU e (Mir.joinO (λv4:(List ac)=>([U,U,U,U,U,U,.own 0 (zA aa v4)]++us 29)) (λv4=>⟨[],[(58,v4.length)]⟩) (λ_=>rfl) ?_ ?_) h
 refine .block (.guard λqg99=>Mir.range (λ(i2:Nat) (v3:(List ac))=>([U,U,U,U,U,U,.own 0 (zA aa v3),U,U,U,U,U,U,U,U,U,U,U,U,U,U,U,U,U,U,.d (.list (zA (eList aa) a0)),.d (.int .i64 (a0.length:Int)),.d (.int .i64 (i2:Int))]++us 8)) (λi2 v3=>⟨[],[(58,v3.length)]⟩) qg99 (λ_ _=>rfl) (by simp only[seval,FMB,eList,zNI]) (by simp only[seval,FMB,eList,zNI]) ?_ ?_)
 intro i2 e2 v3 qr97
 refine .sR λe h=>?_
 simp only[seval,EMB,qr97,eList]
 refine mU e (.seqK (.condT rfl (.skip (Mir.toK (.seqK (.block (.sR λe h=>?_))))))) h
 simp only[seval,EMB,lb,sz_50,qr97,zF,ag_50,eList]
 refine mU e (.guard λq1=>.region λe h=>?_) h
 simp only[seval,EMB,bh,ba,q1,eList]
 refine mU e (.region λe h=>?_) h
 simp only[seval,EMB,eList]
 cases h
 simp only[seval,FMB,eList,Tryz.results165,qr97]
 intro v3 qd98
 refine .sR λe h=>?_
 simp only[seval,EMB,qd98,eList]
 refine mU e (.seqK (.condF rfl (.exit λe h=>?_))) h
 cases h
 simp only[seval,FMB,eList,Tryz.results165]
 intro v4
 refine Mir.toK (.sR λe h=>?_)
 simp only[seval,EMB,eList]
 refine mU e (.ret λe h=>?_) h
 cases h
 simp only[seval,FMB,eList,Tryz.results165]
def jK(a0:ac):Option (Int×Int×Bool×Int):=bindO (kN a0 77 98000) λ(y1:Bool)=>if (!y1)=true then some (0,0,false,0)else bindO (aF (okIdx a0.Words) ( aU (λ(i1:Nat) (e1:ay) (v1:Int×Int×Bool×(List (Int×Int)))=>bindO (bindO (sp_whole e1.Value) λ(y2:Int×Bool)=>if (e1.Letter==80)=true then some (y2.1,v1.2.1,v1.2.2.1&&y2.2)else if (e1.Letter==76)=true then some (v1.1,y2.1,v1.2.2.1&&y2.2)else bindO (if (e1.Letter==77)=true then some (e1.Letter==77)else some (e1.Letter==78)) λ(v2:Bool)=>if v2=true then some (v1.1,v1.2.1,v1.2.2.1)else some (v1.1,v1.2.1,false)) λ(v3:Int×Int×Bool)=>some (.go (v3.1,v3.2.1,v3.2.2,mput v1.2.2.2 e1.Letter (zK.wrap (((mget v1.2.2.2 e1.Letter).getD 0)+1))))) (λ(v1:Int×Int×Bool×(List (Int×Int)))=>some (v1.1,v1.2.1,v1.2.2.1,v1.2.2.2)) a0.Words 0 (0,1,true,[]))) λ(v4:Int×Int×Bool×(List (Int×Int)))=>bindO (if v4.2.2.1=true then if (((mget v4.2.2.2 77).getD 0) != 1)=true then some true else if (((mget v4.2.2.2 80).getD 0) != 1)=true then some true else if (decide (((mget v4.2.2.2 76).getD 0)>1))=true then some true else some (decide (((mget v4.2.2.2 78).getD 0)>1))else some true) λ(v5:Bool)=>if v5=true then some (0,0,false,1)else some (v4.1,v4.2.1,true,0)
theorem ee{a0:ac}{y:Int×Int×Bool×Int}(h:jK a0=some y):Spec gP 18 [.agg (cJ a0)] (.tuple [.d (.int .i64 y.1),.d (.int .i64 y.2.1),.d (.bool y.2.2.1),.d (.int .i64 y.2.2.2)]):=by
 refine aB Tryz.func18 rfl (by kernel_rfl) (by kernel_rfl) (λy:Int×Int×Bool×Int=>.tuple [.d (.int .i64 y.1),.d (.int .i64 y.2.1),.d (.bool y.2.2.1),.d (.int .i64 y.2.2.2)]) ?_ h
 unfold jK
 simp only[zB,zD,nS,nA,Tryz.ntmps18,SV]
 refine .sR λe h=>?_
 simp only[seval,EMB]
 refine mU e (.seqK (.seqK (.bind λy1 hy1=>.region λe h=>?_))) h
 simp only[seval,EMB,ag_58,sz_58]
 refine SpecS.by (cd hy1) (by simp only[seval,FMB]) ?_
 simp only[seval,EMB]
 refine mU e (.cond rfl (λhb3=>?_) (λhb3=>?_)) h
 refine .sR λe h=>?_
 simp only[seval,EMB]
 refine mU e (.ret λe h=>?_) h
 cases h
 simp only[seval,FMB,Tryz.results18]
 refine .skip (Mir.toK (.seqK (.regionW λe h=>regW.alt 0 rfl ?_)))
 simp only[seval,EMB,ah,w_eq]
 refine dE .u8 (regW.of ?_)
 simp only[seval,EMB,ah,w_eq,xMN]
 refine mU e (.sR λe h=>?_) h
 simp only[seval,EMB]
 refine mU e (.seqK (.sR λe h=>?_)) h
 simp only[seval,EMB,bL,sz_56,ag_56,br]
 refine mU e (Mir.joinO (λv4:Int×Int×Bool×(List (Int×Int))=>([U,U,U,U,U,U,.mp 1,.d (.int .i64 v4.1),.d (.int .i64 v4.2.1),.d (.bool v4.2.2.1)]++us 70)) (λv4=>⟨[(cJ a0),[.mapc .u8 (zA (ekv (evI .i64)) v4.2.2.2)]],[]⟩) (λ_=>rfl) ?_ ?_) h
 refine .block (.guard λq1=>Mir.range (λ(i1:Nat) (v1:Int×Int×Bool×(List (Int×Int)))=>([U,U,U,U,U,U,.mp 1,.d (.int .i64 v1.1),.d (.int .i64 v1.2.1),.d (.bool v1.2.2.1),U,U,U,U,U,U,U,U,U,.d (.list (zA ar a0.Words)),.d (.int .i64 (a0.Words.length:Int)),.d (.int .i64 (i1:Int))]++us 58)) (λi1 v1=>⟨[(cJ a0),[.mapc .u8 (zA (ekv (evI .i64)) v1.2.2.2)]],[]⟩) q1 (λ_ _=>rfl) (by simp only[seval,FMB,zNI]) (by simp only[seval,FMB,zNI]) ?_ ?_)
 intro i1 e1 v1 q2
 refine .sR λe h=>?_
 simp only[seval,EMB,q2]
 refine mU e (.seqK (.condT rfl (.skip (Mir.toK (.seqK (Mir.joinO (λv3:Int×Int×Bool=>([U,U,U,U,U,U,.mp 1,.d (.int .i64 v3.1),.d (.int .i64 v3.2.1),.d (.bool v3.2.2),U,U,U,U,U,U,U,U,U,.d (.list (zA ar a0.Words)),.d (.int .i64 (a0.Words.length:Int)),.d (.int .i64 (i1:Int))]++us 58)) (λv3=>⟨[(cJ a0),[.mapc .u8 (zA (ekv (evI .i64)) (mput v1.2.2.2 e1.Letter (zK.wrap (((mget v1.2.2.2 e1.Letter).getD 0)+1))))]],[]⟩) (λ_=>rfl) ?_ ?_)))))) h
 refine .block (.sR λe h=>?_)
 simp only[seval,EMB,br,bP,q2,zF,ju,bk]
 refine mU e (.seqK (.regionW λe h=>regW.alt 3 rfl ?_)) h
 simp only[seval,EMB,ah,w_eq,cr,sz_5,ag_5]
 refine bz rfl rfl rfl (by simp only[mapT,fF,und_5]) gR rfl (regW.alt 1 rfl ?_)
 simp only[seval,EMB,ah,w_eq,mg_I]
 refine cm (et:=3) rfl rfl rfl rfl (by simp only[mapT,fF,und_5]) (regW.of ?_)
 simp only[seval,EMB,ah,w_eq,mp_I]
 refine mU e (.seqK (.bind λy2 h1=>.region λe h=>?_)) h
 simp only[seval,EMB,bu,sz_2,ag_2]
 refine SpecS.by (sp_whole_spec h1) (by simp only[seval,FMB]) ?_
 simp only[seval,EMB]
 refine mU e (.sR λe h=>?_) h
 simp only[seval,EMB,cr,sz_5,ag_5]
 refine mU e (.block (.sR λe h=>?_)) h
 simp only[seval,EMB]
 refine mU e (.cond rfl (λh2=>?_) (λh2=>?_)) h
 refine .joinV ([U,U,U,U,U,U,.mp 1,.d (.int .i64 y2.1),.d (.int .i64 v1.2.1),.d (.bool (v1.2.2.1&&y2.2)),U,U,U,U,U,U,U,U,U,.d (.list (zA ar a0.Words)),.d (.int .i64 (a0.Words.length:Int)),.d (.int .i64 (i1:Int))]++us 58) ⟨[(cJ a0),[.mapc .u8 (zA (ekv (evI .i64)) (mput v1.2.2.2 e1.Letter (zK.wrap (((mget v1.2.2.2 e1.Letter).getD 0)+1))))],(cL e1)],[]⟩ rfl ?_ ?_
 refine SWs.region ?_
 rcases zE (v1.2.2.1)with h3 | h3
 simp only[seval,EMB,SL,PB,h3]
 simp only[seval,EMB,SL,PB,h3]
 intro e h
 cases h
 simp only[seval,FMB,Tryz.results18]
 refine .sR λe h=>?_
 simp only[seval,EMB]
 refine mU e (.cond rfl (λh4=>?_) (λh4=>?_)) h
 refine .joinV ([U,U,U,U,U,U,.mp 1,.d (.int .i64 v1.1),.d (.int .i64 y2.1),.d (.bool (v1.2.2.1&&y2.2)),U,U,U,U,U,U,U,U,U,.d (.list (zA ar a0.Words)),.d (.int .i64 (a0.Words.length:Int)),.d (.int .i64 (i1:Int))]++us 58) ⟨[(cJ a0),[.mapc .u8 (zA (ekv (evI .i64)) (mput v1.2.2.2 e1.Letter (zK.wrap (((mget v1.2.2.2 e1.Letter).getD 0)+1))))],(cL e1)],[]⟩ rfl ?_ ?_
 refine SWs.region ?_
 rcases zE (v1.2.2.1)with h5 | h5
 simp only[seval,EMB,SL,PB,h5]
 simp only[seval,EMB,SL,PB,h5]
 intro e h
 cases h
 simp only[seval,FMB,Tryz.results18]
 refine .seqK (.sR λe h=>?_)
 simp only[seval,EMB]
 refine mU e (Mir.joinO (λv2:Bool=>([U,U,U,U,U,U,.mp 1,.d (.int .i64 v1.1),.d (.int .i64 v1.2.1),.d (.bool v1.2.2.1),U,U,U,U,U,U,U,U,U,.d (.list (zA ar a0.Words)),.d (.int .i64 (a0.Words.length:Int)),.d (.int .i64 (i1:Int)),U,U,U,U,U,U,U,U,U,U,U,U,U,U,U,U,U,U,U,U,U,U,U,U,U,U,U,U,U,U,.d (.bool v2)]++us 27)) (λv2=>⟨[(cJ a0),[.mapc .u8 (zA (ekv (evI .i64)) (mput v1.2.2.2 e1.Letter (zK.wrap (((mget v1.2.2.2 e1.Letter).getD 0)+1))))],(cL e1)],[]⟩) (λ_=>rfl) ?_ ?_) h
 refine .cond rfl (λh6=>?_) (λh6=>?_)
 refine .skip λe h=>?_
 cases h
 simp only[seval,FMB,Tryz.results18]
 refine .region λe h=>?_
 simp only[seval,EMB]
 cases h
 simp only[seval,FMB,Tryz.results18]
 intro v2
 refine Mir.toK (.cond rfl (λh7=>?_) (λh7=>?_))
 refine .skip λe h=>?_
 cases h
 simp only[seval,FMB,Tryz.results18]
 refine .region λe h=>?_
 simp only[seval,EMB]
 cases h
 simp only[seval,FMB,Tryz.results18]
 intro v3
 refine Mir.toK (.region λe h=>?_)
 simp only[seval,EMB]
 cases h
 simp only[seval,FMB,Tryz.results18,q2]
 intro v1 q3
 refine .sR λe h=>?_
 simp only[seval,EMB,q3]
 refine mU e (.seqK (.condF rfl (.exit λe h=>?_))) h
 cases h
 simp only[seval,FMB,Tryz.results18]
 intro v4
 refine Mir.toK (.seqK (.seqK (Mir.joinO (λv5:Bool=>[U,U,U,U,U,U,U,.d (.int .i64 v4.1),.d (.int .i64 v4.2.1),U,U,U,U,U,U,U,U,U,U,U,U,U,U,U,U,U,U,U,U,U,U,U,U,U,U,U,U,U,U,U,U,U,U,U,U,U,U,U,U,U,U,U,U,U,U,U,U,U,U,U,U,U,U,U,U,U,U,U,U,U,U,U,U,U,U,U,U,.d (.bool v5),U,U]) (λv5=>⟨[(cJ a0),[.mapc .u8 (zA (ekv (evI .i64)) v4.2.2.2)]],[]⟩) (λ_=>rfl) ?_ ?_)))
 refine .ite (λh8=>?_) (λh8=>?_)
 refine .ite (λh9=>?_) (λh9=>?_)
 refine .regionW λe h=>regW.alt 4 rfl ?_
 simp only[seval,EMB,ah,w_eq,h8,h9]
 refine bz rfl rfl rfl (by simp only[mapT,fF,und_5]) gR rfl (regW.of ?_)
 simp only[seval,EMB,ah,w_eq,mg_I,h8,h9]
 cases h
 simp only[seval,FMB,h8,h9]
 refine .ite (λh10=>?_) (λh10=>?_)
 refine .regionW λe h=>regW.alt 4 rfl ?_
 simp only[seval,EMB,ah,w_eq,h8,h9,h10]
 refine bz rfl rfl rfl (by simp only[mapT,fF,und_5]) gR rfl (regW.alt 4 rfl ?_)
 simp only[seval,EMB,ah,w_eq,mg_I,h8,h9,h10]
 refine bz rfl rfl rfl (by simp only[mapT,fF,und_5]) gR rfl (regW.of ?_)
 simp only[seval,EMB,ah,w_eq,mg_I,h8,h9,h10]
 cases h
 simp only[seval,FMB,h8,h9,h10]
 refine .ite (λh11=>?_) (λh11=>?_)
 refine .regionW λe h=>regW.alt 4 rfl ?_
 simp only[seval,EMB,ah,w_eq,h8,h9,h10,h11]
 refine bz rfl rfl rfl (by simp only[mapT,fF,und_5]) gR rfl (regW.alt 4 rfl ?_)
 simp only[seval,EMB,ah,w_eq,mg_I,h8,h9,h10,h11]
 refine bz rfl rfl rfl (by simp only[mapT,fF,und_5]) gR rfl (regW.alt 4 rfl ?_)
 simp only[seval,EMB,ah,w_eq,mg_I,h8,h9,h10,h11]
 refine bz rfl rfl rfl (by simp only[mapT,fF,und_5]) gR rfl (regW.of ?_)
 simp only[seval,EMB,ah,w_eq,mg_I,h8,h9,h10,h11]
 cases h
 simp only[seval,FMB,h8,h9,h10,h11]
 refine .regionW λe h=>regW.alt 4 rfl ?_
 simp only[seval,EMB,ah,w_eq,h8,h9,h10,h11]
 refine bz rfl rfl rfl (by simp only[mapT,fF,und_5]) gR rfl (regW.alt 4 rfl ?_)
 simp only[seval,EMB,ah,w_eq,mg_I,h8,h9,h10,h11]
 refine bz rfl rfl rfl (by simp only[mapT,fF,und_5]) gR rfl (regW.alt 4 rfl ?_)
 simp only[seval,EMB,ah,w_eq,mg_I,h8,h9,h10,h11]
 refine bz rfl rfl rfl (by simp only[mapT,fF,und_5]) gR rfl (regW.alt 4 rfl ?_)
 simp only[seval,EMB,ah,w_eq,mg_I,h8,h9,h10,h11]
 refine bz rfl rfl rfl (by simp only[mapT,fF,und_5]) gR rfl (regW.of ?_)
 simp only[seval,EMB,ah,w_eq,mg_I,h8,h9,h10,h11]
 cases h
 simp only[seval,FMB,h8,h9,h10,h11]
 refine .region λe h=>?_
 simp only[seval,EMB,h8]
 cases h
 simp only[seval,FMB,h8]
 intro v5
 refine Mir.toK (.cond rfl (λh12=>?_) (λh12=>?_))
 refine .sR λe h=>?_
 simp only[seval,EMB]
 refine mU e (.ret λe h=>?_) h
 cases h
 simp only[seval,FMB,Tryz.results18]
 refine .skip (Mir.toK (.sR λe h=>?_))
 simp only[seval,EMB]
 refine mU e (.ret λe h=>?_) h
 cases h
 simp only[seval,FMB,Tryz.results18]
def c8(a0:List ay):Option (List ay):=aF (okLen a0.length) (some a0)
theorem eL{c0:Nat}{y:List ay}(h:(some [])=some y):Spec gP 90 [.d (.other (.slice none 0 c0))] (.d (.list (zA ar y))):=by
 refine aB Tryz.func90 rfl (by kernel_rfl) (by kernel_rfl) (λy:List ay=>.d (.list (zA ar y))) ?_ h
 simp only[zB,zD,nS,nA,Tryz.ntmps90,SV]
 refine .sR λe h=>?_
 simp only[seval,EMB]
 refine mU e (.seqK (.sR λe h=>?_)) h
 simp only[seval,EMB,br]
 refine mU e (.condT rfl (.sR λe h=>?_)) h
 simp only[seval,EMB]
 refine mU e (.ret λe h=>?_) h
 cases h
 simp only[seval,FMB,Tryz.results90]
theorem eK{p0:Addr}{c0:Nat}{y:List ay}(h:(some [])=some y):Spec gP 90 [.d (.other (.slice (some p0) 0 c0))] (.d (.list (zA ar y))):=by
 refine aB Tryz.func90 rfl (by kernel_rfl) (by kernel_rfl) (λy:List ay=>.d (.list (zA ar y))) ?_ h
 simp only[zB,zD,nS,nA,Tryz.ntmps90,SV]
 refine .sR λe h=>?_
 simp only[seval,EMB]
 refine mU e (.seqK (.sR λe h=>?_)) h
 simp only[seval,EMB,br]
 refine mU e (.condF rfl (.skip (Mir.toK (.sR λe h=>?_)))) h
 simp only[seval,EMB,br,bP,bk,(oL 0),app_56,dQ,List.all_cons,List.all_nil]
 refine mU e (.ret λe h=>?_) h
 cases h
 simp only[seval,FMB,Tryz.results90]
theorem eM{x0:ay}{l0:List ay}{y:List ay}(h:(aF (okLen ((x0::l0).length)) (   some (x0::l0)))=some y):Spec gP 90 [.d (.list (zA ar (x0::l0)))] (.d (.list (zA ar y))):=by
 refine aB Tryz.func90 rfl (by kernel_rfl) (by kernel_rfl) (λy:List ay=>.d (.list (zA ar y))) ?_ h
 simp only[zB,zD,nS,nA,Tryz.ntmps90,SV]
 refine .sR λe h=>?_
 simp only[seval,EMB]
 refine mU e (.seqK (.sR λe h=>?_)) h
 simp only[seval,EMB,br]
 refine mU e (.condF rfl (.skip (Mir.toK (.seqK (.guard λq1=>.region λe h=>?_))))) h
 simp only[seval,EMB,br,bP,bk,(oL 0),app_56,dQ,q1]
 refine mU e (.ret λe h=>?_) h
 cases h
 simp only[seval,FMB,Tryz.results90]
theorem d7{a0:List ay}{y:List ay}(h:c8 a0=some y):Spec gP 90 [.d (.list (zA ar a0))] (.d (.list (zA ar y))):=by
 obtain⟨hl,h⟩:=cT h
 cases h
 cases a0 with
 | nil =>
  refine Spec.nilcase λA c=>?_
  cases A with
  | none=>exact eL rfl
  | some p=>exact eK rfl
 | cons x l=>exact eM (by simp only[aF,hl])
def sp_Expand(a0:aJ):Option ((List ac)×Int):=bindO (bindO (bindO (sp_proper (aJ.mk a0.Main a0.Subs)) λ(y1:Bool)=>if (!y1)=true then none else bindO (aF (okIdx a0.Subs) ( aU (λ(i1:Nat) (e1:bd) (v1:(List (List ac))×(List (Int×(List ac))))=>aF (okLen (v1.1.length+1)) ( some (.go (v1.1++[e1.Blocks],mput v1.2 e1.Number e1.Blocks)))) (λ(v1:(List (List ac))×(List (Int×(List ac))))=>some (v1.1,v1.2)) a0.Subs 0 ([a0.Main],[]))) λ(v2:(List (List ac))×(List (Int×(List ac))))=>bindO (bW v2.1) λ(y2:(List ac))=>bindX (aF (okIdx y2) ( aU (λ(i2:Nat) (e2:ac) (v3:(List Int))=>bindX (bindO (jK e2) λ(y3:Int×Int×Bool×Int)=>if (y3.2.2.2 != 0)=true then none else if y3.2.2.1=true then aF (okLen (v3.length+1)) ( some (.go (v3++[y3.1])))else some (.go v3)) λ(v4:(List Int))=>some (.go v4)) (λ(v3:(List Int))=>some (.go v3)) y2 0 [])) λ(v5:(List Int))=>bindX (aF (okIdx v5) ( aU (λ(i3:Nat) (e3:Int) (v6:Unit)=>if (!((mget v2.2 e3).isSome))=true then none else some (.go ())) (λ(v6:Unit)=>some (.go ())) v5 0 ())) λ(v7:Unit)=>bindX (aF (okIdx a0.Subs) ( aU (λ(i4:Nat) (e4:bd) (v8:(List (Int×Int))×(List (Int×Int))×(List (Int×Int)))=>bindO (if (((mget v8.1 e4.Number).getD 0)==1)=true then some (false,v8.1,v8.2.1,v8.2.2)else if (((mget v8.1 e4.Number).getD 0)==2)=true then some (true,v8.1,v8.2.1,v8.2.2)else bindO (aF (okIdx ((mget v2.2 e4.Number).getD [])) ( aU (λ(i5:Nat) (e5:ac) (v9:Unit)=>bindO (jK e5) λ(y4:Int×Int×Bool×Int)=>bindO (if y4.2.2.1=true then none else some ()) λ(v10:Unit)=>some (.go ())) (λ(v9:Unit)=>some ()) ((mget v2.2 e4.Number).getD []) 0 ())) λ(v11:Unit)=>bindO (bindO (aF (okIdx ((mget v2.2 e4.Number).getD [])) ( aU (λ(i6:Nat) (e6:ac) (v12:Int×Int)=>bindO (jK e6) λ(y5:Int×Int×Bool×Int)=>bindO (if (!y5.2.2.1)=true then some (v12.1,zK.wrap (v12.2+1))else some (mmI true v12.1 (zK.wrap (1+((mget v8.2.1 y5.1).getD 0))),zK.wrap (v12.2+(mmI false (zK.wrap (y5.2.1*((mget v8.2.2 y5.1).getD 0))) 20001)))) λ(v13:Int×Int)=>some (.go (v13.1,mmI false v13.2 20001))) (λ(v12:Int×Int)=>some (v12.1,v12.2)) ((mget v2.2 e4.Number).getD []) 0 (0,0))) λ(v14:Int×Int)=>some (v14.1,v14.2)) λ(v15:Int×Int)=>some (true,mput (mput v8.1 e4.Number 1) e4.Number 2,mput v8.2.1 e4.Number v15.1,mput v8.2.2 e4.Number v15.2)) λ(v16:Bool×(List (Int×Int))×(List (Int×Int))×(List (Int×Int)))=>if (!v16.1)=true then none else some (.go (v16.2.1,v16.2.2.1,v16.2.2.2))) (λ(v8:(List (Int×Int))×(List (Int×Int))×(List (Int×Int)))=>some (.go (v8.1,v8.2.1,v8.2.2))) a0.Subs 0 ([],[],[]))) λ(v17:(List (Int×Int))×(List (Int×Int))×(List (Int×Int)))=>some (v2.2,v17.1,v17.2.1,v17.2.2)) λ(v18:(List (Int×(List ac)))×(List (Int×Int))×(List (Int×Int))×(List (Int×Int)))=>bindO (bindO (aF (okIdx a0.Main) ( aU (λ(i7:Nat) (e7:ac) (v19:Int×Int)=>bindO (jK e7) λ(y6:Int×Int×Bool×Int)=>bindO (if (!y6.2.2.1)=true then some (v19.1,zK.wrap (v19.2+1))else some (mmI true v19.1 (zK.wrap (1+((mget v18.2.2.1 y6.1).getD 0))),zK.wrap (v19.2+(mmI false (zK.wrap (y6.2.1*((mget v18.2.2.2 y6.1).getD 0))) 20001)))) λ(v20:Int×Int)=>some (.go (v20.1,mmI false v20.2 20001))) (λ(v19:Int×Int)=>some (v19.1,v19.2)) a0.Main 0 (0,0))) λ(v21:Int×Int)=>some (v21.1,v21.2)) λ(v22:Int×Int)=>if ((decide (v22.1>8))||(decide (v22.2>20000)))=true then none else some (v22.2,v18.1,v18.2.1,v18.2.2.1,v18.2.2.2)) λ(v23:Int×(List (Int×(List ac)))×(List (Int×Int))×(List (Int×Int))×(List (Int×Int)))=>bindO (bindO (aF (okIdx a0.Main) ( aU (λ(i8:Nat) (e8:ac) (v24:(List ac)×(List (Int×(List ac))))=>bindO (bindO (jK e8) λ(y7:Int×Int×Bool×Int)=>if (!y7.2.2.1)=true then aF (okLen (v24.1.length+1)) ( some (v24.1++[e8],v24.2))else bindO (if (!((mget v24.2 y7.1).isSome))=true then bindO (bindO (aF (okIdx ((mget v23.2.1 y7.1).getD [])) ( aU (λ(i9:Nat) (e9:ac) (v25:(List ac))=>bindO (bindO (jK e9) λ(y8:Int×Int×Bool×Int)=>if (!y8.2.2.1)=true then aF (okLen (v25.length+1)) ( some (v25++[e9]))else if (!((mget v24.2 y8.1).isSome))=true then none else if ((((mget v24.2 y8.1).getD []).length:Int)==0)=true then some v25 else loopX (λ(v26:(List ac)×Int)=>if (decide (v26.2<y8.2.1))=true then aF (okLen (v26.1.length+((mget v24.2 y8.1).getD []).length)) ( some (.go (v26.1++((mget v24.2 y8.1).getD []),zK.wrap (v26.2+1))))else some (.ret v26.1)) fuel (v25,0)) λ(v27:(List ac))=>some (.go v27)) (λ(v25:(List ac))=>some v25) ((mget v23.2.1 y7.1).getD []) 0 [])) λ(v28:(List ac))=>some v28) λ(v29:(List ac))=>some (v29,mput v24.2 y7.1 v29)else some ((mget v24.2 y7.1).getD [],v24.2)) λ(v30:(List ac)×(List (Int×(List ac))))=>if ((v30.1.length:Int)==0)=true then some (v24.1,v30.2)else loopX (λ(v31:(List ac)×Int)=>if (decide (v31.2<y7.2.1))=true then aF (okLen (v31.1.length+v30.1.length)) ( some (.go (v31.1++v30.1,zK.wrap (v31.2+1))))else some (.ret (v31.1,v30.2))) fuel (v24.1,0)) λ(v32:(List ac)×(List (Int×(List ac))))=>some (.go (v32.1,v32.2))) (λ(v24:(List ac)×(List (Int×(List ac))))=>some (v24.1,v24.2)) a0.Main 0 ([],[]))) λ(v33:(List ac)×(List (Int×(List ac))))=>some (v33.1,v33.2)) λ(v34:(List ac)×(List (Int×(List ac))))=>bindO (aF (okIdx v34.1) ( aU (λ(i10:Nat) (e10:ac) (v35:(List ac))=>bindO (c8 e10.Words) λ(y9:(List ay))=>aF (okLen (v35.length+1)) ( some (.go (v35++[ac.mk e10.Skip y9 e10.Comment])))) (λ(v35:(List ac))=>some v35) v34.1 0 [])) λ(v36:(List ac))=>some (v36,0)
theorem sp_Expand_spec{a0:aJ}{y:(List ac)×Int}(h:sp_Expand a0=some y):Spec gP 40 [.agg (cN a0)] (.tuple [.d (.list (zA aa y.1)),.d (.int .i64 y.2)]):=by
 refine aB Tryz.func40 rfl (by kernel_rfl) (by kernel_rfl) (λy:(List ac)×Int=>.tuple [.d (.list (zA aa y.1)),.d (.int .i64 y.2)]) ?_ h
 unfold sp_Expand
 simp only[zB,zD,nS,nA,Tryz.ntmps40,SV]
 refine .sR λe h=>?_
 simp only[seval,EMB,eInt,eList,ap]
 refine mU e (.seqK (.bind λv23 h1=>.region λe h=>?_)) h
 simp only[seval,EMB,ag_71,sz_71,eInt,eList,ap]
 refine SpecS.inl Tryz.func88 rfl (by kernel_rfl) (by kernel_rfl) (λv23:Int×(List (Int×(List ac)))×(List (Int×Int))×(List (Int×Int))×(List (Int×Int))=>.tuple [.ptr 8 0,.d (.int .i64 v23.1),.d (.int .i64 0)]) (λv23=>⟨[(cN a0),(cN a0),(cN a0),[.mapc .i64 (zA (ekv (evL aa)) v23.2.1)],[.mapc .i64 (zA (ekv (evI .i64)) v23.2.2.1)],[.mapc .i64 (zA (ekv (evI .i64)) v23.2.2.2.1)],[.mapc .i64 (zA (ekv (evI .i64)) v23.2.2.2.2)],[.mapc .i64 (zA (ekv (evL aa)) [])],[.mp 3,.mp 4,.mp 5,.mp 6,.mp 7]],[]⟩) h1 rfl ?_ ?_
 simp only[zB,zD,nS,nA,Tryz.ntmps88,SV]
 refine .sR λe h=>?_
 simp only[seval,EMB,eInt,eList,ap]
 refine mU e (.seqK (.bind λv18 h2=>.region λe h=>?_)) h
 simp only[seval,EMB,ag_71,sz_71,eInt,eList,ap]
 refine SpecS.inl Tryz.func138 rfl (by kernel_rfl) (by kernel_rfl) (λv18:(List (Int×(List ac)))×(List (Int×Int))×(List (Int×Int))×(List (Int×Int))=>.tuple [.ptr 8 0,.d (.int .i64 0)]) (λv18=>⟨[(cN a0),(cN a0),(cN a0),[.mapc .i64 (zA (ekv (evL aa)) v18.1)],[.mapc .i64 (zA (ekv (evI .i64)) v18.2.1)],[.mapc .i64 (zA (ekv (evI .i64)) v18.2.2.1)],[.mapc .i64 (zA (ekv (evI .i64)) v18.2.2.2)],[.mapc .i64 (zA (ekv (evL aa)) [])],[.mp 3,.mp 4,.mp 5,.mp 6,.mp 7]],[]⟩) h2 rfl ?_ ?_
 simp only[zB,zD,nS,nA,Tryz.ntmps138,SV]
 refine .sR λe h=>?_
 simp only[seval,EMB,eInt,eList,ap]
 refine mU e (.seqK (.seqK (.bind λy1 h3=>.region λe h=>?_))) h
 simp only[seval,EMB,ag_71,sz_71,eInt,eList,ap]
 refine SpecS.by (sp_proper_spec h3) (by simp only[seval,FMB,eInt,eList,ap]) ?_
 simp only[seval,EMB,eInt,eList,ap]
 refine mU e (.cond rfl (λh4=>?_) (λh4=>?_)) h
 exact Mir.no
 refine .skip (Mir.toK (.seqK (.regionW λe h=>regW.alt 0 rfl ?_)))
 simp only[seval,EMB,ah,w_eq,eInt,eList,ap]
 refine dE .i64 (regW.alt 0 rfl ?_)
 simp only[seval,EMB,ah,w_eq,xMN,eInt,eList,ap]
 refine dE .i64 (regW.alt 0 rfl ?_)
 simp only[seval,EMB,ah,w_eq,xMN,eInt,eList,ap]
 refine dE .i64 (regW.alt 0 rfl ?_)
 simp only[seval,EMB,ah,w_eq,xMN,eInt,eList,ap]
 refine dE .i64 (regW.alt 0 rfl ?_)
 simp only[seval,EMB,ah,w_eq,xMN,eInt,eList,ap]
 refine dE .i64 (regW.of ?_)
 simp only[seval,EMB,ah,w_eq,xMN,zero_233,pl_233,eInt,eList,ap]
 refine mU e (.seqK (.regionW λe h=>regW.alt 2 rfl ?_)) h
 simp only[seval,EMB,ah,w_eq,de,sz_50,ag_50,eInt,eList,ap]
 refine alt_litOwn (es:=zA (eList aa) [a0.Main]) app_258 (by simp only[seval,EMB,lb,sz_50,iB,(oL 1),eInt,eList,ap]) (by decide) (regW.of ?_)
 simp only[seval,EMB,ah,w_eq,lb,sz_50,iB,(oL 1),eInt,eList,ap]
 refine mU e (.seqK (.sR λe h=>?_)) h
 simp only[seval,EMB,fY,sz_69,ag_69,fi,eInt,eList,ap]
 refine mU e (Mir.joinO (λv2:(List (List ac))×(List (Int×(List ac)))=>([U,.ptr 2 0,U,U,.ptr 8 0,.own 0 (zA (eList aa) v2.1)]++us 104)) (λv2=>⟨[(cN a0),(cN a0),(cN a0),[.mapc .i64 (zA (ekv (evL aa)) v2.2)],[.mapc .i64 (zA (ekv (evI .i64)) [])],[.mapc .i64 (zA (ekv (evI .i64)) [])],[.mapc .i64 (zA (ekv (evI .i64)) [])],[.mapc .i64 (zA (ekv (evL aa)) [])],[.mp 3,.mp 4,.mp 5,.mp 6,.mp 7]],[(50,v2.1.length)]⟩) (λ_=>rfl) ?_ ?_) h
 refine .block (.guard λq1=>Mir.range (λ(i1:Nat) (v1:(List (List ac))×(List (Int×(List ac))))=>([U,.ptr 2 0,U,U,.ptr 8 0,.own 0 (zA (eList aa) v1.1),U,U,U,U,U,U,U,U,U,U,U,U,U,U,U,U,U,U,U,U,U,U,U,U,U,U,U,U,U,.d (.list (zA aK a0.Subs)),.d (.int .i64 (a0.Subs.length:Int)),.d (.int .i64 (i1:Int))]++us 72)) (λi1 v1=>⟨[(cN a0),(cN a0),(cN a0),[.mapc .i64 (zA (ekv (evL aa)) v1.2)],[.mapc .i64 (zA (ekv (evI .i64)) [])],[.mapc .i64 (zA (ekv (evI .i64)) [])],[.mapc .i64 (zA (ekv (evI .i64)) [])],[.mapc .i64 (zA (ekv (evL aa)) [])],[.mp 3,.mp 4,.mp 5,.mp 6,.mp 7]],[(50,v1.1.length)]⟩) q1 (λ_ _=>rfl) (by simp only[seval,FMB,eInt,eList,ap,zNI]) (by simp only[seval,FMB,eInt,eList,ap,zNI]) ?_ ?_)
 intro i1 e1 v1 q2
 refine .sR λe h=>?_
 simp only[seval,EMB,q2,eInt,eList,ap]
 refine mU e (.seqK (.condT rfl (.skip (Mir.toK (.seqK (.block (.sR λe h=>?_))))))) h
 simp only[seval,EMB,fi,kM,q2,zF,ag_131,iC,eInt,eList,ap]
 refine mU e (.seqK (.regionT 8 [] (by kernel_rfl) λe h=>?_)) h
 simp only[seval,EMB,ah,w_eq,SB,iv,kL,ag_229,ix,sz_2,ag_2,fld_131_1,sz_50,ag_50,eInt,eList,ap]
 refine regW.alt 0 rfl ?_
 simp only[seval,EMB,ah,w_eq,eInt,eList,ap]
 refine cm (et:=50) rfl rfl rfl rfl (by simp only[mapT,jB,und_2]) (regW.of ?_)
 simp only[seval,EMB,ah,w_eq,mp_L,eInt,eList,ap]
 refine mU e (.guard λq3=>.region λe h=>?_) h
 simp only[seval,EMB,fld_131_1,sz_50,ag_50,lb,iB,(oL 1),app_258,al_eList,q3,eInt,eList,ap]
 refine mU e (.region λe h=>?_) h
 simp only[seval,EMB,eInt,eList,ap]
 cases h
 simp only[seval,FMB,eInt,eList,ap,Tryz.results138,q2]
 intro v1 q4
 refine .sR λe h=>?_
 simp only[seval,EMB,q4,eInt,eList,ap]
 refine mU e (.seqK (.condF rfl (.exit λe h=>?_))) h
 cases h
 simp only[seval,FMB,eInt,eList,ap,Tryz.results138]
 intro v2
 refine Mir.toK (.sR λe h=>?_)
 simp only[seval,EMB,eInt,eList,ap]
 refine mU e (.seqK (.seqK (.bind λy2 h5=>.region λe h=>?_))) h
 simp only[seval,EMB,eInt,eList,ap]
 refine SpecS.by (dG h5) (by simp only[seval,FMB,eInt,eList,ap]) ?_
 simp only[seval,EMB,aE,eInt,eList,ap]
 refine mU e (.gh [.slot 8 2] rfl (Mir.join (λv5:(List Int)=>([U,.ptr 2 0,U,U,.ptr 8 0,U,U,U,.own 1 (zA (eInt .i64) v5)]++us 101)) (λv5=>⟨[(cN a0),(cN a0),(cN a0),[.mapc .i64 (zA (ekv (evL aa)) v2.2)],[.mapc .i64 (zA (ekv (evI .i64)) [])],[.mapc .i64 (zA (ekv (evI .i64)) [])],[.mapc .i64 (zA (ekv (evI .i64)) [])],[.mapc .i64 (zA (ekv (evL aa)) [])],[.mp 3,.mp 4,.mp 5,.mp 6,.mp 7]],[(50,v2.1.length),(2,v5.length)]⟩) (λ_=>rfl) ?_ ?_)) h
 refine .block (.guard λq5=>Mir.range (λ(i2:Nat) (v3:(List Int))=>([U,.ptr 2 0,U,U,.ptr 8 0,U,U,U,.own 1 (zA (eInt .i64) v3),U,U,U,U,U,U,U,U,U,U,U,U,U,U,U,U,U,U,U,U,U,U,U,U,U,U,U,U,U,U,U,U,U,U,U,U,U,U,U,U,U,U,U,U,U,U,U,.d (.list (zA aa y2)),.d (.int .i64 (y2.length:Int)),.d (.int .i64 (i2:Int))]++us 51)) (λi2 v3=>⟨[(cN a0),(cN a0),(cN a0),[.mapc .i64 (zA (ekv (evL aa)) v2.2)],[.mapc .i64 (zA (ekv (evI .i64)) [])],[.mapc .i64 (zA (ekv (evI .i64)) [])],[.mapc .i64 (zA (ekv (evI .i64)) [])],[.mapc .i64 (zA (ekv (evL aa)) [])],[.mp 3,.mp 4,.mp 5,.mp 6,.mp 7]],[(50,v2.1.length),(2,v3.length)]⟩) q5 (λ_ _=>rfl) (by simp only[seval,FMB,eInt,eList,ap,zNI]) (by simp only[seval,FMB,eInt,eList,ap,zNI]) ?_ ?_)
 intro i2 e2 v3 q6
 refine .sR λe h=>?_
 simp only[seval,EMB,q6,eInt,eList,ap]
 refine mU e (.seqK (.condT rfl (.skip (Mir.toK (.seqK (Mir.join (λv4:(List Int)=>([U,.ptr 2 0,U,U,.ptr 8 0,U,U,U,.own 1 (zA (eInt .i64) v4),U,U,U,U,U,U,U,U,U,U,U,U,U,U,U,U,U,U,U,U,U,U,U,U,U,U,U,U,U,U,U,U,U,U,U,U,U,U,U,U,U,U,U,U,U,U,U,.d (.list (zA aa y2)),.d (.int .i64 (y2.length:Int)),.d (.int .i64 (i2:Int))]++us 51)) (λv4=>⟨[(cN a0),(cN a0),(cN a0),[.mapc .i64 (zA (ekv (evL aa)) v2.2)],[.mapc .i64 (zA (ekv (evI .i64)) [])],[.mapc .i64 (zA (ekv (evI .i64)) [])],[.mapc .i64 (zA (ekv (evI .i64)) [])],[.mapc .i64 (zA (ekv (evL aa)) [])],[.mp 3,.mp 4,.mp 5,.mp 6,.mp 7]],[(50,v2.1.length),(2,v4.length)]⟩) (λ_=>rfl) ?_ ?_)))))) h
 refine .block (.sR λe h=>?_)
 simp only[seval,EMB,aE,sz_58,q6,zF,ag_58,aC,eInt,eList,ap]
 refine mU e (.seqK (.bind λy3 h6=>.region λe h=>?_)) h
 simp only[seval,EMB,ag_58,sz_58,eInt,eList,ap]
 refine SpecS.by (ee h6) (by simp only[seval,FMB,eInt,eList,ap]) ?_
 simp only[seval,EMB,eInt,eList,ap]
 refine mU e (.seqK (.sR λe h=>?_)) h
 simp only[seval,EMB,eInt,eList,ap]
 refine mU e (.cond rfl (λh7=>?_) (λh7=>?_)) h
 exact Mir.no
 refine .skip (Mir.toK (.sR λe h=>?_))
 simp only[seval,EMB,eInt,eList,ap]
 refine mU e (.cond rfl (λh8=>?_) (λh8=>?_)) h
 refine .guard λq7=>.region λe h=>?_
 simp only[seval,EMB,cn,sz_2,kH,(oL 1),app_64,al_eInt,q7,eInt,eList,ap]
 cases h
 simp only[seval,FMB,eInt,eList,ap,Tryz.results138]
 refine .skip λe h=>?_
 cases h
 simp only[seval,FMB,eInt,eList,ap,Tryz.results138]
 intro v4
 refine Mir.toK (.region λe h=>?_)
 simp only[seval,EMB,eInt,eList,ap]
 cases h
 simp only[seval,FMB,eInt,eList,ap,Tryz.results138,q6]
 intro v3 q8
 refine .sR λe h=>?_
 simp only[seval,EMB,q8,eInt,eList,ap]
 refine mU e (.seqK (.condF rfl (.exit λe h=>?_))) h
 cases h
 simp only[seval,FMB,eInt,eList,ap,Tryz.results138]
 intro v5
 refine Mir.toK (.seqK (.sR λe h=>?_))
 simp only[seval,EMB,cn,eInt,eList,ap]
 refine mU e (Mir.join (λv7:Unit=>([U,.ptr 2 0,U,U,.ptr 8 0]++us 105)) (λv7=>⟨[(cN a0),(cN a0),(cN a0),[.mapc .i64 (zA (ekv (evL aa)) v2.2)],[.mapc .i64 (zA (ekv (evI .i64)) [])],[.mapc .i64 (zA (ekv (evI .i64)) [])],[.mapc .i64 (zA (ekv (evI .i64)) [])],[.mapc .i64 (zA (ekv (evL aa)) [])],[.mp 3,.mp 4,.mp 5,.mp 6,.mp 7]],[(50,v2.1.length),(2,v5.length)]⟩) (λ_=>rfl) ?_ ?_) h
 refine .block (.guard λq9=>Mir.range (λ(i3:Nat) (v6:Unit)=>([U,.ptr 2 0,U,U,.ptr 8 0,U,U,U,U,U,U,U,U,U,U,U,U,U,U,U,U,U,U,U,U,U,U,U,U,U,U,U,U,U,U,U,U,U,U,U,U,U,U,U,U,U,U,U,U,U,U,U,U,U,U,U,U,U,U,U,U,U,U,U,U,U,U,U,U,U,U,U,U,U,U,U,U,U,.own 1 (zA (eInt .i64) v5),.d (.int .i64 (v5.length:Int)),.d (.int .i64 (i3:Int))]++us 29)) (λi3 v6=>⟨[(cN a0),(cN a0),(cN a0),[.mapc .i64 (zA (ekv (evL aa)) v2.2)],[.mapc .i64 (zA (ekv (evI .i64)) [])],[.mapc .i64 (zA (ekv (evI .i64)) [])],[.mapc .i64 (zA (ekv (evI .i64)) [])],[.mapc .i64 (zA (ekv (evL aa)) [])],[.mp 3,.mp 4,.mp 5,.mp 6,.mp 7]],[(50,v2.1.length),(2,v5.length)]⟩) q9 (λ_ _=>rfl) (by simp only[seval,FMB,eInt,eList,ap,zNI]) (by simp only[seval,FMB,eInt,eList,ap,zNI]) ?_ ?_)
 intro i3 e3 v6 q10
 refine .sR λe h=>?_
 simp only[seval,EMB,q10,eInt,eList,ap]
 refine mU e (.seqK (.condT rfl (.skip (Mir.toK (.seqK (.block (.sR λe h=>?_))))))) h
 simp only[seval,EMB,cn,sz_2,q10,zF,ag_2,eInt,eList,ap]
 refine mU e (.seqK (.regionW λe h=>regW.alt 5 rfl ?_)) h
 simp only[seval,EMB,ah,w_eq,iv,kL,ag_229,eInt,eList,ap]
 refine j8 rfl rfl rfl (by simp only[mapT,jB,und_2]) iB rfl (regW.of ?_)
 simp only[seval,EMB,ah,w_eq,mg_L,mis_kv,eInt,eList,ap]
 refine mU e (.sR λe h=>?_) h
 simp only[seval,EMB,eInt,eList,ap]
 refine mU e (.cond rfl (λh9=>?_) (λh9=>?_)) h
 exact Mir.no
 refine .skip (Mir.toB (Mir.toK (.region λe h=>?_)))
 simp only[seval,EMB,eInt,eList,ap]
 cases h
 simp only[seval,FMB,eInt,eList,ap,Tryz.results138,q10]
 intro v6 q11
 refine .sR λe h=>?_
 simp only[seval,EMB,q11,eInt,eList,ap]
 refine mU e (.seqK (.condF rfl (.exit λe h=>?_))) h
 cases h
 simp only[seval,FMB,eInt,eList,ap,Tryz.results138]
 intro v7
 refine Mir.toK (.seqK (.sR λe h=>?_))
 simp only[seval,EMB,fY,sz_69,ag_69,fi,eInt,eList,ap]
 refine mU e (Mir.join (λv17:(List (Int×Int))×(List (Int×Int))×(List (Int×Int))=>([U,U,U,U,.ptr 8 0]++us 105)) (λv17=>⟨[(cN a0),(cN a0),(cN a0),[.mapc .i64 (zA (ekv (evL aa)) v2.2)],[.mapc .i64 (zA (ekv (evI .i64)) v17.1)],[.mapc .i64 (zA (ekv (evI .i64)) v17.2.1)],[.mapc .i64 (zA (ekv (evI .i64)) v17.2.2)],[.mapc .i64 (zA (ekv (evL aa)) [])],[.mp 3,.mp 4,.mp 5,.mp 6,.mp 7]],[(50,v2.1.length),(2,v5.length)]⟩) (λ_=>rfl) ?_ ?_) h
 refine .block (.guard λq12=>Mir.range (λ(i4:Nat) (v8:(List (Int×Int))×(List (Int×Int))×(List (Int×Int)))=>([U,U,U,U,.ptr 8 0,U,U,U,U,U,U,U,U,U,U,U,U,U,U,U,U,U,U,U,U,U,U,U,U,U,U,U,U,U,U,U,U,U,U,U,U,U,U,U,U,U,U,U,U,U,U,U,U,U,U,U,U,U,U,U,U,U,U,U,U,U,U,U,U,U,U,U,U,U,U,U,U,U,U,U,U,U,U,U,U,U,U,U,U,U,U,U,U,U,U,U,U,.d (.list (zA aK a0.Subs)),.d (.int .i64 (a0.Subs.length:Int)),.d (.int .i64 (i4:Int))]++us 10)) (λi4 v8=>⟨[(cN a0),(cN a0),(cN a0),[.mapc .i64 (zA (ekv (evL aa)) v2.2)],[.mapc .i64 (zA (ekv (evI .i64)) v8.1)],[.mapc .i64 (zA (ekv (evI .i64)) v8.2.1)],[.mapc .i64 (zA (ekv (evI .i64)) v8.2.2)],[.mapc .i64 (zA (ekv (evL aa)) [])],[.mp 3,.mp 4,.mp 5,.mp 6,.mp 7]],[(50,v2.1.length),(2,v5.length)]⟩) q12 (λ_ _=>rfl) (by simp only[seval,FMB,eInt,eList,ap,zNI]) (by simp only[seval,FMB,eInt,eList,ap,zNI]) ?_ ?_)
 intro i4 e4 v8 q13
 refine .sR λe h=>?_
 simp only[seval,EMB,q13,eInt,eList,ap]
 refine mU e (.seqK (.condT rfl (.skip (Mir.toK (.seqK (.block (.sR λe h=>?_))))))) h
 simp only[seval,EMB,fi,kM,q13,zF,ag_131,iC,eInt,eList,ap]
 refine mU e (.seqK (.bind λv16 h10=>.region λe h=>?_)) h
 simp only[seval,EMB,ix,sz_2,ag_2,eInt,eList,ap]
 refine SpecS.inl Tryz.func166 rfl (by kernel_rfl) (by kernel_rfl) (λv16:Bool×(List (Int×Int))×(List (Int×Int))×(List (Int×Int))=>.d (.bool v16.1)) (λv16=>⟨[(cN a0),(cN a0),(cN a0),[.mapc .i64 (zA (ekv (evL aa)) v2.2)],[.mapc .i64 (zA (ekv (evI .i64)) v16.2.1)],[.mapc .i64 (zA (ekv (evI .i64)) v16.2.2.1)],[.mapc .i64 (zA (ekv (evI .i64)) v16.2.2.2)],[.mapc .i64 (zA (ekv (evL aa)) [])],[.mp 3,.mp 4,.mp 5,.mp 6,.mp 7],(cM e4)],[(50,v2.1.length),(2,v5.length)]⟩) h10 rfl ?_ ?_
 simp only[zB,zD,nS,nA,Tryz.ntmps166,SV]
 refine .sR λe h=>?_
 simp only[seval,EMB,eInt,eList,ap]
 refine mU e (.seqK (.seqK (.regionW λe h=>regW.alt 5 rfl ?_))) h
 simp only[seval,EMB,ah,w_eq,fld_233_1,sz_230,ag_230,eInt,eList,ap]
 refine bz rfl rfl rfl (by simp only[mapT,und_230,und_2]) gR rfl (regW.of ?_)
 simp only[seval,EMB,ah,w_eq,mg_I,eInt,eList,ap]
 refine mU e (.block (.sR λe h=>?_)) h
 simp only[seval,EMB,eInt,eList,ap]
 refine mU e (.cond rfl (λh11=>?_) (λh11=>?_)) h
 refine .sR λe h=>?_
 simp only[seval,EMB,eInt,eList,ap]
 refine mU e (.ret λe h=>?_) h
 cases h
 simp only[seval,FMB,eInt,eList,ap,Tryz.results166]
 refine .sR λe h=>?_
 simp only[seval,EMB,eInt,eList,ap]
 refine mU e (.cond rfl (λh12=>?_) (λh12=>?_)) h
 refine .sR λe h=>?_
 simp only[seval,EMB,eInt,eList,ap]
 refine mU e (.ret λe h=>?_) h
 cases h
 simp only[seval,FMB,eInt,eList,ap,Tryz.results166]
 refine .skip (Mir.toB (Mir.toK (.seqK (.regionW λe h=>regW.alt 5 rfl ?_))))
 simp only[seval,EMB,ah,w_eq,fld_233_1,sz_230,ag_230,eInt,eList,ap]
 refine cm (et:=3) rfl rfl rfl rfl (by simp only[mapT,und_230,und_2]) (regW.of ?_)
 simp only[seval,EMB,ah,w_eq,mp_I,eInt,eList,ap]
 refine mU e (.seqK (.seqK (.regionW λe h=>regW.alt 5 rfl ?_))) h
 simp only[seval,EMB,ah,w_eq,iv,kL,ag_229,eInt,eList,ap]
 refine bz rfl rfl rfl (by simp only[mapT,jB,und_2]) iB rfl (regW.of ?_)
 simp only[seval,EMB,ah,w_eq,mg_L,aE,eInt,eList,ap]
 refine mU e (Mir.joinO (λv11:Unit=>([.ptr 8 0,.d (.int .i64 e4.Number)]++us 76)) (λv11=>⟨[(cN a0),(cN a0),(cN a0),[.mapc .i64 (zA (ekv (evL aa)) v2.2)],[.mapc .i64 (zA (ekv (evI .i64)) (mput v8.1 e4.Number 1))],[.mapc .i64 (zA (ekv (evI .i64)) v8.2.1)],[.mapc .i64 (zA (ekv (evI .i64)) v8.2.2)],[.mapc .i64 (zA (ekv (evL aa)) [])],[.mp 3,.mp 4,.mp 5,.mp 6,.mp 7],(cM e4)],[(50,v2.1.length),(2,v5.length)]⟩) (λ_=>rfl) ?_ ?_) h
 refine .block (.guard λq14=>Mir.range (λ(i5:Nat) (v9:Unit)=>([.ptr 8 0,.d (.int .i64 e4.Number),U,U,U,U,U,U,U,U,U,U,U,U,U,U,U,U,U,U,U,U,U,U,U,U,U,U,U,U,U,.d (.list (zA aa ((mget v2.2 e4.Number).getD []))),.d (.int .i64 (((mget v2.2 e4.Number).getD []).length:Int)),.d (.int .i64 (i5:Int))]++us 44)) (λi5 v9=>⟨[(cN a0),(cN a0),(cN a0),[.mapc .i64 (zA (ekv (evL aa)) v2.2)],[.mapc .i64 (zA (ekv (evI .i64)) (mput v8.1 e4.Number 1))],[.mapc .i64 (zA (ekv (evI .i64)) v8.2.1)],[.mapc .i64 (zA (ekv (evI .i64)) v8.2.2)],[.mapc .i64 (zA (ekv (evL aa)) [])],[.mp 3,.mp 4,.mp 5,.mp 6,.mp 7],(cM e4)],[(50,v2.1.length),(2,v5.length)]⟩) q14 (λ_ _=>rfl) (by simp only[seval,FMB,eInt,eList,ap,zNI]) (by simp only[seval,FMB,eInt,eList,ap,zNI]) ?_ ?_)
 intro i5 e5 v9 q15
 refine .sR λe h=>?_
 simp only[seval,EMB,q15,eInt,eList,ap]
 refine mU e (.seqK (.condT rfl (.skip (Mir.toK (.seqK (.block (.sR λe h=>?_))))))) h
 simp only[seval,EMB,aE,sz_58,q15,zF,ag_58,aC,eInt,eList,ap]
 refine mU e (.seqK (.bind λy4 h13=>.region λe h=>?_)) h
 simp only[seval,EMB,ag_58,sz_58,eInt,eList,ap]
 refine SpecS.by (ee h13) (by simp only[seval,FMB,eInt,eList,ap]) ?_
 simp only[seval,EMB,eInt,eList,ap]
 refine mU e (.seqK (Mir.joinO (λv10:Unit=>([.ptr 8 0,.d (.int .i64 e4.Number),U,U,U,U,U,U,U,U,U,U,U,U,U,U,U,U,U,U,U,U,U,U,U,U,U,U,U,U,U,.d (.list (zA aa ((mget v2.2 e4.Number).getD []))),.d (.int .i64 (((mget v2.2 e4.Number).getD []).length:Int)),.d (.int .i64 (i5:Int)),U,U,U,U,U,U,U,U,U,U,U,U,U,U,U,U,.d (.bool false)]++us 27)) (λv10=>⟨[(cN a0),(cN a0),(cN a0),[.mapc .i64 (zA (ekv (evL aa)) v2.2)],[.mapc .i64 (zA (ekv (evI .i64)) (mput v8.1 e4.Number 1))],[.mapc .i64 (zA (ekv (evI .i64)) v8.2.1)],[.mapc .i64 (zA (ekv (evI .i64)) v8.2.2)],[.mapc .i64 (zA (ekv (evL aa)) [])],[.mp 3,.mp 4,.mp 5,.mp 6,.mp 7],(cM e4),(cJ e5)],[(50,v2.1.length),(2,v5.length)]⟩) (λ_=>rfl) ?_ ?_)) h
 refine .ite (λh14=>?_) (λh14=>?_)
 exact Mir.no
 refine .region λe h=>?_
 simp only[seval,EMB,eInt,eList,ap,h14]
 cases h
 simp only[seval,FMB,eInt,eList,ap,h14]
 intro v10
 refine Mir.toK (.condF rfl (.skip (Mir.toB (Mir.toK (.region λe h=>?_)))))
 simp only[seval,EMB,eInt,eList,ap]
 cases h
 simp only[seval,FMB,eInt,eList,ap,Tryz.results166,q15]
 intro v9 q16
 refine .sR λe h=>?_
 simp only[seval,EMB,q16,eInt,eList,ap]
 refine mU e (.seqK (.condF rfl (.exit λe h=>?_))) h
 cases h
 simp only[seval,FMB,eInt,eList,ap,Tryz.results166]
 intro v11
 refine Mir.toK (.seqK (.regionW λe h=>regW.alt 5 rfl ?_))
 simp only[seval,EMB,ah,w_eq,fld_233_1,sz_230,ag_230,eInt,eList,ap]
 refine cm (et:=3) rfl rfl rfl rfl (by simp only[mapT,und_230,und_2]) (regW.of ?_)
 simp only[seval,EMB,ah,w_eq,mp_I,eInt,eList,ap]
 refine mU e (.seqK (.bind λv15 h15=>Mir.regionA 0 [] [.ptr 8 0,.d (.int .i64 e4.Number),U,U,U,U,U,U,U,U,U,U,U,U,U,U,U,U,U,U,U,U,U,U,U,U,U,U,U,U,U,U,U,U,U,U,U,U,U,U,U,U,U,U,U,U,U,U,U,U,U,U,.ptr 8 0,.ptr 8 0,.ptr 8 1,.mp 4,.d (.int .i64 e4.Number),.tuple [.d (.int .i64 v15.1),.d (.int .i64 v15.2)],.ptr 8 0,.ptr 8 0,.ptr 8 2,.mp 5,.d (.int .i64 e4.Number),.ptr 8 0,.ptr 8 0,.ptr 8 3,.mp 6,.d (.int .i64 e4.Number),.ptr 8 0,.ptr 8 0,.ptr 8 0,.ptr 8 0,.mp 3,.d (.int .i64 e4.Number),.d (.list (zA aa ((mget v2.2 e4.Number).getD []))),.tuple [.d (.int .i64 v15.1),.d (.int .i64 v15.2)],.d (.int .i64 v15.1),.d (.int .i64 v15.2)] ⟨[(cN a0),(cN a0),(cN a0),[.mapc .i64 (zA (ekv (evL aa)) v2.2)],[.mapc .i64 (zA (ekv (evI .i64)) (mput (mput v8.1 e4.Number 1) e4.Number 2))],[.mapc .i64 (zA (ekv (evI .i64)) (mput v8.2.1 e4.Number v15.1))],[.mapc .i64 (zA (ekv (evI .i64)) (mput v8.2.2 e4.Number v15.2))],[.mapc .i64 (zA (ekv (evL aa)) [])],[.mp 3,.mp 4,.mp 5,.mp 6,.mp 7],(cM e4)],[(50,v2.1.length),(2,v5.length)]⟩ (by kernel_rfl) (λe h=>?_) (λe h=>?_))) h
 simp only[seval,EMB,ah,w_eq,SB,eInt,eList,ap]
 refine regV.toA (k:=8) (ms:=[3,4,5,6,7]) (regV.moveB (j:=0) (by kernel_rfl) rfl rfl rfl ?_)
 simp only[seval,EMB,ah,w_eq,eInt,eList,ap]
 refine regV.nilB (j:=1) (by kernel_rfl) rfl rfl rfl rfl ?_
 simp only[seval,EMB,ah,w_eq,eInt,eList,ap]
 refine regV.fieldB (j:=2) (y:=.ptr 8 2) (by kernel_rfl) rfl rfl rfl (by first | simp only[seval,EMB,fld_233_2,sz_230,eInt,eList,ap] | kernel_rfl) ?_
 simp only[seval,EMB,ah,w_eq,fld_233_2,sz_230,eInt,eList,ap]
 refine regV.loadB (j:=3) (m:=5) (by kernel_rfl) rfl rfl rfl rfl ag_230 rfl ?_
 simp only[seval,EMB,ah,w_eq,ag_230,sz_230,eInt,eList,ap]
 refine regV.moveB (j:=4) (by kernel_rfl) rfl rfl rfl ?_
 simp only[seval,EMB,ah,w_eq,eInt,eList,ap]
 refine regV.moveB (j:=5) (by kernel_rfl) rfl rfl rfl ?_
 simp only[seval,EMB,ah,w_eq,eInt,eList,ap]
 refine regV.nilB (j:=6) (by kernel_rfl) rfl rfl rfl rfl ?_
 simp only[seval,EMB,ah,w_eq,eInt,eList,ap]
 refine regV.fieldB (j:=7) (y:=.ptr 8 3) (by kernel_rfl) rfl rfl rfl (by first | simp only[seval,EMB,fld_233_3,sz_231,eInt,eList,ap] | kernel_rfl) ?_
 simp only[seval,EMB,ah,w_eq,fld_233_3,sz_231,eInt,eList,ap]
 refine regV.loadB (j:=8) (m:=6) (by kernel_rfl) rfl rfl rfl rfl ag_231 rfl ?_
 simp only[seval,EMB,ah,w_eq,ag_231,sz_231,eInt,eList,ap]
 refine regV.moveB (j:=9) (by kernel_rfl) rfl rfl rfl ?_
 simp only[seval,EMB,ah,w_eq,eInt,eList,ap]
 refine regV.moveB (j:=10) (by kernel_rfl) rfl rfl rfl ?_
 simp only[seval,EMB,ah,w_eq,eInt,eList,ap]
 refine regV.moveB (j:=11) (by kernel_rfl) rfl rfl rfl ?_
 simp only[seval,EMB,ah,w_eq,eInt,eList,ap]
 refine regV.nilB (j:=12) (by kernel_rfl) rfl rfl rfl rfl ?_
 simp only[seval,EMB,ah,w_eq,eInt,eList,ap]
 refine regV.fieldB (j:=13) (y:=.ptr 8 0) (by kernel_rfl) rfl rfl rfl (by first | simp only[seval,EMB,iv,kL,eInt,eList,ap] | kernel_rfl) ?_
 simp only[seval,EMB,ah,w_eq,iv,kL,eInt,eList,ap]
 refine regV.loadB (j:=14) (m:=3) (by kernel_rfl) rfl rfl rfl rfl ag_229 rfl ?_
 simp only[seval,EMB,ah,w_eq,ag_229,kL,eInt,eList,ap]
 refine regV.moveB (j:=15) (by kernel_rfl) rfl rfl rfl ?_
 simp only[seval,EMB,ah,w_eq,eInt,eList,ap]
 refine regV.one (j:=16) (by kernel_rfl) rfl (regW.alt 0 rfl ?_)
 simp only[seval,EMB,ah,w_eq,eInt,eList,ap]
 refine bz rfl rfl rfl (by simp only[mapT,jB,und_2]) iB rfl (regW.of ?_)
 simp only[seval,EMB,ah,w_eq,mg_L,eInt,eList,ap]
 refine⟨rfl,?_⟩
 refine regV.one (j:=17) (by kernel_rfl) rfl (regW.of ?_)
 simp only[seval,EMB,ah,w_eq,eInt,eList,ap]
 refine SpecS.inl Tryz.func139 rfl (by kernel_rfl) (by kernel_rfl) (λv15:Int×Int=>.tuple [.d (.int .i64 v15.1),.d (.int .i64 v15.2)]) (λv15=>⟨[(cN a0),(cN a0),(cN a0),[.mapc .i64 (zA (ekv (evL aa)) v2.2)],[.mapc .i64 (zA (ekv (evI .i64)) (mput (mput v8.1 e4.Number 1) e4.Number 2))],[.mapc .i64 (zA (ekv (evI .i64)) v8.2.1)],[.mapc .i64 (zA (ekv (evI .i64)) v8.2.2)],[.mapc .i64 (zA (ekv (evL aa)) [])],[.mp 3,.mp 4,.mp 5,.mp 6,.mp 7],(cM e4)],[(50,v2.1.length),(2,v5.length)]⟩) h15 rfl ?_ ?_
 simp only[zB,zD,nS,nA,Tryz.ntmps139,SV]
 refine .sR λe h=>?_
 simp only[seval,EMB,eInt,eList,ap]
 refine mU e (.sR λe h=>?_) h
 simp only[seval,EMB,eInt,eList,ap]
 refine mU e (.seqK (.sR λe h=>?_)) h
 simp only[seval,EMB,aE,eInt,eList,ap]
 refine mU e (Mir.joinO (λv14:Int×Int=>([U,U,U,U,U,U,.d (.int .i64 v14.1),.d (.int .i64 v14.2)]++us 48)) (λv14=>⟨[(cN a0),(cN a0),(cN a0),[.mapc .i64 (zA (ekv (evL aa)) v2.2)],[.mapc .i64 (zA (ekv (evI .i64)) (mput (mput v8.1 e4.Number 1) e4.Number 2))],[.mapc .i64 (zA (ekv (evI .i64)) v8.2.1)],[.mapc .i64 (zA (ekv (evI .i64)) v8.2.2)],[.mapc .i64 (zA (ekv (evL aa)) [])],[.mp 3,.mp 4,.mp 5,.mp 6,.mp 7],(cM e4)],[(50,v2.1.length),(2,v5.length)]⟩) (λ_=>rfl) ?_ ?_) h
 refine .block (.guard λq17=>Mir.range (λ(i6:Nat) (v12:Int×Int)=>([.ptr 8 0,U,U,U,U,U,.d (.int .i64 v12.1),.d (.int .i64 v12.2),U,U,U,U,U,U,.d (.list (zA aa ((mget v2.2 e4.Number).getD []))),.d (.int .i64 (((mget v2.2 e4.Number).getD []).length:Int)),.d (.int .i64 (i6:Int))]++us 39)) (λi6 v12=>⟨[(cN a0),(cN a0),(cN a0),[.mapc .i64 (zA (ekv (evL aa)) v2.2)],[.mapc .i64 (zA (ekv (evI .i64)) (mput (mput v8.1 e4.Number 1) e4.Number 2))],[.mapc .i64 (zA (ekv (evI .i64)) v8.2.1)],[.mapc .i64 (zA (ekv (evI .i64)) v8.2.2)],[.mapc .i64 (zA (ekv (evL aa)) [])],[.mp 3,.mp 4,.mp 5,.mp 6,.mp 7],(cM e4)],[(50,v2.1.length),(2,v5.length)]⟩) q17 (λ_ _=>rfl) (by simp only[seval,FMB,eInt,eList,ap,zNI]) (by simp only[seval,FMB,eInt,eList,ap,zNI]) ?_ ?_)
 intro i6 e6 v12 q18
 refine .sR λe h=>?_
 simp only[seval,EMB,q18,eInt,eList,ap]
 refine mU e (.seqK (.condT rfl (.skip (Mir.toK (.seqK (.block (.sR λe h=>?_))))))) h
 simp only[seval,EMB,aE,sz_58,q18,zF,ag_58,aC,eInt,eList,ap]
 refine mU e (.seqK (.bind λy5 h16=>.region λe h=>?_)) h
 simp only[seval,EMB,ag_58,sz_58,eInt,eList,ap]
 refine SpecS.by (ee h16) (by simp only[seval,FMB,eInt,eList,ap]) ?_
 simp only[seval,EMB,eInt,eList,ap]
 refine mU e (.seqK (.sR λe h=>?_)) h
 simp only[seval,EMB,eInt,eList,ap]
 refine mU e (Mir.joinO (λv13:Int×Int=>([.ptr 8 0,U,U,U,U,U,.d (.int .i64 v13.1),.d (.int .i64 v13.2),U,U,U,U,U,U,.d (.list (zA aa ((mget v2.2 e4.Number).getD []))),.d (.int .i64 (((mget v2.2 e4.Number).getD []).length:Int)),.d (.int .i64 (i6:Int))]++us 39)) (λv13=>⟨[(cN a0),(cN a0),(cN a0),[.mapc .i64 (zA (ekv (evL aa)) v2.2)],[.mapc .i64 (zA (ekv (evI .i64)) (mput (mput v8.1 e4.Number 1) e4.Number 2))],[.mapc .i64 (zA (ekv (evI .i64)) v8.2.1)],[.mapc .i64 (zA (ekv (evI .i64)) v8.2.2)],[.mapc .i64 (zA (ekv (evL aa)) [])],[.mp 3,.mp 4,.mp 5,.mp 6,.mp 7],(cM e4),(cJ e6)],[(50,v2.1.length),(2,v5.length)]⟩) (λ_=>rfl) ?_ ?_) h
 refine .cond rfl (λh17=>?_) (λh17=>?_)
 refine .region λe h=>?_
 simp only[seval,EMB,eInt,eList,ap]
 cases h
 simp only[seval,FMB,eInt,eList,ap,Tryz.results139]
 refine .seqK (.regionW λe h=>regW.alt 6 rfl ?_)
 simp only[seval,EMB,ah,w_eq,fld_233_2,sz_230,ag_230,eInt,eList,ap]
 refine bz rfl rfl rfl (by simp only[mapT,und_230,und_2]) gR rfl (regW.of ?_)
 simp only[seval,EMB,ah,w_eq,mg_I,eInt,eList,ap]
 refine mU e (.regionW λe h=>regW.alt 7 rfl ?_) h
 simp only[seval,EMB,ah,w_eq,fld_233_3,sz_231,ag_231,eInt,eList,ap]
 refine bz rfl rfl rfl (by simp only[mapT,und_231,und_2]) kH rfl (regW.of ?_)
 simp only[seval,EMB,ah,w_eq,mg_I,eInt,eList,ap]
 cases h
 simp only[seval,FMB,eInt,eList,ap,Tryz.results139]
 intro v13
 refine Mir.toK (.region λe h=>?_)
 simp only[seval,EMB,eInt,eList,ap]
 refine mU e (.region λe h=>?_) h
 simp only[seval,EMB,eInt,eList,ap]
 cases h
 simp only[seval,FMB,eInt,eList,ap,Tryz.results139,q18]
 intro v12 q19
 refine .sR λe h=>?_
 simp only[seval,EMB,q19,eInt,eList,ap]
 refine mU e (.seqK (.condF rfl (.exit λe h=>?_))) h
 cases h
 simp only[seval,FMB,eInt,eList,ap,Tryz.results139]
 intro v14
 refine Mir.toK (.sR λe h=>?_)
 simp only[seval,EMB,eInt,eList,ap]
 refine mU e (.ret λe h=>?_) h
 cases h
 simp only[seval,FMB,eInt,eList,ap,Tryz.results139]
 simp only[seval,EMB,ah,w_eq,eInt,eList,ap]
 refine⟨rfl,?_⟩
 refine regV.moveB (j:=18) (by kernel_rfl) rfl rfl rfl ?_
 simp only[seval,EMB,ah,w_eq,eInt,eList,ap]
 refine regV.extB (j:=19) (by kernel_rfl) rfl rfl rfl rfl rfl ?_
 simp only[seval,EMB,ah,w_eq,eInt,eList,ap]
 refine regV.extB (j:=20) (by kernel_rfl) rfl rfl rfl rfl rfl ?_
 simp only[seval,EMB,ah,w_eq,eInt,eList,ap]
 refine regV.one (j:=21) (by kernel_rfl) rfl (regW.alt 0 rfl ?_)
 simp only[seval,EMB,ah,w_eq,eInt,eList,ap]
 refine cm (et:=3) rfl rfl rfl rfl (by simp only[mapT,und_230,und_2]) (regW.of ?_)
 simp only[seval,EMB,ah,w_eq,mp_I,eInt,eList,ap]
 refine⟨rfl,?_⟩
 refine regV.one (j:=22) (by kernel_rfl) rfl (regW.alt 0 rfl ?_)
 simp only[seval,EMB,ah,w_eq,eInt,eList,ap]
 refine cm (et:=2) rfl rfl rfl rfl (by simp only[mapT,und_231,und_2]) (regW.of ?_)
 simp only[seval,EMB,ah,w_eq,mp_I,eInt,eList,ap]
 refine⟨rfl,?_⟩
 exact regV.nil (by kernel_rfl) ⟨by first | rfl | simp only[seval,FMB,eInt,eList,ap,xMA,xLA],by first | rfl | simp only[seval,FMB,eInt,eList,ap,xMA,xLA]⟩
 refine mU e (.sR λe h=>?_) h
 simp only[seval,EMB,eInt,eList,ap]
 refine mU e (.ret λe h=>?_) h
 cases h
 simp only[seval,FMB,eInt,eList,ap,Tryz.results166]
 simp only[seval,EMB,eInt,eList,ap]
 refine mU e (.cond rfl (λh18=>?_) (λh18=>?_)) h
 exact Mir.no
 refine .skip (Mir.toB (Mir.toK (.region λe h=>?_)))
 simp only[seval,EMB,eInt,eList,ap]
 cases h
 simp only[seval,FMB,eInt,eList,ap,Tryz.results138,q13]
 intro v8 q20
 refine .sR λe h=>?_
 simp only[seval,EMB,q20,eInt,eList,ap]
 refine mU e (.seqK (.condF rfl (.exit λe h=>?_))) h
 cases h
 simp only[seval,FMB,eInt,eList,ap,Tryz.results138]
 intro v17
 refine Mir.toK (.sR λe h=>?_)
 simp only[seval,EMB,eInt,eList,ap]
 refine mU e (.ret λe h=>?_) h
 cases h
 simp only[seval,FMB,eInt,eList,ap,Tryz.results138]
 simp only[seval,EMB,eInt,eList,ap]
 refine mU e (.seqK (.sR λe h=>?_)) h
 simp only[seval,EMB,(nr rfl:((0:Int) != 0)=false),eInt,eList,ap]
 refine mU e (.condF rfl (.skip (Mir.toK (.seqK (.bind λv22 h19=>.region λe h=>?_))))) h
 simp only[seval,EMB,de,sz_50,ag_50,eInt,eList,ap]
 refine SpecS.inl Tryz.func139 rfl (by kernel_rfl) (by kernel_rfl) (λv22:Int×Int=>.tuple [.d (.int .i64 v22.1),.d (.int .i64 v22.2)]) (λv22=>⟨[(cN a0),(cN a0),(cN a0),[.mapc .i64 (zA (ekv (evL aa)) v18.1)],[.mapc .i64 (zA (ekv (evI .i64)) v18.2.1)],[.mapc .i64 (zA (ekv (evI .i64)) v18.2.2.1)],[.mapc .i64 (zA (ekv (evI .i64)) v18.2.2.2)],[.mapc .i64 (zA (ekv (evL aa)) [])],[.mp 3,.mp 4,.mp 5,.mp 6,.mp 7]],[]⟩) h19 rfl ?_ ?_
 simp only[zB,zD,nS,nA,Tryz.ntmps139,SV]
 refine .sR λe h=>?_
 simp only[seval,EMB,eInt,eList,ap]
 refine mU e (.sR λe h=>?_) h
 simp only[seval,EMB,eInt,eList,ap]
 refine mU e (.seqK (.sR λe h=>?_)) h
 simp only[seval,EMB,aE,eInt,eList,ap]
 refine mU e (Mir.joinO (λv21:Int×Int=>([U,U,U,U,U,U,.d (.int .i64 v21.1),.d (.int .i64 v21.2)]++us 48)) (λv21=>⟨[(cN a0),(cN a0),(cN a0),[.mapc .i64 (zA (ekv (evL aa)) v18.1)],[.mapc .i64 (zA (ekv (evI .i64)) v18.2.1)],[.mapc .i64 (zA (ekv (evI .i64)) v18.2.2.1)],[.mapc .i64 (zA (ekv (evI .i64)) v18.2.2.2)],[.mapc .i64 (zA (ekv (evL aa)) [])],[.mp 3,.mp 4,.mp 5,.mp 6,.mp 7]],[]⟩) (λ_=>rfl) ?_ ?_) h
 refine .block (.guard λq21=>Mir.range (λ(i7:Nat) (v19:Int×Int)=>([.ptr 8 0,U,U,U,U,U,.d (.int .i64 v19.1),.d (.int .i64 v19.2),U,U,U,U,U,U,.d (.list (zA aa a0.Main)),.d (.int .i64 (a0.Main.length:Int)),.d (.int .i64 (i7:Int))]++us 39)) (λi7 v19=>⟨[(cN a0),(cN a0),(cN a0),[.mapc .i64 (zA (ekv (evL aa)) v18.1)],[.mapc .i64 (zA (ekv (evI .i64)) v18.2.1)],[.mapc .i64 (zA (ekv (evI .i64)) v18.2.2.1)],[.mapc .i64 (zA (ekv (evI .i64)) v18.2.2.2)],[.mapc .i64 (zA (ekv (evL aa)) [])],[.mp 3,.mp 4,.mp 5,.mp 6,.mp 7]],[]⟩) q21 (λ_ _=>rfl) (by simp only[seval,FMB,eInt,eList,ap,zNI]) (by simp only[seval,FMB,eInt,eList,ap,zNI]) ?_ ?_)
 intro i7 e7 v19 q22
 refine .sR λe h=>?_
 simp only[seval,EMB,q22,eInt,eList,ap]
 refine mU e (.seqK (.condT rfl (.skip (Mir.toK (.seqK (.block (.sR λe h=>?_))))))) h
 simp only[seval,EMB,aE,sz_58,q22,zF,ag_58,aC,eInt,eList,ap]
 refine mU e (.seqK (.bind λy6 h20=>.region λe h=>?_)) h
 simp only[seval,EMB,ag_58,sz_58,eInt,eList,ap]
 refine SpecS.by (ee h20) (by simp only[seval,FMB,eInt,eList,ap]) ?_
 simp only[seval,EMB,eInt,eList,ap]
 refine mU e (.seqK (.sR λe h=>?_)) h
 simp only[seval,EMB,eInt,eList,ap]
 refine mU e (Mir.joinO (λv20:Int×Int=>([.ptr 8 0,U,U,U,U,U,.d (.int .i64 v20.1),.d (.int .i64 v20.2),U,U,U,U,U,U,.d (.list (zA aa a0.Main)),.d (.int .i64 (a0.Main.length:Int)),.d (.int .i64 (i7:Int))]++us 39)) (λv20=>⟨[(cN a0),(cN a0),(cN a0),[.mapc .i64 (zA (ekv (evL aa)) v18.1)],[.mapc .i64 (zA (ekv (evI .i64)) v18.2.1)],[.mapc .i64 (zA (ekv (evI .i64)) v18.2.2.1)],[.mapc .i64 (zA (ekv (evI .i64)) v18.2.2.2)],[.mapc .i64 (zA (ekv (evL aa)) [])],[.mp 3,.mp 4,.mp 5,.mp 6,.mp 7],(cJ e7)],[]⟩) (λ_=>rfl) ?_ ?_) h
 refine .cond rfl (λh21=>?_) (λh21=>?_)
 refine .region λe h=>?_
 simp only[seval,EMB,eInt,eList,ap]
 cases h
 simp only[seval,FMB,eInt,eList,ap,Tryz.results139]
 refine .seqK (.regionW λe h=>regW.alt 6 rfl ?_)
 simp only[seval,EMB,ah,w_eq,fld_233_2,sz_230,ag_230,eInt,eList,ap]
 refine bz rfl rfl rfl (by simp only[mapT,und_230,und_2]) gR rfl (regW.of ?_)
 simp only[seval,EMB,ah,w_eq,mg_I,eInt,eList,ap]
 refine mU e (.regionW λe h=>regW.alt 7 rfl ?_) h
 simp only[seval,EMB,ah,w_eq,fld_233_3,sz_231,ag_231,eInt,eList,ap]
 refine bz rfl rfl rfl (by simp only[mapT,und_231,und_2]) kH rfl (regW.of ?_)
 simp only[seval,EMB,ah,w_eq,mg_I,eInt,eList,ap]
 cases h
 simp only[seval,FMB,eInt,eList,ap,Tryz.results139]
 intro v20
 refine Mir.toK (.region λe h=>?_)
 simp only[seval,EMB,eInt,eList,ap]
 refine mU e (.region λe h=>?_) h
 simp only[seval,EMB,eInt,eList,ap]
 cases h
 simp only[seval,FMB,eInt,eList,ap,Tryz.results139,q22]
 intro v19 q23
 refine .sR λe h=>?_
 simp only[seval,EMB,q23,eInt,eList,ap]
 refine mU e (.seqK (.condF rfl (.exit λe h=>?_))) h
 cases h
 simp only[seval,FMB,eInt,eList,ap,Tryz.results139]
 intro v21
 refine Mir.toK (.sR λe h=>?_)
 simp only[seval,EMB,eInt,eList,ap]
 refine mU e (.ret λe h=>?_) h
 cases h
 simp only[seval,FMB,eInt,eList,ap,Tryz.results139]
 simp only[seval,EMB,eInt,eList,ap]
 refine mU e (.seqK (.seqK (.joinV [U,U,U,U,U,.ptr 8 0,U,U,.d (.int .i64 v22.2),U,U,U,U,U,U,U,U,U,U,U,U,U,U,U,U,U,U,U,U,.d (.bool ((decide (v22.1>8))||(decide (v22.2>20000)))),U,U] ⟨[(cN a0),(cN a0),(cN a0),[.mapc .i64 (zA (ekv (evL aa)) v18.1)],[.mapc .i64 (zA (ekv (evI .i64)) v18.2.1)],[.mapc .i64 (zA (ekv (evI .i64)) v18.2.2.1)],[.mapc .i64 (zA (ekv (evI .i64)) v18.2.2.2)],[.mapc .i64 (zA (ekv (evL aa)) [])],[.mp 3,.mp 4,.mp 5,.mp 6,.mp 7]],[]⟩ rfl ?_ ?_))) h
 refine SWs.region ?_
 rcases zE (decide (v22.1>8))with h22 | h22
 simp only[seval,EMB,SL,PB,h22,eInt,eList,ap]
 simp only[seval,EMB,SL,PB,h22,eInt,eList,ap]
 refine Mir.toK (.cond rfl (λh23=>?_) (λh23=>?_))
 exact Mir.no
 refine .skip (Mir.toK (.sR λe h=>?_))
 simp only[seval,EMB,eInt,eList,ap]
 refine mU e (.ret λe h=>?_) h
 cases h
 simp only[seval,FMB,eInt,eList,ap,Tryz.results88]
 simp only[seval,EMB,eInt,eList,ap]
 refine mU e (.seqK (.sR λe h=>?_)) h
 simp only[seval,EMB,(nr rfl:((0:Int) != 0)=false),eInt,eList,ap]
 refine mU e (.condF rfl (.skip (Mir.toK (.sR λe h=>?_)))) h
 simp only[seval,EMB,eInt,eList,ap]
 refine mU e (.seqK (.seqK (.bind λv34 h24=>.region λe h=>?_))) h
 simp only[seval,EMB,de,sz_50,ag_50,eInt,eList,ap]
 refine SpecS.inl Tryz.func89 rfl (by kernel_rfl) (by kernel_rfl) (λv34:(List ac)×(List (Int×(List ac)))=>.own 0 (zA aa v34.1)) (λv34=>⟨[(cN a0),(cN a0),(cN a0),[.mapc .i64 (zA (ekv (evL aa)) v23.2.1)],[.mapc .i64 (zA (ekv (evI .i64)) v23.2.2.1)],[.mapc .i64 (zA (ekv (evI .i64)) v23.2.2.2.1)],[.mapc .i64 (zA (ekv (evI .i64)) v23.2.2.2.2)],[.mapc .i64 (zA (ekv (evL aa)) v34.2)],[.mp 3,.mp 4,.mp 5,.mp 6,.mp 7]],[(58,v34.1.length)]⟩) h24 rfl ?_ ?_
 simp only[zB,zD,nS,nA,Tryz.ntmps89,SV]
 refine .sR λe h=>?_
 simp only[seval,EMB,eInt,eList,ap]
 refine mU e (.sR λe h=>?_) h
 simp only[seval,EMB,eInt,eList,ap]
 refine mU e (.seqK (.sR λe h=>?_)) h
 simp only[seval,EMB,aE,eInt,eList,ap]
 refine mU e (.gh [.slot 5 58] rfl (Mir.joinO (λv33:(List ac)×(List (Int×(List ac)))=>([U,U,U,U,U,.own 0 (zA aa v33.1)]++us 64)) (λv33=>⟨[(cN a0),(cN a0),(cN a0),[.mapc .i64 (zA (ekv (evL aa)) v23.2.1)],[.mapc .i64 (zA (ekv (evI .i64)) v23.2.2.1)],[.mapc .i64 (zA (ekv (evI .i64)) v23.2.2.2.1)],[.mapc .i64 (zA (ekv (evI .i64)) v23.2.2.2.2)],[.mapc .i64 (zA (ekv (evL aa)) v33.2)],[.mp 3,.mp 4,.mp 5,.mp 6,.mp 7]],[(58,v33.1.length)]⟩) (λ_=>rfl) ?_ ?_)) h
 refine .block (.guard λq24=>Mir.range (λ(i8:Nat) (v24:(List ac)×(List (Int×(List ac))))=>([.ptr 8 0,U,U,U,U,.own 0 (zA aa v24.1),U,U,U,U,U,U,U,U,.d (.list (zA aa a0.Main)),.d (.int .i64 (a0.Main.length:Int)),.d (.int .i64 (i8:Int))]++us 53)) (λi8 v24=>⟨[(cN a0),(cN a0),(cN a0),[.mapc .i64 (zA (ekv (evL aa)) v23.2.1)],[.mapc .i64 (zA (ekv (evI .i64)) v23.2.2.1)],[.mapc .i64 (zA (ekv (evI .i64)) v23.2.2.2.1)],[.mapc .i64 (zA (ekv (evI .i64)) v23.2.2.2.2)],[.mapc .i64 (zA (ekv (evL aa)) v24.2)],[.mp 3,.mp 4,.mp 5,.mp 6,.mp 7]],[(58,v24.1.length)]⟩) q24 (λ_ _=>rfl) (by simp only[seval,FMB,eInt,eList,ap,zNI]) (by simp only[seval,FMB,eInt,eList,ap,zNI]) ?_ ?_)
 intro i8 e8 v24 q25
 refine .sR λe h=>?_
 simp only[seval,EMB,q25,eInt,eList,ap]
 refine mU e (.seqK (.condT rfl (.skip (Mir.toK (.seqK (Mir.joinO (λv32:(List ac)×(List (Int×(List ac)))=>([.ptr 8 0,U,U,U,U,.own 0 (zA aa v32.1),U,U,U,U,U,U,U,U,.d (.list (zA aa a0.Main)),.d (.int .i64 (a0.Main.length:Int)),.d (.int .i64 (i8:Int))]++us 53)) (λv32=>⟨[(cN a0),(cN a0),(cN a0),[.mapc .i64 (zA (ekv (evL aa)) v23.2.1)],[.mapc .i64 (zA (ekv (evI .i64)) v23.2.2.1)],[.mapc .i64 (zA (ekv (evI .i64)) v23.2.2.2.1)],[.mapc .i64 (zA (ekv (evI .i64)) v23.2.2.2.2)],[.mapc .i64 (zA (ekv (evL aa)) v32.2)],[.mp 3,.mp 4,.mp 5,.mp 6,.mp 7]],[(58,v32.1.length)]⟩) (λ_=>rfl) ?_ ?_)))))) h
 refine .block (.sR λe h=>?_)
 simp only[seval,EMB,aE,sz_58,q25,zF,ag_58,aC,eInt,eList,ap]
 refine mU e (.seqK (.bind λy7 h25=>.region λe h=>?_)) h
 simp only[seval,EMB,ag_58,sz_58,eInt,eList,ap]
 refine SpecS.by (ee h25) (by simp only[seval,FMB,eInt,eList,ap]) ?_
 simp only[seval,EMB,eInt,eList,ap]
 refine mU e (.seqK (.sR λe h=>?_)) h
 simp only[seval,EMB,eInt,eList,ap]
 refine mU e (.cond rfl (λh26=>?_) (λh26=>?_)) h
 refine .seqK (.guard λq26=>.region λe h=>?_)
 simp only[seval,EMB,ag_58,sz_58,aE,aC,(oL 3),bh,ba,q26,eInt,eList,ap]
 refine mU e (.exit λe h=>?_) h
 cases h
 simp only[seval,FMB,eInt,eList,ap,Tryz.results89]
 refine .skip (Mir.toK (.seqK (.regionW λe h=>regW.alt 5 rfl ?_)))
 simp only[seval,EMB,ah,w_eq,fld_233_4,kL,ag_229,eInt,eList,ap]
 refine j8 rfl rfl rfl (by simp only[mapT,jB,und_2]) iB rfl (regW.of ?_)
 simp only[seval,EMB,ah,w_eq,mg_L,mis_kv,eInt,eList,ap]
 refine mU e (.seqK (.sR λe h=>?_)) h
 simp only[seval,EMB,eInt,eList,ap]
 refine mU e (Mir.joinO (λv30:(List ac)×(List (Int×(List ac)))=>([.ptr 8 0,U,U,U,U,.own 0 (zA aa v24.1),U,U,U,.d (.int .i64 y7.2.1),U,U,.d (.list (zA aa v30.1)),U,.d (.list (zA aa a0.Main)),.d (.int .i64 (a0.Main.length:Int)),.d (.int .i64 (i8:Int))]++us 53)) (λv30=>⟨[(cN a0),(cN a0),(cN a0),[.mapc .i64 (zA (ekv (evL aa)) v23.2.1)],[.mapc .i64 (zA (ekv (evI .i64)) v23.2.2.1)],[.mapc .i64 (zA (ekv (evI .i64)) v23.2.2.2.1)],[.mapc .i64 (zA (ekv (evI .i64)) v23.2.2.2.2)],[.mapc .i64 (zA (ekv (evL aa)) v30.2)],[.mp 3,.mp 4,.mp 5,.mp 6,.mp 7],(cJ e8)],[(58,v24.1.length)]⟩) (λ_=>rfl) ?_ ?_) h
 refine .cond rfl (λh27=>?_) (λh27=>?_)
 refine .seqK (.bind λv29 h28=>.regionW λe h=>regW.alt 6 rfl ?_)
 simp only[seval,EMB,ah,w_eq,iv,kL,ag_229,eInt,eList,ap]
 refine bz rfl rfl rfl (by simp only[mapT,jB,und_2]) iB rfl (regW.of ?_)
 simp only[seval,EMB,ah,w_eq,mg_L,eInt,eList,ap]
 refine SpecS.inl Tryz.func89 rfl (by kernel_rfl) (by kernel_rfl) (λv29:(List ac)=>.own 1 (zA aa v29)) (λv29=>⟨[(cN a0),(cN a0),(cN a0),[.mapc .i64 (zA (ekv (evL aa)) v23.2.1)],[.mapc .i64 (zA (ekv (evI .i64)) v23.2.2.1)],[.mapc .i64 (zA (ekv (evI .i64)) v23.2.2.2.1)],[.mapc .i64 (zA (ekv (evI .i64)) v23.2.2.2.2)],[.mapc .i64 (zA (ekv (evL aa)) v24.2)],[.mp 3,.mp 4,.mp 5,.mp 6,.mp 7],(cJ e8)],[(58,v24.1.length),(58,v29.length)]⟩) h28 rfl ?_ ?_
 simp only[zB,zD,nS,nA,Tryz.ntmps89,SV]
 refine .sR λe h=>?_
 simp only[seval,EMB,eInt,eList,ap]
 refine mU e (.sR λe h=>?_) h
 simp only[seval,EMB,eInt,eList,ap]
 refine mU e (.seqK (.sR λe h=>?_)) h
 simp only[seval,EMB,aE,eInt,eList,ap]
 refine mU e (.gh [.slot 5 58] rfl (Mir.joinO (λv28:(List ac)=>([U,U,U,U,U,.own 1 (zA aa v28)]++us 64)) (λv28=>⟨[(cN a0),(cN a0),(cN a0),[.mapc .i64 (zA (ekv (evL aa)) v23.2.1)],[.mapc .i64 (zA (ekv (evI .i64)) v23.2.2.1)],[.mapc .i64 (zA (ekv (evI .i64)) v23.2.2.2.1)],[.mapc .i64 (zA (ekv (evI .i64)) v23.2.2.2.2)],[.mapc .i64 (zA (ekv (evL aa)) v24.2)],[.mp 3,.mp 4,.mp 5,.mp 6,.mp 7],(cJ e8)],[(58,v24.1.length),(58,v28.length)]⟩) (λ_=>rfl) ?_ ?_)) h
 refine .block (.guard λq27=>Mir.range (λ(i9:Nat) (v25:(List ac))=>([.ptr 8 0,U,U,U,U,.own 1 (zA aa v25),U,U,U,U,U,U,U,U,.d (.list (zA aa ((mget v23.2.1 y7.1).getD []))),.d (.int .i64 (((mget v23.2.1 y7.1).getD []).length:Int)),.d (.int .i64 (i9:Int))]++us 53)) (λi9 v25=>⟨[(cN a0),(cN a0),(cN a0),[.mapc .i64 (zA (ekv (evL aa)) v23.2.1)],[.mapc .i64 (zA (ekv (evI .i64)) v23.2.2.1)],[.mapc .i64 (zA (ekv (evI .i64)) v23.2.2.2.1)],[.mapc .i64 (zA (ekv (evI .i64)) v23.2.2.2.2)],[.mapc .i64 (zA (ekv (evL aa)) v24.2)],[.mp 3,.mp 4,.mp 5,.mp 6,.mp 7],(cJ e8)],[(58,v24.1.length),(58,v25.length)]⟩) q27 (λ_ _=>rfl) (by simp only[seval,FMB,eInt,eList,ap,zNI]) (by simp only[seval,FMB,eInt,eList,ap,zNI]) ?_ ?_)
 intro i9 e9 v25 q28
 refine .sR λe h=>?_
 simp only[seval,EMB,q28,eInt,eList,ap]
 refine mU e (.seqK (.condT rfl (.skip (Mir.toK (.seqK (Mir.joinO (λv27:(List ac)=>([.ptr 8 0,U,U,U,U,.own 1 (zA aa v27),U,U,U,U,U,U,U,U,.d (.list (zA aa ((mget v23.2.1 y7.1).getD []))),.d (.int .i64 (((mget v23.2.1 y7.1).getD []).length:Int)),.d (.int .i64 (i9:Int))]++us 53)) (λv27=>⟨[(cN a0),(cN a0),(cN a0),[.mapc .i64 (zA (ekv (evL aa)) v23.2.1)],[.mapc .i64 (zA (ekv (evI .i64)) v23.2.2.1)],[.mapc .i64 (zA (ekv (evI .i64)) v23.2.2.2.1)],[.mapc .i64 (zA (ekv (evI .i64)) v23.2.2.2.2)],[.mapc .i64 (zA (ekv (evL aa)) v24.2)],[.mp 3,.mp 4,.mp 5,.mp 6,.mp 7],(cJ e8)],[(58,v24.1.length),(58,v27.length)]⟩) (λ_=>rfl) ?_ ?_)))))) h
 refine .block (.sR λe h=>?_)
 simp only[seval,EMB,aE,sz_58,q28,zF,ag_58,aC,eInt,eList,ap]
 refine mU e (.seqK (.bind λy8 h29=>.region λe h=>?_)) h
 simp only[seval,EMB,ag_58,sz_58,eInt,eList,ap]
 refine SpecS.by (ee h29) (by simp only[seval,FMB,eInt,eList,ap]) ?_
 simp only[seval,EMB,eInt,eList,ap]
 refine mU e (.seqK (.sR λe h=>?_)) h
 simp only[seval,EMB,eInt,eList,ap]
 refine mU e (.cond rfl (λh30=>?_) (λh30=>?_)) h
 refine .seqK (.guard λq29=>.region λe h=>?_)
 simp only[seval,EMB,ag_58,sz_58,aE,aC,(oL 3),bh,ba,q29,eInt,eList,ap]
 refine mU e (.exit λe h=>?_) h
 cases h
 simp only[seval,FMB,eInt,eList,ap,Tryz.results89]
 refine .skip (Mir.toK (.seqK (.regionW λe h=>regW.alt 5 rfl ?_)))
 simp only[seval,EMB,ah,w_eq,fld_233_4,kL,ag_229,eInt,eList,ap]
 refine j8 rfl rfl rfl (by simp only[mapT,jB,und_2]) iB rfl (regW.of ?_)
 simp only[seval,EMB,ah,w_eq,mg_L,mis_kv,eInt,eList,ap]
 refine mU e (.seqK (.sR λe h=>?_)) h
 simp only[seval,EMB,eInt,eList,ap]
 refine mU e (.cond rfl (λh31=>?_) (λh31=>?_)) h
 exact Mir.no
 refine .skip (Mir.toK (.seqK (.sR λe h=>?_)))
 simp only[seval,EMB,aE,eInt,eList,ap]
 refine mU e (.cond rfl (λh32=>?_) (λh32=>?_)) h
 refine .exit λe h=>?_
 cases h
 simp only[seval,FMB,eInt,eList,ap,Tryz.results89]
 refine .skip (Mir.toK (.sR λe h=>?_))
 simp only[seval,EMB,eInt,eList,ap]
 refine mU e (.block (Mir.loop (λv26:(List ac)×Int=>([.ptr 8 0,U,U,U,U,.own 1 (zA aa v26.1),U,U,U,U,U,U,.d (.list (zA aa ((mget v24.2 y8.1).getD []))),U,.d (.list (zA aa ((mget v23.2.1 y7.1).getD []))),.d (.int .i64 (((mget v23.2.1 y7.1).getD []).length:Int)),.d (.int .i64 (i9:Int)),U,U,U,U,U,U,U,U,U,U,U,U,U,U,U,U,U,U,U,U,U,U,U,U,U,U,U,U,U,U,U,U,U,U,U,U,U,U,U,U,U,U,U,U,.d (.int .i64 y8.2.1),.d (.int .i64 v26.2)]++us 7)) (λv26=>⟨[(cN a0),(cN a0),(cN a0),[.mapc .i64 (zA (ekv (evL aa)) v23.2.1)],[.mapc .i64 (zA (ekv (evI .i64)) v23.2.2.1)],[.mapc .i64 (zA (ekv (evI .i64)) v23.2.2.2.1)],[.mapc .i64 (zA (ekv (evI .i64)) v23.2.2.2.2)],[.mapc .i64 (zA (ekv (evL aa)) v24.2)],[.mp 3,.mp 4,.mp 5,.mp 6,.mp 7],(cJ e8),(cJ e9)],[(58,v24.1.length),(58,v26.1.length)]⟩) (λ_=>rfl) (by simp only[seval,FMB,eInt,eList,ap]) (by simp only[seval,FMB,eInt,eList,ap]) λv26=>.sR λe h=>?_)) h
 simp only[seval,EMB,eInt,eList,ap]
 refine mU e (.seqK (.cond rfl (λh33=>?_) (λh33=>?_))) h
 refine .skip (Mir.toK (.seqK (.block (.guard λq30=>.region λe h=>?_))))
 simp only[seval,EMB,bh,ba,q30,eInt,eList,ap]
 refine mU e (.region λe h=>?_) h
 simp only[seval,EMB,eInt,eList,ap]
 cases h
 simp only[seval,FMB,eInt,eList,ap,Tryz.results89]
 refine .exit λe h=>?_
 cases h
 simp only[seval,FMB,eInt,eList,ap,Tryz.results89]
 intro v27
 refine Mir.toK (.region λe h=>?_)
 simp only[seval,EMB,eInt,eList,ap]
 cases h
 simp only[seval,FMB,eInt,eList,ap,Tryz.results89,q28]
 intro v25 q31
 refine .sR λe h=>?_
 simp only[seval,EMB,q31,eInt,eList,ap]
 refine mU e (.seqK (.condF rfl (.exit λe h=>?_))) h
 cases h
 simp only[seval,FMB,eInt,eList,ap,Tryz.results89]
 intro v28
 refine Mir.toK (.sR λe h=>?_)
 simp only[seval,EMB,eInt,eList,ap]
 refine mU e (.ret λe h=>?_) h
 cases h
 simp only[seval,FMB,eInt,eList,ap,Tryz.results89]
 simp only[seval,EMB,ah,w_eq,eInt,eList,ap]
 refine mU e (.regionW λe h=>regW.alt 6 rfl ?_) h
 simp only[seval,EMB,ah,w_eq,fld_233_4,kL,ag_229,eInt,eList,ap]
 refine cm (et:=50) rfl rfl rfl rfl (by simp only[mapT,jB,und_2]) (regW.of ?_)
 simp only[seval,EMB,ah,w_eq,mp_L,eInt,eList,ap]
 cases h
 simp only[seval,FMB,eInt,eList,ap,Tryz.results89]
 refine .skip λe h=>?_
 cases h
 simp only[seval,FMB,eInt,eList,ap,Tryz.results89]
 intro v30
 refine Mir.toK (.seqK (.sR λe h=>?_))
 simp only[seval,EMB,aE,eInt,eList,ap]
 refine mU e (.cond rfl (λh34=>?_) (λh34=>?_)) h
 refine .exit λe h=>?_
 cases h
 simp only[seval,FMB,eInt,eList,ap,Tryz.results89]
 refine .skip (Mir.toK (.sR λe h=>?_))
 simp only[seval,EMB,eInt,eList,ap]
 refine mU e (.block (Mir.loop (λv31:(List ac)×Int=>([.ptr 8 0,U,U,U,U,.own 0 (zA aa v31.1),U,U,U,U,U,U,.d (.list (zA aa v30.1)),U,.d (.list (zA aa a0.Main)),.d (.int .i64 (a0.Main.length:Int)),.d (.int .i64 (i8:Int)),U,U,U,U,U,U,U,U,U,U,U,U,U,U,U,U,U,U,U,U,U,U,U,U,U,U,U,U,U,U,U,U,U,U,U,U,U,U,U,U,U,U,U,U,.d (.int .i64 y7.2.1),.d (.int .i64 v31.2)]++us 7)) (λv31=>⟨[(cN a0),(cN a0),(cN a0),[.mapc .i64 (zA (ekv (evL aa)) v23.2.1)],[.mapc .i64 (zA (ekv (evI .i64)) v23.2.2.1)],[.mapc .i64 (zA (ekv (evI .i64)) v23.2.2.2.1)],[.mapc .i64 (zA (ekv (evI .i64)) v23.2.2.2.2)],[.mapc .i64 (zA (ekv (evL aa)) v30.2)],[.mp 3,.mp 4,.mp 5,.mp 6,.mp 7],(cJ e8)],[(58,v31.1.length)]⟩) (λ_=>rfl) (by simp only[seval,FMB,eInt,eList,ap]) (by simp only[seval,FMB,eInt,eList,ap]) λv31=>.sR λe h=>?_)) h
 simp only[seval,EMB,eInt,eList,ap]
 refine mU e (.seqK (.cond rfl (λh35=>?_) (λh35=>?_))) h
 refine .skip (Mir.toK (.seqK (.block (.guard λq32=>.region λe h=>?_))))
 simp only[seval,EMB,bh,ba,q32,eInt,eList,ap]
 refine mU e (.region λe h=>?_) h
 simp only[seval,EMB,eInt,eList,ap]
 cases h
 simp only[seval,FMB,eInt,eList,ap,Tryz.results89]
 refine .exit λe h=>?_
 cases h
 simp only[seval,FMB,eInt,eList,ap,Tryz.results89]
 intro v32
 refine Mir.toK (.region λe h=>?_)
 simp only[seval,EMB,eInt,eList,ap]
 cases h
 simp only[seval,FMB,eInt,eList,ap,Tryz.results89,q25]
 intro v24 q33
 refine .sR λe h=>?_
 simp only[seval,EMB,q33,eInt,eList,ap]
 refine mU e (.seqK (.condF rfl (.exit λe h=>?_))) h
 cases h
 simp only[seval,FMB,eInt,eList,ap,Tryz.results89]
 intro v33
 refine Mir.toK (.sR λe h=>?_)
 simp only[seval,EMB,eInt,eList,ap]
 refine mU e (.ret λe h=>?_) h
 cases h
 simp only[seval,FMB,eInt,eList,ap,Tryz.results89]
 simp only[seval,EMB,aE,eInt,eList,ap]
 refine mU e (.gh [.slot 7 58] rfl (Mir.joinO (λv36:(List ac)=>([U,U,U,U,U,U,U,.own 1 (zA aa v36)]++us 30)) (λv36=>⟨[(cN a0),(cN a0),(cN a0),[.mapc .i64 (zA (ekv (evL aa)) v23.2.1)],[.mapc .i64 (zA (ekv (evI .i64)) v23.2.2.1)],[.mapc .i64 (zA (ekv (evI .i64)) v23.2.2.2.1)],[.mapc .i64 (zA (ekv (evI .i64)) v23.2.2.2.2)],[.mapc .i64 (zA (ekv (evL aa)) v34.2)],[.mp 3,.mp 4,.mp 5,.mp 6,.mp 7]],[(58,v34.1.length),(58,v36.length)]⟩) (λ_=>rfl) ?_ ?_)) h
 refine .block (.guard λq34=>Mir.range (λ(i10:Nat) (v35:(List ac))=>([U,U,U,U,U,U,U,.own 1 (zA aa v35),U,U,U,U,U,U,U,U,U,U,U,U,U,U,.own 0 (zA aa v34.1),.d (.int .i64 (v34.1.length:Int)),.d (.int .i64 (i10:Int))]++us 13)) (λi10 v35=>⟨[(cN a0),(cN a0),(cN a0),[.mapc .i64 (zA (ekv (evL aa)) v23.2.1)],[.mapc .i64 (zA (ekv (evI .i64)) v23.2.2.1)],[.mapc .i64 (zA (ekv (evI .i64)) v23.2.2.2.1)],[.mapc .i64 (zA (ekv (evI .i64)) v23.2.2.2.2)],[.mapc .i64 (zA (ekv (evL aa)) v34.2)],[.mp 3,.mp 4,.mp 5,.mp 6,.mp 7]],[(58,v34.1.length),(58,v35.length)]⟩) q34 (λ_ _=>rfl) (by simp only[seval,FMB,eInt,eList,ap,zNI]) (by simp only[seval,FMB,eInt,eList,ap,zNI]) ?_ ?_)
 intro i10 e10 v35 q35
 refine .sR λe h=>?_
 simp only[seval,EMB,q35,eInt,eList,ap]
 refine mU e (.seqK (.condT rfl (.skip (Mir.toK (.seqK (.block (.sR λe h=>?_))))))) h
 simp only[seval,EMB,aE,sz_58,q35,zF,ag_58,aC,eInt,eList,ap]
 refine mU e (.seqK (.bind λy9 h36=>.region λe h=>?_)) h
 simp only[seval,EMB,bL,sz_56,ag_56,eInt,eList,ap]
 refine SpecS.by (d7 h36) (by simp only[seval,FMB,eInt,eList,ap]) ?_
 simp only[seval,EMB,bL,sz_56,eInt,eList,ap]
 refine mU e (.guard λq36=>.region λe h=>?_) h
 simp only[seval,EMB,ag_58,sz_58,aE,aC,(oL 3),bh,ba,q36,eInt,eList,ap]
 refine mU e (.region λe h=>?_) h
 simp only[seval,EMB,eInt,eList,ap]
 cases h
 simp only[seval,FMB,eInt,eList,ap,Tryz.results40,q35]
 intro v35 q37
 refine .sR λe h=>?_
 simp only[seval,EMB,q37,eInt,eList,ap]
 refine mU e (.seqK (.condF rfl (.exit λe h=>?_))) h
 cases h
 simp only[seval,FMB,eInt,eList,ap,Tryz.results40]
 intro v36
 refine Mir.toK (.sR λe h=>?_)
 simp only[seval,EMB,eInt,eList,ap]
 refine mU e (.ret λe h=>?_) h
 cases h
 simp only[seval,FMB,eInt,eList,ap,Tryz.results40]
def iY(a0:ac):Option Int:=bindX (aF (okIdx a0.Words) ( aU (λ(i1:Nat) (e1:ay) (v1:(List (Int×Bool))×(List (Int×Bool)))=>bindX (bindX (if (e1.Letter==71)=true then bindO (iW e1.Value) λ(y1:Int)=>bindO (if (y1==0)=true then some true else some ((mget v1.2 y1).getD false)) λ(v2:Bool)=>if v2=true then some (.ret (.ret (.ret (.ret 1))))else some (.ret (.go (v1.1,mput v1.2 y1 true)))else if (e1.Letter==70)=true then if (decide (e1.Value<0))=true then some (.ret (.ret (.ret (.ret 1))))else some (.go ())else bindO (if (e1.Letter==84)=true then some (e1.Letter==84)else some (e1.Letter==72)) λ(v3:Bool)=>if v3=true then if ((decide (e1.Value<0))||((zI e1.Value 1000) != 0))=true then some (.ret (.ret (.ret (.ret 1))))else some (.go ())else some (.go ())) λ(v4:Unit)=>if ((mget v1.1 e1.Letter).getD false)=true then some (.ret (.ret (.ret 1)))else some (.go (mput v1.1 e1.Letter true,v1.2))) λ(v5:(List (Int×Bool))×(List (Int×Bool)))=>some (.go (v5.1,v5.2))) (λ(v1:(List (Int×Bool))×(List (Int×Bool)))=>some (.go (v1.1,v1.2))) a0.Words 0 ([],[]))) λ(v6:(List (Int×Bool))×(List (Int×Bool)))=>some 0
theorem iX{a0:ac}{y:Int}(h:iY a0=some y):Spec gP 98 [.agg (cJ a0)] (.d (.int .i64 y)):=by
 refine aB Tryz.func98 rfl (by kernel_rfl) (by kernel_rfl) (λy:Int=>.d (.int .i64 y)) ?_ h
 unfold iY
 simp only[zB,zD,nS,nA,Tryz.ntmps98,SV]
 refine .sR λe h=>?_
 simp only[seval,EMB]
 refine mU e (.seqK (.regionW λe h=>regW.alt 0 rfl ?_)) h
 simp only[seval,EMB,ah,w_eq]
 refine dE .u8 (regW.of ?_)
 simp only[seval,EMB,ah,w_eq,xMN]
 refine mU e (.seqK (.regionW λe h=>regW.alt 0 rfl ?_)) h
 simp only[seval,EMB,ah,w_eq]
 refine dE .i64 (regW.of ?_)
 simp only[seval,EMB,ah,w_eq,xMN]
 refine mU e (.seqK (.sR λe h=>?_)) h
 simp only[seval,EMB,bL,sz_56,ag_56,br]
 refine mU e (Mir.join (λv6:(List (Int×Bool))×(List (Int×Bool))=>(us 58)) (λv6=>⟨[(cJ a0),[.mapc .u8 (zA (ekv evB) v6.1)],[.mapc .i64 (zA (ekv evB) v6.2)]],[]⟩) (λ_=>rfl) ?_ ?_) h
 refine .block (.guard λq1=>Mir.range (λ(i1:Nat) (v1:(List (Int×Bool))×(List (Int×Bool)))=>([U,U,U,.mp 1,.mp 2,U,U,U,U,U,U,.d (.list (zA ar a0.Words)),.d (.int .i64 (a0.Words.length:Int)),.d (.int .i64 (i1:Int))]++us 44)) (λi1 v1=>⟨[(cJ a0),[.mapc .u8 (zA (ekv evB) v1.1)],[.mapc .i64 (zA (ekv evB) v1.2)]],[]⟩) q1 (λ_ _=>rfl) (by simp only[seval,FMB,zNI]) (by simp only[seval,FMB,zNI]) ?_ ?_)
 intro i1 e1 v1 q2
 refine .sR λe h=>?_
 simp only[seval,EMB,q2]
 refine mU e (.seqK (.condT rfl (.skip (Mir.toK (.seqK (Mir.join (λv5:(List (Int×Bool))×(List (Int×Bool))=>([U,U,U,.mp 1,.mp 2,U,U,U,U,U,U,.d (.list (zA ar a0.Words)),.d (.int .i64 (a0.Words.length:Int)),.d (.int .i64 (i1:Int))]++us 44)) (λv5=>⟨[(cJ a0),[.mapc .u8 (zA (ekv evB) v5.1)],[.mapc .i64 (zA (ekv evB) v5.2)]],[]⟩) (λ_=>rfl) ?_ ?_)))))) h
 refine .block (.sR λe h=>?_)
 simp only[seval,EMB,br,bP,q2,zF,ju,bk]
 refine mU e (.seqK (.sR λe h=>?_)) h
 simp only[seval,EMB,cr,sz_5,ag_5]
 refine mU e (Mir.join (λv4:Unit=>([U,U,U,.mp 1,.mp 2,U,.ptr 3 0,U,U,U,U,.d (.list (zA ar a0.Words)),.d (.int .i64 (a0.Words.length:Int)),.d (.int .i64 (i1:Int))]++us 44)) (λv4=>⟨[(cJ a0),[.mapc .u8 (zA (ekv evB) v1.1)],[.mapc .i64 (zA (ekv evB) v1.2)],(cL e1)],[]⟩) (λ_=>rfl) ?_ ?_) h
 refine .block (.sR λe h=>?_)
 simp only[seval,EMB]
 refine mU e (.cond rfl (λh1=>?_) (λh1=>?_)) h
 refine .seqK (.bind λy1 h2=>.region λe h=>?_)
 simp only[seval,EMB,bu,sz_2,ag_2]
 refine SpecS.by (bN h2) (by simp only[seval,FMB]) ?_
 simp only[seval,EMB]
 refine mU e (.seqK (.seqK (Mir.joinO (λv2:Bool=>([U,U,U,.mp 1,.mp 2,U,U,.d (.int .i64 y1),U,U,U,.d (.list (zA ar a0.Words)),.d (.int .i64 (a0.Words.length:Int)),.d (.int .i64 (i1:Int)),U,U,U,U,U,U,U,U,U,U,U,U,U,U,U,U,.d (.bool v2)]++us 27)) (λv2=>⟨[(cJ a0),[.mapc .u8 (zA (ekv evB) v1.1)],[.mapc .i64 (zA (ekv evB) v1.2)],(cL e1)],[]⟩) (λ_=>rfl) ?_ ?_))) h
 refine .ite (λh3=>?_) (λh3=>?_)
 refine .region λe h=>?_
 simp only[seval,EMB,h3]
 cases h
 simp only[seval,FMB,h3]
 refine .regionW λe h=>regW.alt 5 rfl ?_
 simp only[seval,EMB,ah,w_eq,h3]
 refine bz rfl rfl rfl (by simp only[mapT,und_241,und_3]) zero_4 rfl (regW.of ?_)
 simp only[seval,EMB,ah,w_eq,mg_B,h3]
 cases h
 simp only[seval,FMB,h3]
 intro v2
 refine Mir.toK (.cond rfl (λh4=>?_) (λh4=>?_))
 refine .sR λe h=>?_
 simp only[seval,EMB]
 refine mU e (.ret λe h=>?_) h
 cases h
 simp only[seval,FMB,Tryz.results98]
 refine .skip (Mir.toK (.seqK (.regionW λe h=>regW.alt 2 rfl ?_)))
 simp only[seval,EMB,ah,w_eq]
 refine cm (et:=4) rfl rfl rfl rfl (by simp only[mapT,und_241,und_3]) (regW.of ?_)
 simp only[seval,EMB,ah,w_eq,mp_B]
 refine mU e (.exit λe h=>?_) h
 cases h
 simp only[seval,FMB,Tryz.results98]
 refine .sR λe h=>?_
 simp only[seval,EMB]
 refine mU e (.cond rfl (λh5=>?_) (λh5=>?_)) h
 refine .sR λe h=>?_
 simp only[seval,EMB,bu,sz_2,ag_2]
 refine mU e (.cond rfl (λh6=>?_) (λh6=>?_)) h
 refine .sR λe h=>?_
 simp only[seval,EMB]
 refine mU e (.ret λe h=>?_) h
 cases h
 simp only[seval,FMB,Tryz.results98]
 refine .skip λe h=>?_
 cases h
 simp only[seval,FMB,Tryz.results98]
 refine .seqK (.sR λe h=>?_)
 simp only[seval,EMB]
 refine mU e (Mir.joinO (λv3:Bool=>([U,U,U,.mp 1,.mp 2,U,.ptr 3 0,U,U,U,U,.d (.list (zA ar a0.Words)),.d (.int .i64 (a0.Words.length:Int)),.d (.int .i64 (i1:Int)),U,U,U,U,U,U,U,U,U,U,U,U,U,U,U,U,U,U,U,U,U,U,U,U,.d (.bool v3)]++us 19)) (λv3=>⟨[(cJ a0),[.mapc .u8 (zA (ekv evB) v1.1)],[.mapc .i64 (zA (ekv evB) v1.2)],(cL e1)],[]⟩) (λ_=>rfl) ?_ ?_) h
 refine .cond rfl (λh7=>?_) (λh7=>?_)
 refine .skip λe h=>?_
 cases h
 simp only[seval,FMB,Tryz.results98]
 refine .region λe h=>?_
 simp only[seval,EMB]
 cases h
 simp only[seval,FMB,Tryz.results98]
 intro v3
 refine Mir.toK (.cond rfl (λh8=>?_) (λh8=>?_))
 refine .seqK (.joinV ([U,U,U,.mp 1,.mp 2,U,.ptr 3 0,U,U,U,U,.d (.list (zA ar a0.Words)),.d (.int .i64 (a0.Words.length:Int)),.d (.int .i64 (i1:Int)),U,U,U,U,U,U,U,U,U,U,U,U,U,U,U,U,U,U,U,U,U,U,U,U,U,U,U,U,U,U,U,U,U,U,U,.d (.bool ((decide (e1.Value<0))||((zI e1.Value 1000) != 0)))]++us 8) ⟨[(cJ a0),[.mapc .u8 (zA (ekv evB) v1.1)],[.mapc .i64 (zA (ekv evB) v1.2)],(cL e1)],[]⟩ rfl ?_ ?_)
 refine SWs.region ?_
 rcases zE (decide (e1.Value<0))with h9 | h9
 simp only[seval,EMB,SL,PB,bu,sz_2,ag_2,h9]
 simp only[seval,EMB,SL,PB,bu,sz_2,ag_2,h9]
 refine Mir.toK (.cond rfl (λh10=>?_) (λh10=>?_))
 refine .sR λe h=>?_
 simp only[seval,EMB]
 refine mU e (.ret λe h=>?_) h
 cases h
 simp only[seval,FMB,Tryz.results98]
 refine .skip λe h=>?_
 cases h
 simp only[seval,FMB,Tryz.results98]
 refine .skip λe h=>?_
 cases h
 simp only[seval,FMB,Tryz.results98]
 intro v4
 refine Mir.toK (.seqK (.seqK (.regionW λe h=>regW.alt 3 rfl ?_)))
 simp only[seval,EMB,ah,w_eq,cr,sz_5,ag_5]
 refine bz rfl rfl rfl (by simp only[mapT,und_240,und_5]) zero_4 rfl (regW.of ?_)
 simp only[seval,EMB,ah,w_eq,mg_B]
 refine mU e (.cond rfl (λh11=>?_) (λh11=>?_)) h
 refine .sR λe h=>?_
 simp only[seval,EMB]
 refine mU e (.ret λe h=>?_) h
 cases h
 simp only[seval,FMB,Tryz.results98]
 refine .skip (Mir.toK (.regionW λe h=>regW.alt 3 rfl ?_))
 simp only[seval,EMB,ah,w_eq,cr,sz_5,ag_5]
 refine cm (et:=4) rfl rfl rfl rfl (by simp only[mapT,und_240,und_5]) (regW.of ?_)
 simp only[seval,EMB,ah,w_eq,mp_B]
 cases h
 simp only[seval,FMB,Tryz.results98]
 intro v5
 refine Mir.toK (.region λe h=>?_)
 simp only[seval,EMB]
 cases h
 simp only[seval,FMB,Tryz.results98,q2]
 intro v1 q3
 refine .sR λe h=>?_
 simp only[seval,EMB,q3]
 refine mU e (.seqK (.condF rfl (.exit λe h=>?_))) h
 cases h
 simp only[seval,FMB,Tryz.results98]
 intro v6
 refine Mir.toK (.sR λe h=>?_)
 simp only[seval,EMB]
 refine mU e (.ret λe h=>?_) h
 cases h
 simp only[seval,FMB,Tryz.results98]
def ft(a0:ac):Option Bool:=bindX (aF (okIdx a0.Words) ( aU (λ(i1:Nat) (e1:ay) (v1:Unit)=>bindX (bindO (if (e1.Letter==71)=true then some (e1.Letter==71)else if (e1.Letter==84)=true then some (e1.Letter==84)else if (e1.Letter==70)=true then some (e1.Letter==70)else if (e1.Letter==72)=true then some (e1.Letter==72)else if (e1.Letter==78)=true then some (e1.Letter==78)else if (e1.Letter==88)=true then some (e1.Letter==88)else if (e1.Letter==89)=true then some (e1.Letter==89)else if (e1.Letter==90)=true then some (e1.Letter==90)else if (e1.Letter==73)=true then some (e1.Letter==73)else if (e1.Letter==74)=true then some (e1.Letter==74)else if (e1.Letter==81)=true then some (e1.Letter==81)else some (e1.Letter==82)) λ(v2:Bool)=>if v2=true then some (.go ())else if (e1.Letter==77)=true then bindO (aY [0,1000,3000,4000,5000,6000,8000,9000,30000] e1.Value) λ(y1:Bool)=>if (!y1)=true then some (.ret (.ret (.ret false)))else some (.go ())else if (e1.Letter==83)=true then if (decide (e1.Value<0))=true then some (.ret (.ret (.ret false)))else some (.go ())else some (.ret (.ret (.ret false)))) λ(v3:Unit)=>some (.go ())) (λ(v1:Unit)=>some (.go ())) a0.Words 0 ())) λ(v4:Unit)=>some true
theorem inp_known_spec{a0:ac}{y:Bool}(h:ft a0=some y):Spec gP 99 [.agg (cJ a0)] (.d (.bool y)):=by
 refine aB Tryz.func99 rfl (by kernel_rfl) (by kernel_rfl) (λy:Bool=>.d (.bool y)) ?_ h
 unfold ft
 simp only[zB,zD,nS,nA,Tryz.ntmps99,SV]
 refine .sR λe h=>?_
 simp only[seval,EMB,eInt]
 refine mU e (.seqK (.sR λe h=>?_)) h
 simp only[seval,EMB,bL,sz_56,ag_56,br,eInt]
 refine mU e (Mir.join (λv4:Unit=>(us 40)) (λv4=>⟨[(cJ a0)],[]⟩) (λ_=>rfl) ?_ ?_) h
 refine .block (.guard λq1=>Mir.range (λ(i1:Nat) (v1:Unit)=>([U,U,U,U,U,U,.d (.list (zA ar a0.Words)),.d (.int .i64 (a0.Words.length:Int)),.d (.int .i64 (i1:Int))]++us 31)) (λi1 v1=>⟨[(cJ a0)],[]⟩) q1 (λ_ _=>rfl) (by simp only[seval,FMB,eInt,zNI]) (by simp only[seval,FMB,eInt,zNI]) ?_ ?_)
 intro i1 e1 v1 q2
 refine .sR λe h=>?_
 simp only[seval,EMB,q2,eInt]
 refine mU e (.seqK (.condT rfl (.skip (Mir.toK (.seqK (Mir.join (λv3:Unit=>([U,U,U,U,U,U,.d (.list (zA ar a0.Words)),.d (.int .i64 (a0.Words.length:Int)),.d (.int .i64 (i1:Int))]++us 31)) (λv3=>⟨[(cJ a0)],[]⟩) (λ_=>rfl) ?_ ?_)))))) h
 refine .block (.sR λe h=>?_)
 simp only[seval,EMB,br,bP,q2,zF,ju,bk,eInt]
 refine mU e (.sR λe h=>?_) h
 simp only[seval,EMB,cr,sz_5,ag_5,eInt]
 refine mU e (.block (.seqK (.sR λe h=>?_))) h
 simp only[seval,EMB,eInt]
 refine mU e (Mir.joinO (λv2:Bool=>([U,U,U,U,.ptr 1 0,U,.d (.list (zA ar a0.Words)),.d (.int .i64 (a0.Words.length:Int)),.d (.int .i64 (i1:Int)),U,U,U,U,.d (.int .u8 e1.Letter),.d (.bool v2)]++us 25)) (λv2=>⟨[(cJ a0),(cL e1)],[]⟩) (λ_=>rfl) ?_ ?_) h
 refine .cond rfl (λh1=>?_) (λh1=>?_)
 refine .skip λe h=>?_
 cases h
 simp only[seval,FMB,eInt,Tryz.results99]
 refine .sR λe h=>?_
 simp only[seval,EMB,eInt]
 refine mU e (.cond rfl (λh2=>?_) (λh2=>?_)) h
 refine .skip λe h=>?_
 cases h
 simp only[seval,FMB,eInt,Tryz.results99]
 refine .sR λe h=>?_
 simp only[seval,EMB,eInt]
 refine mU e (.cond rfl (λh3=>?_) (λh3=>?_)) h
 refine .skip λe h=>?_
 cases h
 simp only[seval,FMB,eInt,Tryz.results99]
 refine .sR λe h=>?_
 simp only[seval,EMB,eInt]
 refine mU e (.cond rfl (λh4=>?_) (λh4=>?_)) h
 refine .skip λe h=>?_
 cases h
 simp only[seval,FMB,eInt,Tryz.results99]
 refine .sR λe h=>?_
 simp only[seval,EMB,eInt]
 refine mU e (.cond rfl (λh5=>?_) (λh5=>?_)) h
 refine .skip λe h=>?_
 cases h
 simp only[seval,FMB,eInt,Tryz.results99]
 refine .sR λe h=>?_
 simp only[seval,EMB,eInt]
 refine mU e (.cond rfl (λh6=>?_) (λh6=>?_)) h
 refine .skip λe h=>?_
 cases h
 simp only[seval,FMB,eInt,Tryz.results99]
 refine .sR λe h=>?_
 simp only[seval,EMB,eInt]
 refine mU e (.cond rfl (λh7=>?_) (λh7=>?_)) h
 refine .skip λe h=>?_
 cases h
 simp only[seval,FMB,eInt,Tryz.results99]
 refine .sR λe h=>?_
 simp only[seval,EMB,eInt]
 refine mU e (.cond rfl (λh8=>?_) (λh8=>?_)) h
 refine .skip λe h=>?_
 cases h
 simp only[seval,FMB,eInt,Tryz.results99]
 refine .sR λe h=>?_
 simp only[seval,EMB,eInt]
 refine mU e (.cond rfl (λh9=>?_) (λh9=>?_)) h
 refine .skip λe h=>?_
 cases h
 simp only[seval,FMB,eInt,Tryz.results99]
 refine .sR λe h=>?_
 simp only[seval,EMB,eInt]
 refine mU e (.cond rfl (λh10=>?_) (λh10=>?_)) h
 refine .skip λe h=>?_
 cases h
 simp only[seval,FMB,eInt,Tryz.results99]
 refine .sR λe h=>?_
 simp only[seval,EMB,eInt]
 refine mU e (.cond rfl (λh11=>?_) (λh11=>?_)) h
 refine .skip λe h=>?_
 cases h
 simp only[seval,FMB,eInt,Tryz.results99]
 refine .region λe h=>?_
 simp only[seval,EMB,eInt]
 cases h
 simp only[seval,FMB,eInt,Tryz.results99]
 intro v2
 refine Mir.toK (.cond rfl (λh12=>?_) (λh12=>?_))
 refine .skip λe h=>?_
 cases h
 simp only[seval,FMB,eInt,Tryz.results99]
 refine .sR λe h=>?_
 simp only[seval,EMB,eInt]
 refine mU e (.cond rfl (λh13=>?_) (λh13=>?_)) h
 refine .seqK (.bind λy1 h14=>.region λe h=>?_)
 simp only[seval,EMB,ag_64,sz_64,glT,bu,sz_2,ag_2,eInt]
 refine SpecS.by (bZ h14) (by simp only[seval,FMB,eInt]) ?_
 simp only[seval,EMB,eInt]
 refine mU e (.cond rfl (λh15=>?_) (λh15=>?_)) h
 refine .sR λe h=>?_
 simp only[seval,EMB,eInt]
 refine mU e (.ret λe h=>?_) h
 cases h
 simp only[seval,FMB,eInt,Tryz.results99]
 refine .skip λe h=>?_
 cases h
 simp only[seval,FMB,eInt,Tryz.results99]
 refine .sR λe h=>?_
 simp only[seval,EMB,eInt]
 refine mU e (.cond rfl (λh16=>?_) (λh16=>?_)) h
 refine .sR λe h=>?_
 simp only[seval,EMB,bu,sz_2,ag_2,eInt]
 refine mU e (.cond rfl (λh17=>?_) (λh17=>?_)) h
 refine .sR λe h=>?_
 simp only[seval,EMB,eInt]
 refine mU e (.ret λe h=>?_) h
 cases h
 simp only[seval,FMB,eInt,Tryz.results99]
 refine .skip λe h=>?_
 cases h
 simp only[seval,FMB,eInt,Tryz.results99]
 refine .sR λe h=>?_
 simp only[seval,EMB,eInt]
 refine mU e (.ret λe h=>?_) h
 cases h
 simp only[seval,FMB,eInt,Tryz.results99]
 intro v3
 refine Mir.toK (.region λe h=>?_)
 simp only[seval,EMB,eInt]
 cases h
 simp only[seval,FMB,eInt,Tryz.results99,q2]
 intro v1 q3
 refine .sR λe h=>?_
 simp only[seval,EMB,q3,eInt]
 refine mU e (.seqK (.condF rfl (.exit λe h=>?_))) h
 cases h
 simp only[seval,FMB,eInt,Tryz.results99]
 intro v4
 refine Mir.toK (.sR λe h=>?_)
 simp only[seval,EMB,eInt]
 refine mU e (.ret λe h=>?_) h
 cases h
 simp only[seval,FMB,eInt,Tryz.results99]
def md_put(a0:am)(a1:ay):Option am:=bindO (if (a1.Letter==71)=true then bindO (bindO (iW a1.Value) λ(y1:Int)=>aF (decide (0≤(zK.wrap (y1-1))∧(zK.wrap (y1-1))<5)) ( if ((zK.wrap (y1-1))==0)=true then some (am.mk a1.Value a0.Distance a0.Work a0.Length a0.Return a0.Feed a0.Tool a0.Offset)else if ((zK.wrap (y1-1))==1)=true then some (am.mk a0.Motion a1.Value a0.Work a0.Length a0.Return a0.Feed a0.Tool a0.Offset)else if ((zK.wrap (y1-1))==2)=true then some (am.mk a0.Motion a0.Distance a1.Value a0.Length a0.Return a0.Feed a0.Tool a0.Offset)else if ((zK.wrap (y1-1))==3)=true then some (am.mk a0.Motion a0.Distance a0.Work a1.Value a0.Return a0.Feed a0.Tool a0.Offset)else some (am.mk a0.Motion a0.Distance a0.Work a0.Length a1.Value a0.Feed a0.Tool a0.Offset))) λ(v1:am)=>some v1 else if (a1.Letter==70)=true then some (am.mk a0.Motion a0.Distance a0.Work a0.Length a0.Return a1.Value a0.Tool a0.Offset)else if (a1.Letter==84)=true then some (am.mk a0.Motion a0.Distance a0.Work a0.Length a0.Return a0.Feed a1.Value a0.Offset)else if (a1.Letter==72)=true then some (am.mk a0.Motion a0.Distance a0.Work a0.Length a0.Return a0.Feed a0.Tool a1.Value)else some a0) λ(v2:am)=>some v2
theorem md_put_spec{a0:am}{a1:ay}{y:am}(h:md_put a0 a1=some y):Spec gP 145 [.agg (cA a0),.agg (cL a1)] (.agg [.d (.int .i64 y.Motion),.d (.int .i64 y.Distance),.d (.int .i64 y.Work),.d (.int .i64 y.Length),.d (.int .i64 y.Return),.d (.int .i64 y.Feed),.d (.int .i64 y.Tool),.d (.int .i64 y.Offset)]):=by
 refine aB Tryz.func145 rfl (by kernel_rfl) (by kernel_rfl) (λy:am=>.agg [.d (.int .i64 y.Motion),.d (.int .i64 y.Distance),.d (.int .i64 y.Work),.d (.int .i64 y.Length),.d (.int .i64 y.Return),.d (.int .i64 y.Feed),.d (.int .i64 y.Tool),.d (.int .i64 y.Offset)]) ?_ h
 unfold md_put
 simp only[zB,zD,nS,nA,Tryz.ntmps145,SV]
 refine .sR λe h=>?_
 simp only[seval,EMB,bR]
 refine mU e (.seqK (.sR λe h=>?_)) h
 simp only[seval,EMB,cr,sz_5,ag_5]
 refine mU e (Mir.joinO (λv2:am=>([U,U,.ptr 0 0,U,.ptr 2 0]++us 37)) (λv2=>⟨[(cA v2),(cL a1),[.d (.int .i64 0),.d (.int .i64 0),.d (.int .i64 0),.d (.int .i64 0),.d (.int .i64 0),.d (.int .i64 0),.d (.int .i64 0),.d (.int .i64 0)]],[]⟩) (λ_=>rfl) ?_ ?_) h
 refine .block (.sR λe h=>?_)
 simp only[seval,EMB]
 refine mU e (.cond rfl (λhb12=>?_) (λhb12=>?_)) h
 refine .sR λe h=>?_
 simp only[seval,EMB,cc,sz_2,fld_143_1,fld_143_2,fld_143_3,fld_143_4,und_268,jl,zero_267,(oL 5)]
 refine mU e (Mir.joinO (λv1:am=>([U,U,.ptr 0 0,U,.ptr 2 0]++us 37)) (λv1=>⟨[(cA v1),(cL a1),[.d (.int .i64 0),.d (.int .i64 0),.d (.int .i64 0),.d (.int .i64 0),.d (.int .i64 0),.d (.int .i64 0),.d (.int .i64 0),.d (.int .i64 0)],[.ptr 0 0,.ptr 0 1,.ptr 0 2,.ptr 0 3,.ptr 0 4]],[]⟩) (λ_=>rfl) ?_ ?_) h
 refine .bind λy1 hy13=>.guard λqi14=>.ite (λhb15=>?_) (λhb15=>?_)
 refine .regionD [] (by kernel_rfl) λe h=>?_
 simp only[seval,EMB,SB,bu,sz_2,ag_2,hb15]
 refine Spec.by (bN hy13) (by simp only[seval,FMB,hb15]) ?_
 simp only[seval,EMB,SB,und_268,(eq_of_beq hb15),jl,j9,bu,sz_2,ag_2,hb15]
 cases h
 simp only[seval,FMB,hb15]
 refine .ite (λhb16=>?_) (λhb16=>?_)
 refine .regionD [] (by kernel_rfl) λe h=>?_
 simp only[seval,EMB,SB,bu,sz_2,ag_2,hb15,hb16]
 refine Spec.by (bN hy13) (by simp only[seval,FMB,hb15,hb16]) ?_
 simp only[seval,EMB,SB,und_268,(eq_of_beq hb16),jl,j9,bu,sz_2,ag_2,hb15,hb16]
 cases h
 simp only[seval,FMB,hb15,hb16]
 refine .ite (λhb17=>?_) (λhb17=>?_)
 refine .regionD [] (by kernel_rfl) λe h=>?_
 simp only[seval,EMB,SB,bu,sz_2,ag_2,hb15,hb16,hb17]
 refine Spec.by (bN hy13) (by simp only[seval,FMB,hb15,hb16,hb17]) ?_
 simp only[seval,EMB,SB,und_268,(eq_of_beq hb17),jl,j9,bu,sz_2,ag_2,hb15,hb16,hb17]
 cases h
 simp only[seval,FMB,hb15,hb16,hb17]
 refine .ite (λhb18=>?_) (λhb18=>?_)
 refine .regionD [] (by kernel_rfl) λe h=>?_
 simp only[seval,EMB,SB,bu,sz_2,ag_2,hb15,hb16,hb17,hb18]
 refine Spec.by (bN hy13) (by simp only[seval,FMB,hb15,hb16,hb17,hb18]) ?_
 simp only[seval,EMB,SB,und_268,(eq_of_beq hb18),jl,j9,bu,sz_2,ag_2,hb15,hb16,hb17,hb18]
 cases h
 simp only[seval,FMB,hb15,hb16,hb17,hb18]
 have hz19:zK.wrap (y1-1)=4:=by have h0:=of_decide_eq_true qi14;have h1:=bs hb15;have h2:=bs hb16;have h3:=bs hb17;have h4:=bs hb18;omega
 refine .regionD [] (by kernel_rfl) λe h=>?_
 simp only[seval,EMB,SB,bu,sz_2,ag_2,hb15,hb16,hb17,hb18]
 refine Spec.by (bN hy13) (by simp only[seval,FMB,hb15,hb16,hb17,hb18]) ?_
 simp only[seval,EMB,SB,und_268,hz19,jl,j9,bu,sz_2,ag_2,hb15,hb16,hb17,hb18]
 cases h
 simp only[seval,FMB,hb15,hb16,hb17,hb18]
 intro v1
 intro e h
 cases h
 simp only[seval,FMB,Tryz.results145,bp,aS]
 refine .sR λe h=>?_
 simp only[seval,EMB]
 refine mU e (.cond rfl (λhb20=>?_) (λhb20=>?_)) h
 refine .region λe h=>?_
 simp only[seval,EMB,bu,sz_2,ag_2,iw]
 cases h
 simp only[seval,FMB,Tryz.results145,bp,aS]
 refine .sR λe h=>?_
 simp only[seval,EMB]
 refine mU e (.cond rfl (λhb21=>?_) (λhb21=>?_)) h
 refine .region λe h=>?_
 simp only[seval,EMB,bu,sz_2,ag_2,fld_143_6]
 cases h
 simp only[seval,FMB,Tryz.results145,bp,aS]
 refine .sR λe h=>?_
 simp only[seval,EMB]
 refine mU e (.cond rfl (λhb22=>?_) (λhb22=>?_)) h
 refine .region λe h=>?_
 simp only[seval,EMB,bu,sz_2,ag_2,fld_143_7]
 cases h
 simp only[seval,FMB,Tryz.results145,bp,aS]
 refine .skip λe h=>?_
 cases h
 simp only[seval,FMB,Tryz.results145,bp,aS]
 intro v2
 refine Mir.toK (.sR λe h=>?_)
 simp only[seval,EMB,bp,aS]
 refine mU e (.ret λe h=>?_) h
 cases h
 simp only[seval,FMB,Tryz.results145,bp,aS]
def md_Apply(a0:am)(a1:ac):Option (am×Int):=bindO (iY a1) λ(y1:Int)=>if (y1 != 0)=true then some (am.mk 0 0 0 0 0 0 0 0,y1)else bindO (aF (okIdx a1.Words) ( aU (λ(i1:Nat) (e1:ay) (v1:am)=>bindO (md_put v1 e1) λ(y2:am)=>some (.go y2)) (λ(v1:am)=>some v1) a1.Words 0 a0)) λ(v2:am)=>some (v2,0)
theorem md_Apply_spec{a0:am}{a1:ac}{y:am×Int}(h:md_Apply a0 a1=some y):Spec gP 100 [.agg (cA a0),.agg (cJ a1)] (.tuple [.agg [.d (.int .i64 y.1.Motion),.d (.int .i64 y.1.Distance),.d (.int .i64 y.1.Work),.d (.int .i64 y.1.Length),.d (.int .i64 y.1.Return),.d (.int .i64 y.1.Feed),.d (.int .i64 y.1.Tool),.d (.int .i64 y.1.Offset)],.d (.int .i64 y.2)]):=by
 refine aB Tryz.func100 rfl (by kernel_rfl) (by kernel_rfl) (λy:am×Int=>.tuple [.agg [.d (.int .i64 y.1.Motion),.d (.int .i64 y.1.Distance),.d (.int .i64 y.1.Work),.d (.int .i64 y.1.Length),.d (.int .i64 y.1.Return),.d (.int .i64 y.1.Feed),.d (.int .i64 y.1.Tool),.d (.int .i64 y.1.Offset)],.d (.int .i64 y.2)]) ?_ h
 unfold md_Apply
 simp only[zB,zD,nS,nA,Tryz.ntmps100,SV]
 refine .sR λe h=>?_
 simp only[seval,EMB,bR]
 refine mU e (.seqK (.seqK (.bind λy1 hy1=>.region λe h=>?_))) h
 simp only[seval,EMB,ag_58,sz_58]
 refine SpecS.by (iX hy1) (by simp only[seval,FMB]) ?_
 simp only[seval,EMB]
 refine mU e (.sR λe h=>?_) h
 simp only[seval,EMB]
 refine mU e (.cond rfl (λhb3=>?_) (λhb3=>?_)) h
 refine .sR λe h=>?_
 simp only[seval,EMB,bR,kU,aS]
 refine mU e (.ret λe h=>?_) h
 cases h
 simp only[seval,FMB,Tryz.results100,bp,aS]
 refine .skip (Mir.toK (.seqK (.sR λe h=>?_)))
 simp only[seval,EMB,bL,sz_56,ag_56,br]
 refine mU e (Mir.joinO (λv2:am=>([U,U,.ptr 0 0,U,.ptr 2 0]++us 22)) (λv2=>⟨[(cA v2),(cJ a1),[.d (.int .i64 0),.d (.int .i64 0),.d (.int .i64 0),.d (.int .i64 0),.d (.int .i64 0),.d (.int .i64 0),.d (.int .i64 0),.d (.int .i64 0)]],[]⟩) (λ_=>rfl) ?_ ?_) h
 refine .block (.guard λqg47=>Mir.range (λ(i1:Nat) (v1:am)=>([U,U,.ptr 0 0,U,.ptr 2 0,U,U,U,U,U,U,U,U,U,U,U,.d (.list (zA ar a1.Words)),.d (.int .i64 (a1.Words.length:Int)),.d (.int .i64 (i1:Int))]++us 8)) (λi1 v1=>⟨[(cA v1),(cJ a1),[.d (.int .i64 0),.d (.int .i64 0),.d (.int .i64 0),.d (.int .i64 0),.d (.int .i64 0),.d (.int .i64 0),.d (.int .i64 0),.d (.int .i64 0)]],[]⟩) qg47 (λ_ _=>rfl) (by simp only[seval,FMB,zNI]) (by simp only[seval,FMB,zNI]) ?_ ?_)
 intro i1 e1 v1 qr45
 refine .sR λe h=>?_
 simp only[seval,EMB,qr45]
 refine mU e (.seqK (.condT rfl (.skip (Mir.toK (.seqK (.block (.sR λe h=>?_))))))) h
 simp only[seval,EMB,br,bP,qr45,zF,ju,bk]
 refine mU e (.bind λy2 hy49=>.region λe h=>?_) h
 simp only[seval,EMB,bp,aS,ju,bP]
 refine SpecS.by (md_put_spec hy49) (by simp only[seval,FMB]) ?_
 simp only[seval,EMB,aS]
 refine mU e (.region λe h=>?_) h
 simp only[seval,EMB]
 cases h
 simp only[seval,FMB,Tryz.results100,bp,aS,qr45]
 intro v1 qd46
 refine .sR λe h=>?_
 simp only[seval,EMB,qd46]
 refine mU e (.seqK (.condF rfl (.exit λe h=>?_))) h
 cases h
 simp only[seval,FMB,Tryz.results100,bp,aS]
 intro v2
 refine Mir.toK (.sR λe h=>?_)
 simp only[seval,EMB,bp,aS]
 refine mU e (.ret λe h=>?_) h
 cases h
 simp only[seval,FMB,Tryz.results100,bp,aS]
def dj(a0:Int):Option Bool:=some ((a0==81000)||((a0==82000)||(a0==83000)))
theorem dB{a0:Int}{y:Bool}(h:dj a0=some y):Spec gP 101 [.d (.int .i64 a0)] (.d (.bool y)):=by
 refine aB Tryz.func101 rfl (by kernel_rfl) (by kernel_rfl) (λy:Bool=>.d (.bool y)) ?_ h
 unfold dj
 simp only[zB,zD,nS,nA,Tryz.ntmps101,SV]
 refine .sR λe h=>?_
 simp only[seval,EMB]
 refine mU e (.seqK (.joinV ([U,U,.d (.bool ((a0==81000)||((a0==82000)||(a0==83000))))]++us 10) ⟨[],[]⟩ rfl ?_ ?_)) h
 refine SWs.region ?_
 rcases zE (a0==81000)with hb1 | hb1
 simp only[seval,EMB,SL,PB,hb1]
 rcases zE (a0==82000)with hb2 | hb2
 simp only[seval,EMB,SL,PB,hb1,hb2]
 simp only[seval,EMB,SL,PB,hb1,hb2]
 refine Mir.toK (.ret λe h=>?_)
 cases h
 simp only[seval,FMB,Tryz.results101]
def gK(a0:ac)(a1:Int):Option (Int×Bool):=bindX (aF (okIdx a0.Words) ( aU (λ(i1:Nat) (e1:ay) (v1:Unit)=>if (e1.Letter==a1)=true then some (.ret (.ret (e1.Value,true)))else some (.go ())) (λ(v1:Unit)=>some (.go ())) a0.Words 0 ())) λ(v2:Unit)=>some (0,false)
theorem eh{a0:ac}{a1:Int}{y:Int×Bool}(h:gK a0 a1=some y):Spec gP 19 [.agg (cJ a0),.d (.int .u8 a1)] (.tuple [.d (.int .i64 y.1),.d (.bool y.2)]):=by
 refine aB Tryz.func19 rfl (by kernel_rfl) (by kernel_rfl) (λy:Int×Bool=>.tuple [.d (.int .i64 y.1),.d (.bool y.2)]) ?_ h
 unfold gK
 simp only[zB,zD,nS,nA,Tryz.ntmps19,SV]
 refine .sR λe h=>?_
 simp only[seval,EMB]
 refine mU e (.seqK (.sR λe h=>?_)) h
 simp only[seval,EMB,bL,sz_56,ag_56,br]
 refine mU e (Mir.join (λv2:Unit=>(us 22)) (λv2=>⟨[(cJ a0)],[]⟩) (λ_=>rfl) ?_ ?_) h
 refine .block (.guard λqg51=>Mir.range (λ(i1:Nat) (v1:Unit)=>([U,.d (.int .u8 a1),U,U,U,U,U,U,U,.d (.list (zA ar a0.Words)),.d (.int .i64 (a0.Words.length:Int)),.d (.int .i64 (i1:Int))]++us 10)) (λi1 v1=>⟨[(cJ a0)],[]⟩) qg51 (λ_ _=>rfl) (by simp only[seval,FMB,zNI]) (by simp only[seval,FMB,zNI]) ?_ ?_)
 intro i1 e1 v1 qr49
 refine .sR λe h=>?_
 simp only[seval,EMB,qr49]
 refine mU e (.seqK (.condT rfl (.skip (Mir.toK (.seqK (.block (.sR λe h=>?_))))))) h
 simp only[seval,EMB,br,bP,qr49,zF,ju,bk]
 refine mU e (.sR λe h=>?_) h
 simp only[seval,EMB,cr,sz_5,ag_5]
 refine mU e (.cond rfl (λhb54=>?_) (λhb54=>?_)) h
 refine .sR λe h=>?_
 simp only[seval,EMB,bu,sz_2,ag_2]
 refine mU e (.ret λe h=>?_) h
 cases h
 simp only[seval,FMB,Tryz.results19]
 refine .skip (Mir.toB (Mir.toK (.region λe h=>?_)))
 simp only[seval,EMB]
 cases h
 simp only[seval,FMB,Tryz.results19,qr49]
 intro v1 qd50
 refine .sR λe h=>?_
 simp only[seval,EMB,qd50]
 refine mU e (.seqK (.condF rfl (.exit λe h=>?_))) h
 cases h
 simp only[seval,FMB,Tryz.results19]
 intro v2
 refine Mir.toK (.sR λe h=>?_)
 simp only[seval,EMB]
 refine mU e (.ret λe h=>?_) h
 cases h
 simp only[seval,FMB,Tryz.results19]
def fI(a0:ac)(a1:(List UInt8)):Option Bool:=bindX (aF (okIdx a1) ( aU (λ(i1:Nat) (c1:UInt8) (v1:Unit)=>bindO (gK a0 (c1.toNat:Int)) λ(y1:Int×Bool)=>if y1.2=true then some (.ret (.ret true))else some (.go ())) (λ(v1:Unit)=>some (.go ())) a1 0 ())) λ(v2:Unit)=>some false
theorem bK{a0:ac}{a1:(List UInt8)}{y:Bool}(h:fI a0 a1=some y):Spec gP 102 [.agg (cJ a0),.d (.str a1)] (.d (.bool y)):=by
 refine aB Tryz.func102 rfl (by kernel_rfl) (by kernel_rfl) (λy:Bool=>.d (.bool y)) ?_ h
 unfold fI
 simp only[zB,zD,nS,nA,Tryz.ntmps102,SV]
 refine .sR λe h=>?_
 simp only[seval,EMB]
 refine mU e (.seqK (.sR λe h=>?_)) h
 simp only[seval,EMB,und_9]
 refine mU e (Mir.join (λv2:Unit=>(us 23)) (λv2=>⟨[(cJ a0)],[]⟩) (λ_=>rfl) ?_ ?_) h
 refine .block (.guard λqg65=>Mir.range (λ(i1:Nat) (v1:Unit)=>([U,.d (.str a1),.ptr 0 0,U,U,U,U,U,U,.d (.int .i64 (a1.length:Int)),.d (.int .i64 (i1:Int))]++us 12)) (λi1 v1=>⟨[(cJ a0)],[]⟩) qg65 (λ_ _=>rfl) (by simp only[seval,FMB,zNI]) (by simp only[seval,FMB,zNI]) ?_ ?_)
 intro i1 c1 v1 qr63
 refine .sR λe h=>?_
 simp only[seval,EMB,qr63]
 refine mU e (.seqK (.condT rfl (.skip (Mir.toK (.seqK (.block (.sR λe h=>?_))))))) h
 simp only[seval,EMB]
 refine mU e (.seqK (.bind λy1 hy68=>.regionD [] (by kernel_rfl) λe h=>?_)) h
 simp only[seval,EMB,SB,ag_58,sz_58,und_9,zF,qr63]
 refine Spec.by (eh hy68) (by simp only[seval,FMB]) ?_
 simp only[seval,EMB,SB]
 refine mU e (.sR λe h=>?_) h
 simp only[seval,EMB]
 refine mU e (.cond rfl (λhb70=>?_) (λhb70=>?_)) h
 refine .sR λe h=>?_
 simp only[seval,EMB]
 refine mU e (.ret λe h=>?_) h
 cases h
 simp only[seval,FMB,Tryz.results102]
 refine .skip (Mir.toB (Mir.toK (.region λe h=>?_)))
 simp only[seval,EMB]
 cases h
 simp only[seval,FMB,Tryz.results102,qr63]
 intro v1 qd64
 refine .sR λe h=>?_
 simp only[seval,EMB,qd64]
 refine mU e (.seqK (.condF rfl (.exit λe h=>?_))) h
 cases h
 simp only[seval,FMB,Tryz.results102]
 intro v2
 refine Mir.toK (.sR λe h=>?_)
 simp only[seval,EMB]
 refine mU e (.ret λe h=>?_) h
 cases h
 simp only[seval,FMB,Tryz.results102]
def tb_slot(a0:Int):Option (Int×Int):=if (((zI a0 1000) != 0)||((decide (a0<54000))||(decide (a0>59000))))=true then some (0,4)else some (zK.wrap ((zK.wrap (zG a0 1000))-54),0)
theorem tb_slot_spec{a0:Int}{y:Int×Int}(h:tb_slot a0=some y):Spec gP 109 [.d (.int .i64 a0)] (.tuple [.d (.int .i64 y.1),.d (.int .i64 y.2)]):=by
 refine aB Tryz.func109 rfl (by kernel_rfl) (by kernel_rfl) (λy:Int×Int=>.tuple [.d (.int .i64 y.1),.d (.int .i64 y.2)]) ?_ h
 unfold tb_slot
 simp only[zB,zD,nS,nA,Tryz.ntmps109,SV]
 refine .sR λe h=>?_
 simp only[seval,EMB]
 refine mU e (.seqK (.seqK (.joinV [.d (.int .i64 a0),U,U,U,U,U,U,U,U,U,U,U,U,U,.d (.bool (((zI a0 1000) != 0)||((decide (a0<54000))||(decide (a0>59000))))),U,U,U] ⟨[],[]⟩ rfl ?_ ?_))) h
 refine SWs.region ?_
 rcases zE ((zI a0 1000) != 0)with hb1 | hb1
 simp only[seval,EMB,SL,PB,hb1]
 rcases zE (decide (a0<54000))with hb2 | hb2
 simp only[seval,EMB,SL,PB,hb1,hb2]
 simp only[seval,EMB,SL,PB,hb1,hb2]
 refine Mir.toK (.cond rfl (λhb4=>?_) (λhb4=>?_))
 refine .sR λe h=>?_
 simp only[seval,EMB]
 refine mU e (.ret λe h=>?_) h
 cases h
 simp only[seval,FMB,Tryz.results109]
 refine .skip (Mir.toK (.sR λe h=>?_))
 simp only[seval,EMB]
 refine mU e (.ret λe h=>?_) h
 cases h
 simp only[seval,FMB,Tryz.results109]
def dD(a0:Int):Option Bool:=some (a0 != a0)
theorem fQ{a0:Int}{y:Bool}(h:dD a0=some y):Spec gP 193 [.d (.int .i64 a0)] (.d (.bool y)):=by
 refine aB Tryz.func193 rfl (by kernel_rfl) (by kernel_rfl) (λy:Bool=>.d (.bool y)) ?_ h
 unfold dD
 simp only[zB,zD,nS,nA,Tryz.ntmps193,SV]
 refine .sR λe h=>?_
 simp only[seval,EMB]
 refine mU e (.sR λe h=>?_) h
 simp only[seval,EMB]
 refine mU e (.ret λe h=>?_) h
 cases h
 simp only[seval,FMB,Tryz.results193]
def cY(a0:Int)(a1:Int):Option Int:=bindO (dD a0) λ(y1:Bool)=>bindO (dD a1) λ(y2:Bool)=>if y1=true then if y2=true then some 0 else some (-1)else if y2=true then some 1 else if (decide (a0<a1))=true then some (-1)else if (decide (a0>a1))=true then some 1 else some 0
theorem jA{a0:Int}{a1:Int}{y:Int}(h:cY a0 a1=some y):Spec gP 177 [.d (.int .i64 a0),.d (.int .i64 a1)] (.d (.int .i64 y)):=by
 refine aB Tryz.func177 rfl (by kernel_rfl) (by kernel_rfl) (λy:Int=>.d (.int .i64 y)) ?_ h
 unfold cY
 simp only[zB,zD,nS,nA,Tryz.ntmps177,SV]
 refine .sR λe h=>?_
 simp only[seval,EMB]
 refine mU e (.seqK (.bind λy1 hy1=>.region λe h=>?_)) h
 simp only[seval,EMB]
 refine SpecS.by (fQ hy1) (by simp only[seval,FMB]) ?_
 simp only[seval,EMB]
 refine mU e (.seqK (.bind λy2 hy2=>.region λe h=>?_)) h
 simp only[seval,EMB]
 refine SpecS.by (fQ hy2) (by simp only[seval,FMB]) ?_
 simp only[seval,EMB]
 refine mU e (.seqK (.sR λe h=>?_)) h
 simp only[seval,EMB]
 refine mU e (.cond rfl (λhb6=>?_) (λhb6=>?_)) h
 refine .seqK (.sR λe h=>?_)
 simp only[seval,EMB]
 refine mU e (.cond rfl (λhb8=>?_) (λhb8=>?_)) h
 refine .sR λe h=>?_
 simp only[seval,EMB]
 refine mU e (.ret λe h=>?_) h
 cases h
 simp only[seval,FMB,Tryz.results177]
 refine .skip (Mir.toK (.sR λe h=>?_))
 simp only[seval,EMB]
 refine mU e (.ret λe h=>?_) h
 cases h
 simp only[seval,FMB,Tryz.results177]
 refine .skip (Mir.toK (.seqK (.sR λe h=>?_)))
 simp only[seval,EMB]
 refine mU e (.cond rfl (λhb10=>?_) (λhb10=>?_)) h
 refine .sR λe h=>?_
 simp only[seval,EMB]
 refine mU e (.ret λe h=>?_) h
 cases h
 simp only[seval,FMB,Tryz.results177]
 refine .skip (Mir.toK (.seqK (.sR λe h=>?_)))
 simp only[seval,EMB]
 refine mU e (.cond rfl (λhb12=>?_) (λhb12=>?_)) h
 refine .sR λe h=>?_
 simp only[seval,EMB]
 refine mU e (.ret λe h=>?_) h
 cases h
 simp only[seval,FMB,Tryz.results177]
 refine .skip (Mir.toK (.seqK (.sR λe h=>?_)))
 simp only[seval,EMB]
 refine mU e (.cond rfl (λhb14=>?_) (λhb14=>?_)) h
 refine .sR λe h=>?_
 simp only[seval,EMB]
 refine mU e (.ret λe h=>?_) h
 cases h
 simp only[seval,FMB,Tryz.results177]
 refine .skip (Mir.toK (.sR λe h=>?_))
 simp only[seval,EMB]
 refine mU e (.ret λe h=>?_) h
 cases h
 simp only[seval,FMB,Tryz.results177]
def gi(a0:aX)(a1:Int):Option Int:=bindO (cY a0.Number a1) λ(y1:Int)=>some y1
theorem jE{a0:aX}{a1:Int}{y:Int}(h:gi a0 a1=some y):Spec gP 176 [.agg [.d (.int .i64 a0.Number),.d (.int .i64 a0.Length)],.d (.int .i64 a1)] (.d (.int .i64 y)):=by
 refine aB Tryz.func176 rfl (by kernel_rfl) (by kernel_rfl) (λy:Int=>.d (.int .i64 y)) ?_ h
 unfold gi
 simp only[zB,zD,nS,nA,Tryz.ntmps176,SV]
 refine .sR λe h=>?_
 simp only[seval,EMB]
 refine mU e (.seqK (.bind λy1 hy1=>.region λe h=>?_)) h
 simp only[seval,EMB,ku,sz_2,ag_2]
 refine SpecS.by (jA hy1) (by simp only[seval,FMB]) ?_
 simp only[seval,EMB]
 refine mU e (.ret λe h=>?_) h
 cases h
 simp only[seval,FMB,Tryz.results176]
def tb_find(a0:aw)(a1:Int):Option (Int×Bool):=bindO (bindO (loopX (λ(v1:Int×Int)=>if (decide (v1.1<v1.2))=true then bindO (gt a0.Lengths (zK.wrap (shrI .u64 (IntKind.u64.wrap (zK.wrap (v1.1+v1.2))) 1))) λ(e1:aX)=>bindO (gi e1 a1) λ(y1:Int)=>if (decide (y1<0))=true then some (.go (zK.wrap ((zK.wrap (shrI .u64 (IntKind.u64.wrap (zK.wrap (v1.1+v1.2))) 1))+1),v1.2))else some (.go (v1.1,zK.wrap (shrI .u64 (IntKind.u64.wrap (zK.wrap (v1.1+v1.2))) 1)))else some (.ret v1.1)) fuel (0,(a0.Lengths.length:Int))) λ(v2:Int)=>bindO (if (decide (v2<(a0.Lengths.length:Int)))=true then bindO (gt a0.Lengths v2) λ(e2:aX)=>bindO (gi e2 a1) λ(y2:Int)=>some (y2==0)else some false) λ(v3:Bool)=>some (v2,v3)) λ(v4:Int×Bool)=>some (v4.1,v4.2)
theorem tb_find_spec{a0:aw}{a1:Int}{y:Int×Bool}(h:tb_find a0 a1=some y):Spec gP 149 [.agg (w6 a0.Work [.d (.list (zA av a0.Lengths))]),.d (.int .i64 a1)] (.tuple [.d (.int .i64 y.1),.d (.bool y.2)]):=by
 refine aB Tryz.func149 rfl (by kernel_rfl) (by kernel_rfl) (λy:Int×Bool=>.tuple [.d (.int .i64 y.1),.d (.bool y.2)]) ?_ h
 unfold tb_find
 simp only[zB,zD,nS,nA,Tryz.ntmps149,SV]
 refine .sR λe h=>?_
 simp only[seval,EMB]
 refine mU e (.seqK (.bind λv4 hv34=>.region λe h=>?_)) h
 simp only[seval,EMB,dN,sz_36,ag_36]
 refine SpecS.inl Tryz.func175 rfl (by kernel_rfl) (by kernel_rfl) (λv4:Int×Bool=>.tuple [.d (.int .i64 v4.1),.d (.bool v4.2)]) (λv4=>⟨[(w6 a0.Work [.d (.list (zA av a0.Lengths))])],[]⟩) hv34 rfl ?_ ?_
 simp only[zB,zD,nS,nA,Tryz.ntmps175,SV]
 refine .sR λe h=>?_
 simp only[seval,EMB]
 refine mU e (.sR λe h=>?_) h
 simp only[seval,EMB,fM]
 refine mU e (.sR λe h=>?_) h
 simp only[seval,EMB]
 refine mU e (.seqK (Mir.joinO (λv2:Int=>([.d (.list (zA av a0.Lengths)),.d (.int .i64 a1),.fn 176 [],U,U,U,U,U,.d (.int .i64 (a0.Lengths.length:Int)),.d (.int .i64 v2)]++us 39)) (λv2=>⟨[(w6 a0.Work [.d (.list (zA av a0.Lengths))])],[]⟩) (λ_=>rfl) ?_ ?_)) h
 refine .block (Mir.loop (λv1:Int×Int=>([.d (.list (zA av a0.Lengths)),.d (.int .i64 a1),.fn 176 [],U,U,U,U,U,.d (.int .i64 (a0.Lengths.length:Int)),.d (.int .i64 v1.1),.d (.int .i64 v1.2)]++us 38)) (λv1=>⟨[(w6 a0.Work [.d (.list (zA av a0.Lengths))])],[]⟩) (λ_=>rfl) (by simp only[seval,FMB]) (by simp only[seval,FMB]) λv1=>.seqK (.sR λe h=>?_))
 simp only[seval,EMB]
 refine mU e (.cond rfl (λhb61=>?_) (λhb61=>?_)) h
 refine .skip (Mir.toK (.block (.sR λe h=>?_)))
 simp only[seval,EMB,und_3,und_278]
 refine mU e (.seqK (.bind λe1 q62=>?_)) h
 replace q62:=gt_ok q62
 refine .bind λy1 hy63=>.region λe h=>?_
 simp only[seval,EMB,fM,sz_68,q62,ag_68]
 refine SpecS.by (jE hy63) (by simp only[seval,FMB]) ?_
 simp only[seval,EMB]
 refine mU e (.cond rfl (λhb64=>?_) (λhb64=>?_)) h
 refine .region λe h=>?_
 simp only[seval,EMB]
 cases h
 simp only[seval,FMB,Tryz.results175]
 refine .region λe h=>?_
 simp only[seval,EMB]
 cases h
 simp only[seval,FMB,Tryz.results175]
 refine .exit λe h=>?_
 cases h
 simp only[seval,FMB,Tryz.results175]
 intro v2
 refine Mir.toK (.seqK (Mir.joinO (λv3:Bool=>([U,U,U,U,U,U,.d (.int .i64 v2),.d (.bool v3)]++us 41)) (λv3=>⟨[(w6 a0.Work [.d (.list (zA av a0.Lengths))])],[]⟩) (λ_=>rfl) ?_ ?_))
 refine .ite (λhb65=>?_) (λhb65=>?_)
 refine .bind λe2 q66=>?_
 replace q66:=gt_ok q66
 refine .bind λy2 hy67=>.region λe h=>?_
 simp only[seval,EMB,fM,sz_68,q66,ag_68,hb65]
 refine SpecS.by (jE hy67) (by simp only[seval,FMB,hb65]) ?_
 simp only[seval,EMB,hb65]
 cases h
 simp only[seval,FMB,hb65]
 refine .region λe h=>?_
 simp only[seval,EMB,hb65]
 cases h
 simp only[seval,FMB,hb65]
 intro v3
 refine Mir.toK (.ret λe h=>?_)
 cases h
 simp only[seval,FMB,Tryz.results175]
 simp only[seval,EMB]
 refine mU e (.ret λe h=>?_) h
 cases h
 simp only[seval,FMB,Tryz.results149]
def jD(a0:aw)(a1:Int):Option (Int×Int):=if (a1==0)=true then some (0,0)else bindO (tb_find (aw.mk a0.Work a0.Lengths) a1) λ(y1:Int×Bool)=>if (!y1.2)=true then some (0,4)else bindO (gt a0.Lengths y1.1) λ(e1:aX)=>some (e1.Length,0)
theorem tb_length_spec{a0:aw}{a1:Int}{y:Int×Int}(h:jD a0 a1=some y):Spec gP 110 [.agg (w6 a0.Work [.d (.list (zA av a0.Lengths))]),.d (.int .i64 a1)] (.tuple [.d (.int .i64 y.1),.d (.int .i64 y.2)]):=by
 refine aB Tryz.func110 rfl (by kernel_rfl) (by kernel_rfl) (λy:Int×Int=>.tuple [.d (.int .i64 y.1),.d (.int .i64 y.2)]) ?_ h
 unfold jD
 simp only[zB,zD,nS,nA,Tryz.ntmps110,SV]
 refine .sR λe h=>?_
 simp only[seval,EMB]
 refine mU e (.seqK (.sR λe h=>?_)) h
 simp only[seval,EMB]
 refine mU e (.cond rfl (λhb2=>?_) (λhb2=>?_)) h
 refine .sR λe h=>?_
 simp only[seval,EMB]
 refine mU e (.ret λe h=>?_) h
 cases h
 simp only[seval,FMB,Tryz.results110]
 refine .skip (Mir.toK (.seqK (.bind λy1 hy3=>.region λe h=>?_)))
 simp only[seval,EMB,ag_38,sz_38]
 refine SpecS.by (tb_find_spec hy3) (by simp only[seval,FMB]) ?_
 simp only[seval,EMB]
 refine mU e (.seqK (.sR λe h=>?_)) h
 simp only[seval,EMB]
 refine mU e (.cond rfl (λhb5=>?_) (λhb5=>?_)) h
 refine .sR λe h=>?_
 simp only[seval,EMB]
 refine mU e (.ret λe h=>?_) h
 cases h
 simp only[seval,FMB,Tryz.results110]
 refine .skip (Mir.toK (.seqK (.bind λe1 q6=>?_)))
 replace q6:=gt_ok q6
 refine .region λe h=>?_
 simp only[seval,EMB,dN,sz_36,ag_36,fM,sz_68,q6,fld_68_1,sz_2,ag_2]
 refine mU e (.ret λe h=>?_) h
 cases h
 simp only[seval,FMB,Tryz.results110]
def gv(a0:aw)(a1:Int)(a2:Int):Option (ag×Int):=bindO (ey a0) λ(y1:Int)=>if (y1 != 0)=true then some (ag.mk 0 0 0,y1)else bindO (tb_slot a1) λ(y2:Int×Int)=>bindO (jD (aw.mk a0.Work a0.Lengths) a2) λ(y3:Int×Int)=>if ((y2.2 != 0)||(y3.2 != 0))=true then some (ag.mk 0 0 0,4)else bindO (aF (decide (0≤y2.1∧y2.1<6)) ( if (y2.1==0)=true then some a0.Work.e0 else if (y2.1==1)=true then some a0.Work.e1 else if (y2.1==2)=true then some a0.Work.e2 else if (y2.1==3)=true then some a0.Work.e3 else if (y2.1==4)=true then some a0.Work.e4 else some a0.Work.e5)) λ(v1:ag)=>some (ag.mk v1.X v1.Y (zK.wrap (v1.Z+y3.1)),0)
theorem kJ{a0:aw}{a1:Int}{a2:Int}{y:ag×Int}(h:gv a0 a1 a2=some y):Spec gP 64 [.agg (w6 a0.Work [.d (.list (zA av a0.Lengths))]),.d (.int .i64 a1),.d (.int .i64 a2)] (.tuple [.agg [.d (.int .i64 y.1.X),.d (.int .i64 y.1.Y),.d (.int .i64 y.1.Z)],.d (.int .i64 y.2)]):=by
 refine aB Tryz.func64 rfl (by kernel_rfl) (by kernel_rfl) (λy:ag×Int=>.tuple [.agg [.d (.int .i64 y.1.X),.d (.int .i64 y.1.Y),.d (.int .i64 y.1.Z)],.d (.int .i64 y.2)]) ?_ h
 unfold gv
 simp only[zB,zD,nS,nA,Tryz.ntmps64,SV]
 refine .sR λe h=>?_
 simp only[seval,EMB,bl]
 refine mU e (.seqK (.seqK (.bind λy1 hy1=>.region λe h=>?_))) h
 simp only[seval,EMB,ag_38,sz_38]
 refine SpecS.by (tb_Valid_spec hy1) (by simp only[seval,FMB]) ?_
 simp only[seval,EMB]
 refine mU e (.sR λe h=>?_) h
 simp only[seval,EMB]
 refine mU e (.cond rfl (λhb3=>?_) (λhb3=>?_)) h
 refine .sR λe h=>?_
 simp only[seval,EMB,bl,pl_24,sz_24]
 refine mU e (.ret λe h=>?_) h
 cases h
 simp only[seval,FMB,Tryz.results64,ag_24,sz_24]
 refine .skip (Mir.toK (.seqK (.bind λy2 hy4=>.region λe h=>?_)))
 simp only[seval,EMB]
 refine SpecS.by (tb_slot_spec hy4) (by simp only[seval,FMB]) ?_
 simp only[seval,EMB]
 refine mU e (.seqK (.bind λy3 hy5=>.region λe h=>?_)) h
 simp only[seval,EMB,ag_38,sz_38]
 refine SpecS.by (tb_length_spec hy5) (by simp only[seval,FMB]) ?_
 simp only[seval,EMB]
 refine mU e (.seqK (.seqK (.joinV ([U,U,U,.ptr 0 0,U,U,.ptr 1 0,U,U,.d (.int .i64 y2.1),U,.d (.int .i64 y3.1),U,U,U,U,U,U,U,U,U,U,U,U,U,U,U,U,U,U,U,U,U,U,U,U,.d (.bool ((y2.2 != 0)||(y3.2 != 0)))]++us 11) ⟨[(w6 a0.Work [.d (.list (zA av a0.Lengths))]),[.d (.int .i64 0),.d (.int .i64 0),.d (.int .i64 0)]],[]⟩ rfl ?_ ?_))) h
 refine SWs.region ?_
 rcases zE (y2.2 != 0)with hb6 | hb6
 simp only[seval,EMB,SL,PB,hb6]
 simp only[seval,EMB,SL,PB,hb6]
 refine Mir.toK (.cond rfl (λhb8=>?_) (λhb8=>?_))
 refine .sR λe h=>?_
 simp only[seval,EMB,bl,pl_24,sz_24]
 refine mU e (.ret λe h=>?_) h
 cases h
 simp only[seval,FMB,Tryz.results64,ag_24,sz_24]
 refine .skip (Mir.toK (.seqK (Mir.joinO (λv1:ag=>([U,U,U,U,U,U,.ptr 1 0,U,U,U,U,.d (.int .i64 y3.1),U,.ptr 2 0]++us 34)) (λv1=>⟨[(w6 a0.Work [.d (.list (zA av a0.Lengths))]),[.d (.int .i64 0),.d (.int .i64 0),.d (.int .i64 0)],(cH v1)],[]⟩) (λ_=>rfl) ?_ ?_)))
 refine .guard λqi9=>.ite (λhb10=>?_) (λhb10=>?_)
 refine .region λe h=>?_
 simp only[seval,EMB,g7,sz_35,und_35,(eq_of_beq hb10),sz_24,ag_24,bl,hb10]
 cases h
 simp only[seval,FMB,hb10]
 refine .ite (λhb11=>?_) (λhb11=>?_)
 refine .region λe h=>?_
 simp only[seval,EMB,g7,sz_35,und_35,(eq_of_beq hb11),sz_24,ag_24,bl,hb10,hb11]
 cases h
 simp only[seval,FMB,hb10,hb11]
 refine .ite (λhb12=>?_) (λhb12=>?_)
 refine .region λe h=>?_
 simp only[seval,EMB,g7,sz_35,und_35,(eq_of_beq hb12),sz_24,ag_24,bl,hb10,hb11,hb12]
 cases h
 simp only[seval,FMB,hb10,hb11,hb12]
 refine .ite (λhb13=>?_) (λhb13=>?_)
 refine .region λe h=>?_
 simp only[seval,EMB,g7,sz_35,und_35,(eq_of_beq hb13),sz_24,ag_24,bl,hb10,hb11,hb12,hb13]
 cases h
 simp only[seval,FMB,hb10,hb11,hb12,hb13]
 refine .ite (λhb14=>?_) (λhb14=>?_)
 refine .region λe h=>?_
 simp only[seval,EMB,g7,sz_35,und_35,(eq_of_beq hb14),sz_24,ag_24,bl,hb10,hb11,hb12,hb13,hb14]
 cases h
 simp only[seval,FMB,hb10,hb11,hb12,hb13,hb14]
 have hz15:y2.1=5:=by have h0:=of_decide_eq_true qi9;have h1:=bs hb10;have h2:=bs hb11;have h3:=bs hb12;have h4:=bs hb13;have h5:=bs hb14;omega
 refine .region λe h=>?_
 simp only[seval,EMB,g7,sz_35,und_35,hz15,sz_24,ag_24,bl,hb10,hb11,hb12,hb13,hb14]
 cases h
 simp only[seval,FMB,hb10,hb11,hb12,hb13,hb14]
 intro v1
 refine Mir.toK (.sR λe h=>?_)
 simp only[seval,EMB,cv,sz_2,ag_2]
 refine mU e (.sR λe h=>?_) h
 simp only[seval,EMB,ag_24,sz_24]
 refine mU e (.ret λe h=>?_) h
 cases h
 simp only[seval,FMB,Tryz.results64,ag_24,sz_24]
def eZ(a0:ag)(a1:ag)(a2:Int):Option (ag×Int):=bindO (jk a0) λ(y1:Bool)=>if y1=true then some (ag.mk 0 0 0,11)else bindO (jk (ag.mk (zK.wrap (a0.X+(zK.wrap (a2*a1.X)))) (zK.wrap (a0.Y+(zK.wrap (a2*a1.Y)))) (zK.wrap (a0.Z+(zK.wrap (a2*a1.Z)))))) λ(y2:Bool)=>if y2=true then some (ag.mk 0 0 0,11)else some (ag.mk (zK.wrap (a0.X+(zK.wrap (a2*a1.X)))) (zK.wrap (a0.Y+(zK.wrap (a2*a1.Y)))) (zK.wrap (a0.Z+(zK.wrap (a2*a1.Z)))),0)
theorem tb_moved_spec{a0:ag}{a1:ag}{a2:Int}{y:ag×Int}(h:eZ a0 a1 a2=some y):Spec gP 65 [.agg (cH a0),.agg (cH a1),.d (.int .i64 a2)] (.tuple [.agg [.d (.int .i64 y.1.X),.d (.int .i64 y.1.Y),.d (.int .i64 y.1.Z)],.d (.int .i64 y.2)]):=by
 refine aB Tryz.func65 rfl (by kernel_rfl) (by kernel_rfl) (λy:ag×Int=>.tuple [.agg [.d (.int .i64 y.1.X),.d (.int .i64 y.1.Y),.d (.int .i64 y.1.Z)],.d (.int .i64 y.2)]) ?_ h
 unfold eZ
 simp only[zB,zD,nS,nA,Tryz.ntmps65,SV]
 refine .sR λe h=>?_
 simp only[seval,EMB,bl]
 refine mU e (.seqK (.seqK (.bind λy1 hy1=>.region λe h=>?_))) h
 simp only[seval,EMB,ag_24,sz_24]
 refine SpecS.by (dt hy1) (by simp only[seval,FMB]) ?_
 simp only[seval,EMB]
 refine mU e (.cond rfl (λhb3=>?_) (λhb3=>?_)) h
 refine .sR λe h=>?_
 simp only[seval,EMB,bl,pl_24,sz_24]
 refine mU e (.ret λe h=>?_) h
 cases h
 simp only[seval,FMB,Tryz.results65,ag_24,sz_24]
 refine .skip (Mir.toK (.sR λe h=>?_))
 simp only[seval,EMB,bG,sz_2,ag_2,bM,cv,bl,pl_24,sz_24]
 refine mU e (.seqK (.seqK (.bind λy2 hy4=>.region λe h=>?_))) h
 simp only[seval,EMB,ag_24,sz_24]
 refine SpecS.by (dt hy4) (by simp only[seval,FMB]) ?_
 simp only[seval,EMB]
 refine mU e (.cond rfl (λhb6=>?_) (λhb6=>?_)) h
 refine .sR λe h=>?_
 simp only[seval,EMB,bl,pl_24,sz_24]
 refine mU e (.ret λe h=>?_) h
 cases h
 simp only[seval,FMB,Tryz.results65,ag_24,sz_24]
 refine .skip (Mir.toK (.sR λe h=>?_))
 simp only[seval,EMB,ag_24,sz_24]
 refine mU e (.ret λe h=>?_) h
 cases h
 simp only[seval,FMB,Tryz.results65,ag_24,sz_24]
def iL(a0:aw)(a1:Int)(a2:Int)(a3:ag):Option (ag×Int):=bindO (gv (aw.mk a0.Work a0.Lengths) a1 a2) λ(y1:ag×Int)=>if (y1.2 != 0)=true then some (ag.mk 0 0 0,y1.2)else bindO (eZ a3 y1.1 (-1)) λ(y2:ag×Int)=>some (y2.1,y2.2)
theorem tb_Work_spec{a0:aw}{a1:Int}{a2:Int}{a3:ag}{y:ag×Int}(h:iL a0 a1 a2 a3=some y):Spec gP 32 [.agg (w6 a0.Work [.d (.list (zA av a0.Lengths))]),.d (.int .i64 a1),.d (.int .i64 a2),.agg (cH a3)] (.tuple [.agg [.d (.int .i64 y.1.X),.d (.int .i64 y.1.Y),.d (.int .i64 y.1.Z)],.d (.int .i64 y.2)]):=by
 refine aB Tryz.func32 rfl (by kernel_rfl) (by kernel_rfl) (λy:ag×Int=>.tuple [.agg [.d (.int .i64 y.1.X),.d (.int .i64 y.1.Y),.d (.int .i64 y.1.Z)],.d (.int .i64 y.2)]) ?_ h
 unfold iL
 simp only[zB,zD,nS,nA,Tryz.ntmps32,SV]
 refine .sR λe h=>?_
 simp only[seval,EMB,bl]
 refine mU e (.seqK (.bind λy1 hy1=>.region λe h=>?_)) h
 simp only[seval,EMB,ag_38,sz_38]
 refine SpecS.by (kJ hy1) (by simp only[seval,FMB]) ?_
 simp only[seval,EMB,bl,sz_24]
 refine mU e (.seqK (.sR λe h=>?_)) h
 simp only[seval,EMB]
 refine mU e (.cond rfl (λhb3=>?_) (λhb3=>?_)) h
 refine .sR λe h=>?_
 simp only[seval,EMB,bl,pl_24,sz_24]
 refine mU e (.ret λe h=>?_) h
 cases h
 simp only[seval,FMB,Tryz.results32,ag_24,sz_24]
 refine .skip (Mir.toK (.seqK (.bind λy2 hy4=>.region λe h=>?_)))
 simp only[seval,EMB,ag_24,sz_24]
 refine SpecS.by (tb_moved_spec hy4) (by simp only[seval,FMB]) ?_
 simp only[seval,EMB,sz_24]
 refine mU e (.ret λe h=>?_) h
 cases h
 simp only[seval,FMB,Tryz.results32,ag_24,sz_24]
def eX(a0:am)(a1:ac)(a2:ag):Option ag:=bindO (bindO (bindO (gK a1 88) λ(y1:Int×Bool)=>if (!y1.2)=true then some a2.X else if (a0.Distance==90000)=true then some y1.1 else some (zK.wrap (a2.X+y1.1))) λ(v1:Int)=>bindO (bindO (gK a1 89) λ(y2:Int×Bool)=>if (!y2.2)=true then some a2.Y else if (a0.Distance==90000)=true then some y2.1 else some (zK.wrap (a2.Y+y2.1))) λ(v2:Int)=>bindO (bindO (gK a1 90) λ(y3:Int×Bool)=>if (!y3.2)=true then some a2.Z else if (a0.Distance==90000)=true then some y3.1 else some (zK.wrap (a2.Z+y3.1))) λ(v3:Int)=>some (ag.mk v1 v2 v3)) λ(v4:ag)=>some v4
theorem inp_target_spec{a0:am}{a1:ac}{a2:ag}{y:ag}(h:eX a0 a1 a2=some y):Spec gP 146 [.agg (cA a0),.agg (cJ a1),.agg (cH a2)] (.agg [.d (.int .i64 y.X),.d (.int .i64 y.Y),.d (.int .i64 y.Z)]):=by
 refine aB Tryz.func146 rfl (by kernel_rfl) (by kernel_rfl) (λy:ag=>.agg [.d (.int .i64 y.X),.d (.int .i64 y.Y),.d (.int .i64 y.Z)]) ?_ h
 unfold eX
 simp only[zB,zD,nS,nA,Tryz.ntmps146,SV]
 refine .sR λe h=>?_
 simp only[seval,EMB,bl]
 refine mU e (.seqK (.sR λe h=>?_)) h
 simp only[seval,EMB,bG,sz_2,zero_269,pl_269,bM,cv,und_270,sz_269,(oL 6),(nr rfl:((3:Nat):Int)=3)]
 refine mU e (Mir.joinO (λv4:ag=>([U,U,U,U,U,.ptr 2 0,.ptr 3 0]++us 43)) (λv4=>⟨[(cA a0),(cJ a1),(cH v4),[.d (.int .i64 0),.d (.int .i64 0),.d (.int .i64 0)],[.d (.int .u8 88),.ptr 2 0,.d (.int .u8 89),.ptr 2 1,.d (.int .u8 90),.ptr 2 2]],[]⟩) (λ_=>rfl) ?_ ?_) h
 refine .block (.loopR 15 (.sR λe h=>?_))
 simp only[seval,EMB]
 refine mU e (.seqK (.condT rfl (.skip (Mir.toK (.seqK (Mir.joinO (λv1:Int=>([U,U,U,.ptr 0 0,.ptr 1 0,.ptr 2 0,.ptr 3 0,U,U,U,U,U,U,U,U,U,U,.sl 4 0 3 3,.d (.int .i64 3),.d (.int .i64 0)]++us 30)) (λv1=>⟨[(cA a0),(cJ a1),[.d (.int .i64 v1),.d (.int .i64 a2.Y),.d (.int .i64 a2.Z)],[.d (.int .i64 0),.d (.int .i64 0),.d (.int .i64 0)],[.d (.int .u8 88),.ptr 2 0,.d (.int .u8 89),.ptr 2 1,.d (.int .u8 90),.ptr 2 2]],[]⟩) (λ_=>rfl) ?_ ?_)))))) h
 refine .block (.sR λe h=>?_)
 simp only[seval,EMB,und_270,sz_269,ag_269,zero_269]
 refine mU e (.seqK (.bind λy1 hy22=>.region λe h=>?_)) h
 simp only[seval,EMB,ag_58,sz_58,fld_269_0,sz_5,ag_5]
 refine SpecS.by (eh hy22) (by simp only[seval,FMB]) ?_
 simp only[seval,EMB]
 refine mU e (.block (.sR λe h=>?_)) h
 simp only[seval,EMB]
 refine mU e (.cond rfl (λhb23=>?_) (λhb23=>?_)) h
 refine .skip λe h=>?_
 cases h
 simp only[seval,FMB,Tryz.results146,ag_24,sz_24]
 refine .sR λe h=>?_
 simp only[seval,EMB,fld_143_1,sz_2,ag_2]
 refine mU e (.cond rfl (λhb24=>?_) (λhb24=>?_)) h
 refine .region λe h=>?_
 simp only[seval,EMB,iu,jl,j9,sz_2]
 cases h
 simp only[seval,FMB,Tryz.results146,ag_24,sz_24]
 refine .region λe h=>?_
 simp only[seval,EMB,iu,jl,j9,ag_2,sz_2]
 cases h
 simp only[seval,FMB,Tryz.results146,ag_24,sz_24]
 intro v1
 refine Mir.toK (.region λe h=>?_)
 simp only[seval,EMB,(nr rfl:zK.wrap 1=1)]
 refine Mir.useN (e:=e) ?_ h
 refine .sR λe h=>?_
 simp only[seval,EMB]
 refine mU e (.seqK (.condT rfl (.skip (Mir.toK (.seqK (Mir.joinO (λv2:Int=>([U,U,U,.ptr 0 0,.ptr 1 0,.ptr 2 0,.ptr 3 0,U,U,U,U,U,U,U,U,U,U,.sl 4 0 3 3,.d (.int .i64 3),.d (.int .i64 1)]++us 30)) (λv2=>⟨[(cA a0),(cJ a1),[.d (.int .i64 v1),.d (.int .i64 v2),.d (.int .i64 a2.Z)],[.d (.int .i64 0),.d (.int .i64 0),.d (.int .i64 0)],[.d (.int .u8 88),.ptr 2 0,.d (.int .u8 89),.ptr 2 1,.d (.int .u8 90),.ptr 2 2]],[]⟩) (λ_=>rfl) ?_ ?_)))))) h
 refine .block (.sR λe h=>?_)
 simp only[seval,EMB,und_270,sz_269,ag_269,zero_269]
 refine mU e (.seqK (.bind λy2 hy28=>.region λe h=>?_)) h
 simp only[seval,EMB,ag_58,sz_58,fld_269_0,sz_5,ag_5]
 refine SpecS.by (eh hy28) (by simp only[seval,FMB]) ?_
 simp only[seval,EMB]
 refine mU e (.block (.sR λe h=>?_)) h
 simp only[seval,EMB]
 refine mU e (.cond rfl (λhb29=>?_) (λhb29=>?_)) h
 refine .skip λe h=>?_
 cases h
 simp only[seval,FMB,Tryz.results146,ag_24,sz_24]
 refine .sR λe h=>?_
 simp only[seval,EMB,fld_143_1,sz_2,ag_2]
 refine mU e (.cond rfl (λhb30=>?_) (λhb30=>?_)) h
 refine .region λe h=>?_
 simp only[seval,EMB,iu,jl,j9,sz_2]
 cases h
 simp only[seval,FMB,Tryz.results146,ag_24,sz_24]
 refine .region λe h=>?_
 simp only[seval,EMB,iu,jl,j9,ag_2,sz_2]
 cases h
 simp only[seval,FMB,Tryz.results146,ag_24,sz_24]
 intro v2
 refine Mir.toK (.region λe h=>?_)
 simp only[seval,EMB,(nr rfl:zK.wrap 2=2)]
 refine Mir.useN (e:=e) ?_ h
 refine .sR λe h=>?_
 simp only[seval,EMB]
 refine mU e (.seqK (.condT rfl (.skip (Mir.toK (.seqK (Mir.joinO (λv3:Int=>([U,U,U,.ptr 0 0,.ptr 1 0,.ptr 2 0,.ptr 3 0,U,U,U,U,U,U,U,U,U,U,.sl 4 0 3 3,.d (.int .i64 3),.d (.int .i64 2)]++us 30)) (λv3=>⟨[(cA a0),(cJ a1),[.d (.int .i64 v1),.d (.int .i64 v2),.d (.int .i64 v3)],[.d (.int .i64 0),.d (.int .i64 0),.d (.int .i64 0)],[.d (.int .u8 88),.ptr 2 0,.d (.int .u8 89),.ptr 2 1,.d (.int .u8 90),.ptr 2 2]],[]⟩) (λ_=>rfl) ?_ ?_)))))) h
 refine .block (.sR λe h=>?_)
 simp only[seval,EMB,und_270,sz_269,ag_269,zero_269]
 refine mU e (.seqK (.bind λy3 hy34=>.region λe h=>?_)) h
 simp only[seval,EMB,ag_58,sz_58,fld_269_0,sz_5,ag_5]
 refine SpecS.by (eh hy34) (by simp only[seval,FMB]) ?_
 simp only[seval,EMB]
 refine mU e (.block (.sR λe h=>?_)) h
 simp only[seval,EMB]
 refine mU e (.cond rfl (λhb35=>?_) (λhb35=>?_)) h
 refine .skip λe h=>?_
 cases h
 simp only[seval,FMB,Tryz.results146,ag_24,sz_24]
 refine .sR λe h=>?_
 simp only[seval,EMB,fld_143_1,sz_2,ag_2]
 refine mU e (.cond rfl (λhb36=>?_) (λhb36=>?_)) h
 refine .region λe h=>?_
 simp only[seval,EMB,iu,jl,j9,sz_2]
 cases h
 simp only[seval,FMB,Tryz.results146,ag_24,sz_24]
 refine .region λe h=>?_
 simp only[seval,EMB,iu,jl,j9,ag_2,sz_2]
 cases h
 simp only[seval,FMB,Tryz.results146,ag_24,sz_24]
 intro v3
 refine Mir.toK (.region λe h=>?_)
 simp only[seval,EMB,(nr rfl:zK.wrap 3=3)]
 refine Mir.useN (e:=e) ?_ h
 refine .sR λe h=>?_
 simp only[seval,EMB]
 refine mU e (.seqK (.condF rfl (.exit λe h=>?_))) h
 cases h
 simp only[seval,FMB,Tryz.results146,ag_24,sz_24]
 intro v4
 refine Mir.toK (.sR λe h=>?_)
 simp only[seval,EMB,ag_24,sz_24]
 refine mU e (.ret λe h=>?_) h
 cases h
 simp only[seval,FMB,Tryz.results146,ag_24,sz_24]
def dn(a0:Int)(a1:Int)(a2:ac):Option Int:=bindO (gK a2 a0) λ(y1:Int×Bool)=>if y1.2=true then some y1.1 else some a1
theorem eH{a0:Int}{a1:Int}{a2:ac}{y:Int}(h:dn a0 a1 a2=some y):Spec gP 192 [.d (.int .u8 a0),.d (.int .i64 a1),.iptr [.bool a2.Skip,.list (zA ar a2.Words),.str a2.Comment] 0] (.d (.int .i64 y)):=by
 refine aB Tryz.func192 rfl (by kernel_rfl) (by kernel_rfl) (λy:Int=>.d (.int .i64 y)) ?_ h
 unfold dn
 simp only[zB,zD,nS,nA,Tryz.ntmps192,SV]
 refine .sR λe h=>?_
 simp only[seval,EMB]
 refine mU e (.seqK (.seqK (.bind λy1 hy1=>.region λe h=>?_))) h
 simp only[seval,EMB,ag_58,sz_58]
 refine SpecS.by (eh hy1) (by simp only[seval,FMB]) ?_
 simp only[seval,EMB]
 refine mU e (.sR λe h=>?_) h
 simp only[seval,EMB]
 refine mU e (.cond rfl (λhb3=>?_) (λhb3=>?_)) h
 refine .sR λe h=>?_
 simp only[seval,EMB]
 refine mU e (.ret λe h=>?_) h
 cases h
 simp only[seval,FMB,Tryz.results192]
 refine .skip (Mir.toK (.sR λe h=>?_))
 simp only[seval,EMB]
 refine mU e (.ret λe h=>?_) h
 cases h
 simp only[seval,FMB,Tryz.results192]
def eO(a0:Int):Option Bool:=some ((decide (a0>10000000))||(decide (a0<(-10000000))))
theorem be{a0:Int}{y:Bool}(h:eO a0=some y):Spec gP 58 [.d (.int .i64 a0)] (.d (.bool y)):=by
 refine aB Tryz.func58 rfl (by kernel_rfl) (by kernel_rfl) (λy:Bool=>.d (.bool y)) ?_ h
 unfold eO
 simp only[zB,zD,nS,nA,Tryz.ntmps58,SV]
 refine .sR λe h=>?_
 simp only[seval,EMB]
 refine mU e (.seqK (.joinV ([U,U,.d (.bool ((decide (a0>10000000))||(decide (a0<(-10000000)))))]++us 6) ⟨[],[]⟩ rfl ?_ ?_)) h
 refine SWs.region ?_
 rcases zE (decide (a0>10000000))with hb1 | hb1
 simp only[seval,EMB,SL,PB,hb1]
 simp only[seval,EMB,SL,PB,hb1]
 refine Mir.toK (.ret λe h=>?_)
 cases h
 simp only[seval,FMB,Tryz.results58]
def fe(a0:ak):Option Int:=if (if (a0.Code==83000)=true then (decide (a0.Z≥a0.R))||((decide (a0.R>a0.Initial))||((decide (a0.Rate<1))||((decide (a0.Rate>1000000000000))||(decide (a0.Q≤0)))))else if (a0.Code != 81000)=true then (a0.Code != 82000)||((decide (a0.Z≥a0.R))||((decide (a0.R>a0.Initial))||((decide (a0.Rate<1))||(decide (a0.Rate>1000000000000)))))else (decide (a0.Z≥a0.R))||((decide (a0.R>a0.Initial))||((decide (a0.Rate<1))||(decide (a0.Rate>1000000000000)))))=true then some 1 else bindO (bindO (eO a0.R) λ(y1:Bool)=>if y1=true then some true else bindO (eO a0.Z) λ(y2:Bool)=>if y2=true then some true else bindO (eO a0.Initial) λ(y3:Bool)=>if y3=true then some true else if (a0.Code==83000)=true then bindO (eO a0.Q) λ(y4:Bool)=>some y4 else some false) λ(v1:Bool)=>if v1=true then some 11 else bindO (if (a0.Code==83000)=true then aF (!(a0.Q==0)) ( some (decide ((zK.wrap (zG (zK.wrap ((zK.wrap (a0.R-a0.Z))-1)) a0.Q))>999)))else some false) λ(v2:Bool)=>if v2=true then some 3 else some 0
theorem fZ{a0:ak}{y:Int}(h:fe a0=some y):Spec gP 26 [.agg (cC a0)] (.d (.int .i64 y)):=by
 refine aB Tryz.func26 rfl (by kernel_rfl) (by kernel_rfl) (λy:Int=>.d (.int .i64 y)) ?_ h
 unfold fe
 simp only[zB,zD,nS,nA,Tryz.ntmps26,SV]
 refine .sR λe h=>?_
 simp only[seval,EMB]
 refine mU e (.sR λe h=>?_) h
 simp only[seval,EMB,dc,sz_2,ag_2]
 refine mU e (.seqK (.seqK (.joinV ([U,.ptr 0 0,U,.d (.bool (a0.Code==83000)),U,U,U,U,U,U,U,U,U,U,U,U,U,U,U,U,U,U,U,U,U,U,U,U,U,U,U,U,U,U,U,U,U,U,U,U,U,U,U,U,U,U,U,U,U,U,.d (.bool (if (a0.Code==83000)=true then (decide (a0.Z≥a0.R))||((decide (a0.R>a0.Initial))||((decide (a0.Rate<1))||((decide (a0.Rate>1000000000000))||(decide (a0.Q≤0)))))else if (a0.Code != 81000)=true then (a0.Code != 82000)||((decide (a0.Z≥a0.R))||((decide (a0.R>a0.Initial))||((decide (a0.Rate<1))||(decide (a0.Rate>1000000000000)))))else (decide (a0.Z≥a0.R))||((decide (a0.R>a0.Initial))||((decide (a0.Rate<1))||(decide (a0.Rate>1000000000000))))))]++us 34) ⟨[(cC a0)],[]⟩ rfl ?_ ?_))) h
 refine SWs.region ?_
 rcases zE (a0.Code==83000)with hb1 | hb1
 rcases zE (decide (a0.Z≥a0.R))with hb2 | hb2
 simp only[seval,EMB,SL,PB,bS,sz_2,ag_2,bF,hb1,hb2]
 rcases zE (decide (a0.R>a0.Initial))with hb3 | hb3
 simp only[seval,EMB,SL,PB,bS,sz_2,ag_2,bF,cu,hb1,hb2,hb3]
 rcases zE (decide (a0.Rate<1))with hb4 | hb4
 simp only[seval,EMB,SL,PB,bS,sz_2,ag_2,bF,cu,d5,hb1,hb2,hb3,hb4]
 rcases zE (decide (a0.Rate>1000000000000))with hb5 | hb5
 simp only[seval,EMB,SL,PB,bS,sz_2,ag_2,bF,cu,d5,hb1,hb2,hb3,hb4,hb5]
 simp only[seval,EMB,SL,PB,bS,sz_2,ag_2,bF,cu,d5,jc,hb1,hb2,hb3,hb4,hb5]
 rcases zE (a0.Code != 81000)with hb6 | hb6
 rcases zE (a0.Code != 82000)with hb7 | hb7
 simp only[seval,EMB,SL,PB,dc,sz_2,ag_2,hb1,hb6,hb7]
 rcases zE (decide (a0.Z≥a0.R))with hb8 | hb8
 simp only[seval,EMB,SL,PB,dc,sz_2,ag_2,bS,bF,hb1,hb6,hb7,hb8]
 rcases zE (decide (a0.R>a0.Initial))with hb9 | hb9
 simp only[seval,EMB,SL,PB,dc,sz_2,ag_2,bS,bF,cu,hb1,hb6,hb7,hb8,hb9]
 rcases zE (decide (a0.Rate<1))with hb10 | hb10
 simp only[seval,EMB,SL,PB,dc,sz_2,ag_2,bS,bF,cu,d5,hb1,hb6,hb7,hb8,hb9,hb10]
 rcases zE (decide (a0.Rate>1000000000000))with hb11 | hb11
 simp only[seval,EMB,SL,PB,dc,sz_2,ag_2,bS,bF,cu,d5,hb1,hb6,hb7,hb8,hb9,hb10,hb11]
 simp only[seval,EMB,SL,PB,dc,sz_2,ag_2,bS,bF,cu,d5,hb1,hb6,hb7,hb8,hb9,hb10,hb11]
 rcases zE (decide (a0.Z≥a0.R))with hb12 | hb12
 simp only[seval,EMB,SL,PB,dc,sz_2,ag_2,bS,bF,hb1,hb6,hb12]
 rcases zE (decide (a0.R>a0.Initial))with hb13 | hb13
 simp only[seval,EMB,SL,PB,dc,sz_2,ag_2,bS,bF,cu,hb1,hb6,hb12,hb13]
 rcases zE (decide (a0.Rate<1))with hb14 | hb14
 simp only[seval,EMB,SL,PB,dc,sz_2,ag_2,bS,bF,cu,d5,hb1,hb6,hb12,hb13,hb14]
 rcases zE (decide (a0.Rate>1000000000000))with hb15 | hb15
 simp only[seval,EMB,SL,PB,dc,sz_2,ag_2,bS,bF,cu,d5,hb1,hb6,hb12,hb13,hb14,hb15]
 simp only[seval,EMB,SL,PB,dc,sz_2,ag_2,bS,bF,cu,d5,hb1,hb6,hb12,hb13,hb14,hb15]
 refine Mir.toK (.cond rfl (λhb17=>?_) (λhb17=>?_))
 refine .sR λe h=>?_
 simp only[seval,EMB]
 refine mU e (.ret λe h=>?_) h
 cases h
 simp only[seval,FMB,Tryz.results26]
 refine .skip (Mir.toK (.seqK (.seqK (Mir.joinO (λv1:Bool=>([U,.ptr 0 0,U,.d (.bool (a0.Code==83000)),U,U,U,U,U,U,U,U,U,U,U,U,U,U,U,U,U,U,U,U,U,U,U,U,U,U,U,U,U,U,U,U,U,U,U,U,U,U,U,U,U,U,U,U,U,U,U,U,U,U,U,U,U,U,U,U,U,U,U,U,U,U,U,U,U,U,U,.d (.bool v1)]++us 13)) (λv1=>⟨[(cC a0)],[]⟩) (λ_=>rfl) ?_ ?_))))
 refine .bind λy1 hy18=>.ite (λhb19=>?_) (λhb19=>?_)
 refine .region λe h=>?_
 simp only[seval,EMB,bF,sz_2,ag_2,hb19]
 refine SpecS.by (be hy18) (by simp only[seval,FMB,hb19]) ?_
 simp only[seval,EMB,hb19]
 cases h
 simp only[seval,FMB,hb19]
 refine .bind λy2 hy20=>.ite (λhb21=>?_) (λhb21=>?_)
 refine .region λe h=>?_
 simp only[seval,EMB,bF,sz_2,ag_2,hb19,hb21]
 refine SpecS.by (be hy18) (by simp only[seval,FMB,hb19,hb21]) ?_
 simp only[seval,EMB,bS,sz_2,ag_2,hb19,hb21]
 refine SpecS.by (be hy20) (by simp only[seval,FMB,hb19,hb21]) ?_
 simp only[seval,EMB,hb19,hb21]
 cases h
 simp only[seval,FMB,hb19,hb21]
 refine .bind λy3 hy22=>.ite (λhb23=>?_) (λhb23=>?_)
 refine .region λe h=>?_
 simp only[seval,EMB,bF,sz_2,ag_2,hb19,hb21,hb23]
 refine SpecS.by (be hy18) (by simp only[seval,FMB,hb19,hb21,hb23]) ?_
 simp only[seval,EMB,bS,sz_2,ag_2,hb19,hb21,hb23]
 refine SpecS.by (be hy20) (by simp only[seval,FMB,hb19,hb21,hb23]) ?_
 simp only[seval,EMB,cu,sz_2,ag_2,hb19,hb21,hb23]
 refine SpecS.by (be hy22) (by simp only[seval,FMB,hb19,hb21,hb23]) ?_
 simp only[seval,EMB,hb19,hb21,hb23]
 cases h
 simp only[seval,FMB,hb19,hb21,hb23]
 refine .ite (λhb24=>?_) (λhb24=>?_)
 refine .bind λy4 hy25=>.region λe h=>?_
 simp only[seval,EMB,bF,sz_2,ag_2,hb19,hb21,hb23,hb24]
 refine SpecS.by (be hy18) (by simp only[seval,FMB,hb19,hb21,hb23,hb24]) ?_
 simp only[seval,EMB,bS,sz_2,ag_2,hb19,hb21,hb23,hb24]
 refine SpecS.by (be hy20) (by simp only[seval,FMB,hb19,hb21,hb23,hb24]) ?_
 simp only[seval,EMB,cu,sz_2,ag_2,hb19,hb21,hb23,hb24]
 refine SpecS.by (be hy22) (by simp only[seval,FMB,hb19,hb21,hb23,hb24]) ?_
 simp only[seval,EMB,jc,sz_2,ag_2,hb19,hb21,hb23,hb24]
 refine SpecS.by (be hy25) (by simp only[seval,FMB,hb19,hb21,hb23,hb24]) ?_
 simp only[seval,EMB,hb19,hb21,hb23,hb24]
 cases h
 simp only[seval,FMB,hb19,hb21,hb23,hb24]
 refine .region λe h=>?_
 simp only[seval,EMB,bF,sz_2,ag_2,hb19,hb21,hb23,hb24]
 refine SpecS.by (be hy18) (by simp only[seval,FMB,hb19,hb21,hb23,hb24]) ?_
 simp only[seval,EMB,bS,sz_2,ag_2,hb19,hb21,hb23,hb24]
 refine SpecS.by (be hy20) (by simp only[seval,FMB,hb19,hb21,hb23,hb24]) ?_
 simp only[seval,EMB,cu,sz_2,ag_2,hb19,hb21,hb23,hb24]
 refine SpecS.by (be hy22) (by simp only[seval,FMB,hb19,hb21,hb23,hb24]) ?_
 simp only[seval,EMB,hb19,hb21,hb23,hb24]
 cases h
 simp only[seval,FMB,hb19,hb21,hb23,hb24]
 intro v1
 refine Mir.toK (.cond rfl (λhb27=>?_) (λhb27=>?_))
 refine .sR λe h=>?_
 simp only[seval,EMB]
 refine mU e (.ret λe h=>?_) h
 cases h
 simp only[seval,FMB,Tryz.results26]
 refine .skip (Mir.toK (.seqK (.seqK (Mir.joinO (λv2:Bool=>[U,U,U,U,U,U,U,U,U,U,U,U,U,U,U,U,U,U,U,U,U,U,U,U,U,U,U,U,U,U,U,U,U,U,U,U,U,U,U,U,U,U,U,U,U,U,U,U,U,U,U,U,U,U,U,U,U,U,U,U,U,U,U,U,U,U,U,U,U,U,U,U,U,U,U,U,U,U,U,U,U,U,U,U,.d (.bool v2)]) (λv2=>⟨[(cC a0)],[]⟩) (λ_=>rfl) ?_ ?_))))
 refine .ite (λhb28=>?_) (λhb28=>?_)
 refine .guard λq29=>?_
 replace q29:=ne_of q29
 refine .region λe h=>?_
 simp only[seval,EMB,bF,sz_2,ag_2,bS,jc,q29,hb28]
 cases h
 simp only[seval,FMB,hb28]
 refine .region λe h=>?_
 simp only[seval,EMB,hb28]
 cases h
 simp only[seval,FMB,hb28]
 intro v2
 refine Mir.toK (.cond rfl (λhb31=>?_) (λhb31=>?_))
 refine .sR λe h=>?_
 simp only[seval,EMB]
 refine mU e (.ret λe h=>?_) h
 cases h
 simp only[seval,FMB,Tryz.results26]
 refine .skip (Mir.toK (.sR λe h=>?_))
 simp only[seval,EMB]
 refine mU e (.ret λe h=>?_) h
 cases h
 simp only[seval,FMB,Tryz.results26]
def lp(a0:ac)(a1:Int)(a2:Int)(a3:Int)(a4:Bool)(a5:ak):Option (ak×Int):=bindO (dn 82 a5.R a0) λ(y1:Int)=>bindO (dn 90 a5.Z a0) λ(y2:Int)=>bindO (dn 81 a5.Q a0) λ(y3:Int)=>bindO (dn 70 a2 a0) λ(y4:Int)=>bindO (fe (ak.mk a1 y1 y2 y3 y4 a3 a4)) λ(y5:Int)=>if (y5 != 0)=true then some (ak.mk 0 0 0 0 0 0 false,y5)else some (ak.mk a1 y1 y2 y3 y4 a3 a4,0)
theorem cy_Read_spec{a0:ac}{a1:Int}{a2:Int}{a3:Int}{a4:Bool}{a5:ak}{y:ak×Int}(h:lp a0 a1 a2 a3 a4 a5=some y):Spec gP 173 [.agg (cJ a0),.d (.int .i64 a1),.d (.int .i64 a2),.d (.int .i64 a3),.d (.bool a4),.agg (cC a5)] (.tuple [.agg [.d (.int .i64 y.1.Code),.d (.int .i64 y.1.R),.d (.int .i64 y.1.Z),.d (.int .i64 y.1.Q),.d (.int .i64 y.1.Rate),.d (.int .i64 y.1.Initial),.d (.bool y.1.High)],.d (.int .i64 y.2)]):=by
 refine aB Tryz.func173 rfl (by kernel_rfl) (by kernel_rfl) (λy:ak×Int=>.tuple [.agg [.d (.int .i64 y.1.Code),.d (.int .i64 y.1.R),.d (.int .i64 y.1.Z),.d (.int .i64 y.1.Q),.d (.int .i64 y.1.Rate),.d (.int .i64 y.1.Initial),.d (.bool y.1.High)],.d (.int .i64 y.2)]) ?_ h
 unfold lp
 simp only[zB,zD,nS,nA,Tryz.ntmps173,SV]
 refine .seqK (.regionW λe h=>regW.alt 0 rfl ?_)
 simp only[seval,EMB,ah,w_eq]
 refine alt_boxF [.bool a0.Skip,.list (zA ar a0.Words),.str a0.Comment] _ rfl rfl (regW.of ?_)
 simp only[seval,EMB,ah,w_eq,bH]
 refine mU e (.sR λe h=>?_) h
 simp only[seval,EMB]
 refine mU e (.seqK (.bind λy1 hy1=>.bind λy2 hy2=>.bind λy3 hy3=>.bind λy4 hy4=>.regionD [] (by kernel_rfl) λe h=>?_)) h
 simp only[seval,EMB,SB,bF,sz_2,ag_2]
 refine Spec.by (eH hy1) (by simp only[seval,FMB]) ?_
 simp only[seval,EMB,SB,bS,sz_2,ag_2]
 refine Spec.by (eH hy2) (by simp only[seval,FMB]) ?_
 simp only[seval,EMB,SB,jc,sz_2,ag_2]
 refine Spec.by (eH hy3) (by simp only[seval,FMB]) ?_
 simp only[seval,EMB,SB]
 refine Spec.by (eH hy4) (by simp only[seval,FMB]) ?_
 simp only[seval,EMB,SB,bH,pl_86,sz_86]
 refine mU e (.seqK (.seqK (.bind λy5 hy5=>.region λe h=>?_))) h
 simp only[seval,EMB,ag_86,sz_86]
 refine SpecS.by (fZ hy5) (by simp only[seval,FMB]) ?_
 simp only[seval,EMB]
 refine mU e (.sR λe h=>?_) h
 simp only[seval,EMB]
 refine mU e (.cond rfl (λhb7=>?_) (λhb7=>?_)) h
 refine .sR λe h=>?_
 simp only[seval,EMB,bH,pl_86,sz_86]
 refine mU e (.ret λe h=>?_) h
 cases h
 simp only[seval,FMB,Tryz.results173,ag_86,sz_86]
 refine .skip (Mir.toK (.sR λe h=>?_))
 simp only[seval,EMB,ag_86,sz_86]
 refine mU e (.ret λe h=>?_) h
 cases h
 simp only[seval,FMB,Tryz.results173,ag_86,sz_86]
def fw(a0:ak):Option ((List Int)×Int):=bindO (fe a0) λ(y1:Int)=>if (y1 != 0)=true then some ([],y1)else bindO (if (a0.Code==83000)=true then loopX (λ(v1:(List Int)×Int)=>if (decide (v1.2>a0.Z))=true then aF (okLen (v1.1.length+1)) ( some (.go (v1.1++[v1.2],zK.wrap (v1.2-a0.Q))))else some (.ret v1.1)) fuel ([],zK.wrap (a0.R-a0.Q))else some []) λ(v2:(List Int))=>aF (okLen (v2.length+1)) ( some (v2++[a0.Z],0))
theorem k9{a0:ak}{y:(List Int)×Int}(h:fw a0=some y):Spec gP 27 [.agg (cC a0)] (.tuple [.d (.list (zA (eInt .i64) y.1)),.d (.int .i64 y.2)]):=by
 refine aB Tryz.func27 rfl (by kernel_rfl) (by kernel_rfl) (λy:(List Int)×Int=>.tuple [.d (.list (zA (eInt .i64) y.1)),.d (.int .i64 y.2)]) ?_ h
 unfold fw
 simp only[zB,zD,nS,nA,Tryz.ntmps27,SV]
 refine .sR λe h=>?_
 simp only[seval,EMB,eInt]
 refine mU e (.seqK (.seqK (.bind λy1 hy1=>.region λe h=>?_))) h
 simp only[seval,EMB,ag_86,sz_86,eInt]
 refine SpecS.by (fZ hy1) (by simp only[seval,FMB,eInt]) ?_
 simp only[seval,EMB,eInt]
 refine mU e (.sR λe h=>?_) h
 simp only[seval,EMB,eInt]
 refine mU e (.cond rfl (λhb3=>?_) (λhb3=>?_)) h
 refine .sR λe h=>?_
 simp only[seval,EMB]
 refine mU e (.ret λe h=>?_) h
 cases h
 simp only[seval,FMB,Tryz.results27]
 refine .skip (Mir.toK (.sR λe h=>?_))
 simp only[seval,EMB,eInt]
 refine mU e (.seqK (.sR λe h=>?_)) h
 simp only[seval,EMB,dc,sz_2,ag_2,eInt]
 refine mU e (.gh [.slot 5 2] rfl (Mir.joinO (λv2:(List Int)=>([U,.ptr 0 0,U,U,U,.own 0 (zA (eInt .i64) v2)]++us 31)) (λv2=>⟨[(cC a0)],[(2,v2.length)]⟩) (λ_=>rfl) ?_ ?_)) h
 refine .cond rfl (λhb28=>?_) (λhb28=>?_)
 refine .sR λe h=>?_
 simp only[seval,EMB,bF,sz_2,ag_2,jc,eInt]
 refine mU e (.block (Mir.loop (λv1:(List Int)×Int=>([U,.ptr 0 0,U,U,U,.own 0 (zA (eInt .i64) v1.1),.d (.int .i64 v1.2)]++us 30)) (λv1=>⟨[(cC a0)],[(2,v1.1.length)]⟩) (λ_=>rfl) (by simp only[seval,FMB,eInt]) (by simp only[seval,FMB,eInt]) λv1=>.seqK (.sR λe h=>?_))) h
 simp only[seval,EMB,bS,sz_2,ag_2,eInt]
 refine mU e (.cond rfl (λhb36=>?_) (λhb36=>?_)) h
 refine .skip (Mir.toK (.seqK (.block (.guard λq38=>.region λe h=>?_))))
 simp only[seval,EMB,cn,sz_2,kH,(oL 1),app_64,al_eInt,q38,eInt]
 refine mU e (.region λe h=>?_) h
 simp only[seval,EMB,jc,sz_2,ag_2,eInt]
 cases h
 simp only[seval,FMB,eInt,Tryz.results27]
 refine .exit λe h=>?_
 cases h
 simp only[seval,FMB,eInt,Tryz.results27]
 refine .skip λe h=>?_
 cases h
 simp only[seval,FMB,eInt,Tryz.results27]
 intro v2
 refine Mir.toK (.seqK (.guard λq39=>.region λe h=>?_))
 simp only[seval,EMB,bS,sz_2,ag_2,cn,kH,(oL 1),app_64,al_eInt,q39,eInt]
 refine mU e (.ret λe h=>?_) h
 cases h
 simp only[seval,FMB,eInt,Tryz.results27]
def dX(a0:ak)(a1:ag)(a2:(List aG)):Option ((List au)×Int):=bindO (fw a0) λ(y1:(List Int)×Int)=>if (y1.2 != 0)=true then some ([],y1.2)else bindO (bindO (eO a1.X) λ(y2:Bool)=>if y2=true then some true else bindO (eO a1.Y) λ(y3:Bool)=>if y3=true then some true else bindO (eO a1.Z) λ(y4:Bool)=>some y4) λ(v1:Bool)=>bindO (aF (okIdx a2) ( aU (λ(i1:Nat) (e1:aG) (v2:Bool)=>bindO (if v2=true then some true else bindO (eO e1.X) λ(y5:Bool)=>if y5=true then some true else bindO (eO e1.Y) λ(y6:Bool)=>some y6) λ(v3:Bool)=>some (.go v3)) (λ(v2:Bool)=>some v2) a2 0 v1)) λ(v4:Bool)=>if v4=true then some ([],11)else bindX (aF (okIdx a2) ( aU (λ(i2:Nat) (e2:aG) (v5:ag×(List au))=>bindX (bindO (if (decide (v5.1.Z<a0.R))=true then bindO (if (!((v5.1.X==v5.1.X)&&((v5.1.Y==v5.1.Y)&&(a0.R==v5.1.Z))))=true then aF (okLen (v5.2.length+1)) ( some (a0.R,v5.2++[au.mk 1 (ag.mk v5.1.X v5.1.Y a0.R) (aG.mk 0 0) 0]))else some (v5.1.Z,v5.2)) λ(v6:Int×(List au))=>some (v6.1,v6.2)else some (v5.1.Z,v5.2)) λ(v7:Int×(List au))=>bindO (if (!((e2.X==v5.1.X)&&((e2.Y==v5.1.Y)&&(v7.1==v7.1))))=true then aF (okLen (v7.2.length+1)) ( some (ag.mk e2.X e2.Y v7.1,v7.2++[au.mk 1 (ag.mk e2.X e2.Y v7.1) (aG.mk 0 0) 0]))else some (ag.mk v5.1.X v5.1.Y v7.1,v7.2)) λ(v8:ag×(List au))=>bindO (if (!((e2.X==v8.1.X)&&((e2.Y==v8.1.Y)&&(a0.R==v8.1.Z))))=true then aF (okLen (v8.2.length+1)) ( some (ag.mk e2.X e2.Y a0.R,v8.2++[au.mk 1 (ag.mk e2.X e2.Y a0.R) (aG.mk 0 0) 0]))else some (v8.1,v8.2)) λ(v9:ag×(List au))=>bindO (aF (okIdx y1.1) ( aU (λ(i3:Nat) (e3:Int) (v10:ag×(List au))=>bindO (if (!((e2.X==v10.1.X)&&((e2.Y==v10.1.Y)&&(e3==v10.1.Z))))=true then aF (okLen (v10.2.length+1)) ( some (ag.mk e2.X e2.Y e3,v10.2++[au.mk 2 (ag.mk e2.X e2.Y e3) (aG.mk 0 0) a0.Rate]))else some (v10.1,v10.2)) λ(v11:ag×(List au))=>bindO (if (!((e2.X==v11.1.X)&&((e2.Y==v11.1.Y)&&(a0.R==v11.1.Z))))=true then aF (okLen (v11.2.length+1)) ( some (ag.mk e2.X e2.Y a0.R,v11.2++[au.mk 1 (ag.mk e2.X e2.Y a0.R) (aG.mk 0 0) 0]))else some (v11.1,v11.2)) λ(v12:ag×(List au))=>some (.go (v12.1,v12.2))) (λ(v10:ag×(List au))=>some (v10.1,v10.2)) y1.1 0 (v9.1,v9.2))) λ(v13:ag×(List au))=>bindO (if a0.High=true then bindO (if (!((e2.X==v13.1.X)&&((e2.Y==v13.1.Y)&&(a0.Initial==v13.1.Z))))=true then aF (okLen (v13.2.length+1)) ( some (ag.mk e2.X e2.Y a0.Initial,v13.2++[au.mk 1 (ag.mk e2.X e2.Y a0.Initial) (aG.mk 0 0) 0]))else some (v13.1,v13.2)) λ(v14:ag×(List au))=>some (v14.1,v14.2)else some (v13.1,v13.2)) λ(v15:ag×(List au))=>if (decide ((v15.2.length:Int)>20000))=true then some (.ret (.ret (.ret ([],3))))else some (.go (v15.1,v15.2))) λ(v16:ag×(List au))=>some (.go (v16.1,v16.2))) (λ(v5:ag×(List au))=>some (.go (v5.1,v5.2))) a2 0 (a1,[]))) λ(v17:ag×(List au))=>some (v17.2,0)
theorem k8{a0:ak}{a1:ag}{a2:(List aG)}{y:(List au)×Int}(h:dX a0 a1 a2=some y):Spec gP 30 [.agg (cC a0),.agg (cH a1),.d (.list (zA aW a2))] (.tuple [.d (.list (zA bf y.1)),.d (.int .i64 y.2)]):=by
 refine aB Tryz.func30 rfl (by kernel_rfl) (by kernel_rfl) (λy:(List au)×Int=>.tuple [.d (.list (zA bf y.1)),.d (.int .i64 y.2)]) ?_ h
 unfold dX
 simp only[zB,zD,nS,nA,Tryz.ntmps30,SV]
 refine .sR λe h=>?_
 simp only[seval,EMB,eInt]
 refine mU e (.seqK (.bind λy1 hy1=>.region λe h=>?_)) h
 simp only[seval,EMB,ag_86,sz_86,eInt]
 refine SpecS.by (k9 hy1) (by simp only[seval,FMB,eInt]) ?_
 simp only[seval,EMB,eInt]
 refine mU e (.seqK (.sR λe h=>?_)) h
 simp only[seval,EMB,eInt]
 refine mU e (.cond rfl (λhb3=>?_) (λhb3=>?_)) h
 refine .sR λe h=>?_
 simp only[seval,EMB]
 refine mU e (.ret λe h=>?_) h
 cases h
 simp only[seval,FMB,Tryz.results30]
 refine .skip (Mir.toK (.seqK (Mir.joinO (λv1:Bool=>([U,U,.d (.list (zA aW a2)),.ptr 0 0,.ptr 1 0,U,U,U,.d (.list (zA (eInt .i64) y1.1)),U,.d (.bool v1)]++us 125)) (λv1=>⟨[(cC a0),(cH a1)],[]⟩) (λ_=>rfl) ?_ ?_)))
 refine .bind λy2 hy4=>.ite (λhb5=>?_) (λhb5=>?_)
 refine .region λe h=>?_
 simp only[seval,EMB,bG,sz_2,ag_2,hb5]
 refine SpecS.by (be hy4) (by simp only[seval,FMB,hb5]) ?_
 simp only[seval,EMB,hb5]
 cases h
 simp only[seval,FMB,hb5]
 refine .bind λy3 hy6=>.ite (λhb7=>?_) (λhb7=>?_)
 refine .region λe h=>?_
 simp only[seval,EMB,bG,sz_2,ag_2,hb5,hb7]
 refine SpecS.by (be hy4) (by simp only[seval,FMB,hb5,hb7]) ?_
 simp only[seval,EMB,bM,sz_2,ag_2,hb5,hb7]
 refine SpecS.by (be hy6) (by simp only[seval,FMB,hb5,hb7]) ?_
 simp only[seval,EMB,hb5,hb7]
 cases h
 simp only[seval,FMB,hb5,hb7]
 refine .bind λy4 hy8=>.region λe h=>?_
 simp only[seval,EMB,bG,sz_2,ag_2,hb5,hb7]
 refine SpecS.by (be hy4) (by simp only[seval,FMB,hb5,hb7]) ?_
 simp only[seval,EMB,bM,sz_2,ag_2,hb5,hb7]
 refine SpecS.by (be hy6) (by simp only[seval,FMB,hb5,hb7]) ?_
 simp only[seval,EMB,cv,sz_2,ag_2,hb5,hb7]
 refine SpecS.by (be hy8) (by simp only[seval,FMB,hb5,hb7]) ?_
 simp only[seval,EMB,hb5,hb7]
 cases h
 simp only[seval,FMB,hb5,hb7]
 intro v1
 refine Mir.toK (.seqK (.sR λe h=>?_))
 simp only[seval,EMB,ie,eInt]
 refine mU e (Mir.joinO (λv4:Bool=>([U,U,.d (.list (zA aW a2)),.ptr 0 0,.ptr 1 0,U,U,U,.d (.list (zA (eInt .i64) y1.1)),U,.d (.bool v4)]++us 125)) (λv4=>⟨[(cC a0),(cH a1)],[]⟩) (λ_=>rfl) ?_ ?_) h
 refine .block (.guard λqg94=>Mir.range (λ(i1:Nat) (v2:Bool)=>([U,U,.d (.list (zA aW a2)),.ptr 0 0,.ptr 1 0,U,U,U,.d (.list (zA (eInt .i64) y1.1)),U,.d (.bool v2),U,U,U,U,U,U,U,U,U,U,U,U,U,U,U,U,U,U,U,U,U,U,U,U,U,U,U,U,U,U,.d (.list (zA aW a2)),.d (.int .i64 (a2.length:Int)),.d (.int .i64 (i1:Int))]++us 92)) (λi1 v2=>⟨[(cC a0),(cH a1)],[]⟩) qg94 (λ_ _=>rfl) (by simp only[seval,FMB,zNI]) (by simp only[seval,FMB,zNI]) ?_ ?_)
 intro i1 e1 v2 qr92
 refine .sR λe h=>?_
 simp only[seval,EMB,qr92]
 refine mU e (.seqK (.condT rfl (.skip (Mir.toK (.seqK (.block (.sR λe h=>?_))))))) h
 simp only[seval,EMB,ie,sz_91,qr92,zF,ag_91,zero_91]
 refine mU e (Mir.joinO (λv3:Bool=>([U,U,.d (.list (zA aW a2)),.ptr 0 0,.ptr 1 0,U,U,U,.d (.list (zA (eInt .i64) y1.1)),U,.d (.bool v3),U,U,U,U,U,U,U,U,U,U,U,U,U,U,U,U,U,U,U,U,U,U,U,U,U,U,U,U,U,U,.d (.list (zA aW a2)),.d (.int .i64 (a2.length:Int)),.d (.int .i64 (i1:Int))]++us 92)) (λv3=>⟨[(cC a0),(cH a1),(cK e1)],[]⟩) (λ_=>rfl) ?_ ?_) h
 refine .ite (λhb99=>?_) (λhb99=>?_)
 refine .region λe h=>?_
 simp only[seval,EMB,hb99]
 cases h
 simp only[seval,FMB,hb99]
 refine .bind λy5 h1=>.ite (λh2=>?_) (λh2=>?_)
 refine .region λe h=>?_
 simp only[seval,EMB,bE,sz_2,ag_2,hb99,h2]
 refine SpecS.by (be h1) (by simp only[seval,FMB,hb99,h2]) ?_
 simp only[seval,EMB,hb99,h2]
 cases h
 simp only[seval,FMB,hb99,h2]
 refine .bind λy6 h3=>.region λe h=>?_
 simp only[seval,EMB,bE,sz_2,ag_2,hb99,h2]
 refine SpecS.by (be h1) (by simp only[seval,FMB,hb99,h2]) ?_
 simp only[seval,EMB,ca,sz_2,ag_2,hb99,h2]
 refine SpecS.by (be h3) (by simp only[seval,FMB,hb99,h2]) ?_
 simp only[seval,EMB,hb99,h2]
 cases h
 simp only[seval,FMB,hb99,h2]
 intro v3
 refine Mir.toB (Mir.toK (.region λe h=>?_))
 simp only[seval,EMB]
 cases h
 simp only[seval,FMB,Tryz.results30,qr92]
 intro v2 qd93
 refine .sR λe h=>?_
 simp only[seval,EMB,qd93]
 refine mU e (.seqK (.condF rfl (.exit λe h=>?_))) h
 cases h
 simp only[seval,FMB,Tryz.results30]
 intro v4
 refine Mir.toK (.seqK (.sR λe h=>?_))
 simp only[seval,EMB,eInt]
 refine mU e (.cond rfl (λh4=>?_) (λh4=>?_)) h
 refine .sR λe h=>?_
 simp only[seval,EMB]
 refine mU e (.ret λe h=>?_) h
 cases h
 simp only[seval,FMB,Tryz.results30]
 refine .skip (Mir.toK (.sR λe h=>?_))
 simp only[seval,EMB,zero_97,eInt]
 refine mU e (.sR λe h=>?_) h
 simp only[seval,EMB,eInt]
 refine mU e (.seqK (.sR λe h=>?_)) h
 simp only[seval,EMB,ie,eInt]
 refine mU e (.gh [.cell 2 0 95] rfl (Mir.join (λv17:ag×(List au)=>([U,U,U,U,U,U,U,U,U,U,U,U,U,.ptr 2 0]++us 122)) (λv17=>⟨[(cC a0),(cH v17.1),[.own 0 (zA bf v17.2)]],[(95,v17.2.length)]⟩) (λ_=>rfl) ?_ ?_)) h
 refine .block (.guard λq1=>Mir.range (λ(i2:Nat) (v5:ag×(List au))=>([U,U,U,.ptr 0 0,.ptr 1 0,U,U,U,.d (.list (zA (eInt .i64) y1.1)),U,U,U,U,.ptr 2 0,.fn 63 [.ptr 1 0,.ptr 2 0],U,U,U,U,U,U,U,U,U,U,U,U,U,U,U,U,U,U,U,U,U,U,U,U,U,U,U,U,U,U,U,U,U,U,U,U,U,U,U,U,U,U,U,U,U,U,.d (.list (zA aW a2)),.d (.int .i64 (a2.length:Int)),.d (.int .i64 (i2:Int))]++us 72)) (λi2 v5=>⟨[(cC a0),(cH v5.1),[.own 0 (zA bf v5.2)]],[(95,v5.2.length)]⟩) q1 (λ_ _=>rfl) (by simp only[seval,FMB,eInt,zNI]) (by simp only[seval,FMB,eInt,zNI]) ?_ ?_)
 intro i2 e2 v5 q2
 refine .sR λe h=>?_
 simp only[seval,EMB,q2,eInt]
 refine mU e (.seqK (.condT rfl (.skip (Mir.toK (.seqK (Mir.join (λv16:ag×(List au)=>([U,U,U,.ptr 0 0,.ptr 1 0,U,U,U,.d (.list (zA (eInt .i64) y1.1)),U,U,U,U,.ptr 2 0,.fn 63 [.ptr 1 0,.ptr 2 0],U,U,U,U,U,U,U,U,U,U,U,U,U,U,U,U,U,U,U,U,U,U,U,U,U,U,U,U,U,U,U,U,U,U,U,U,U,U,U,U,U,U,U,U,U,U,.d (.list (zA aW a2)),.d (.int .i64 (a2.length:Int)),.d (.int .i64 (i2:Int))]++us 72)) (λv16=>⟨[(cC a0),(cH v16.1),[.own 0 (zA bf v16.2)]],[(95,v16.2.length)]⟩) (λ_=>rfl) ?_ ?_)))))) h
 refine .block (.sR λe h=>?_)
 simp only[seval,EMB,ie,sz_91,q2,zF,ag_91,zero_91,eInt]
 refine mU e (.seqK (.sR λe h=>?_)) h
 simp only[seval,EMB,cv,sz_2,ag_2,bF,eInt]
 refine mU e (Mir.joinO (λv7:Int×(List au)=>([U,U,U,.ptr 0 0,.ptr 1 0,U,U,U,.d (.list (zA (eInt .i64) y1.1)),U,U,U,U,.ptr 2 0,.fn 63 [.ptr 1 0,.ptr 2 0],U,.ptr 3 0,U,U,U,U,U,U,U,U,U,U,U,U,U,U,U,U,U,U,U,U,U,U,U,U,U,U,U,U,U,U,U,U,U,U,U,U,U,U,U,U,U,U,U,U,.d (.list (zA aW a2)),.d (.int .i64 (a2.length:Int)),.d (.int .i64 (i2:Int))]++us 72)) (λv7=>⟨[(cC a0),[.d (.int .i64 v5.1.X),.d (.int .i64 v5.1.Y),.d (.int .i64 v7.1)],[.own 0 (zA bf v7.2)],(cK e2)],[(95,v7.2.length)]⟩) (λ_=>rfl) ?_ ?_) h
 refine .cond rfl (λh5=>?_) (λh5=>?_)
 refine .bind λv6 h6=>.region λe h=>?_
 simp only[seval,EMB,bG,sz_2,ag_2,bM,bF,bl,pl_24,eInt]
 refine SpecS.inl Tryz.func63 rfl (by kernel_rfl) (by kernel_rfl) (λv6:Int×(List au)=>.tuple []) (λv6=>⟨[(cC a0),[.d (.int .i64 v5.1.X),.d (.int .i64 v5.1.Y),.d (.int .i64 v6.1)],[.own 0 (zA bf v6.2)],(cK e2)],[(95,v6.2.length)]⟩) h6 rfl ?_ ?_
 simp only[zB,zD,nS,nA,Tryz.ntmps63,SV]
 refine .sR λe h=>?_
 simp only[seval,EMB,eInt]
 refine mU e (.sR λe h=>?_) h
 simp only[seval,EMB,ag_24,sz_24,gE_24,eInt]
 refine mU e (.cond rfl (λh7=>?_) (λh7=>?_)) h
 refine .seqK (.guard λq3=>.region λe h=>?_)
 simp only[seval,EMB,ag_97,sz_97,ag_24,sz_24,fD,pl_95,gS,sz_95,(oL 7),app_97,gl,q3,eInt]
 refine mU e (.region λe h=>?_) h
 simp only[seval,EMB,ag_24,sz_24,eInt]
 cases h
 simp only[seval,FMB,eInt,Tryz.results63]
 refine .skip λe h=>?_
 cases h
 simp only[seval,FMB,eInt,Tryz.results63]
 simp only[seval,EMB,eInt]
 cases h
 simp only[seval,FMB,eInt,Tryz.results30]
 refine .skip λe h=>?_
 cases h
 simp only[seval,FMB,eInt,Tryz.results30]
 intro v7
 refine Mir.toK (.seqK (.bind λv8 h8=>.region λe h=>?_))
 simp only[seval,EMB,bE,sz_2,ag_2,ca,cv,bl,pl_24,eInt]
 refine SpecS.inl Tryz.func63 rfl (by kernel_rfl) (by kernel_rfl) (λv8:ag×(List au)=>.tuple []) (λv8=>⟨[(cC a0),(cH v8.1),[.own 0 (zA bf v8.2)],(cK e2)],[(95,v8.2.length)]⟩) h8 rfl ?_ ?_
 simp only[zB,zD,nS,nA,Tryz.ntmps63,SV]
 refine .sR λe h=>?_
 simp only[seval,EMB,eInt]
 refine mU e (.sR λe h=>?_) h
 simp only[seval,EMB,ag_24,sz_24,gE_24,eInt]
 refine mU e (.cond rfl (λh9=>?_) (λh9=>?_)) h
 refine .seqK (.guard λq4=>.region λe h=>?_)
 simp only[seval,EMB,ag_97,sz_97,ag_24,sz_24,fD,pl_95,gS,sz_95,(oL 7),app_97,gl,q4,eInt]
 refine mU e (.region λe h=>?_) h
 simp only[seval,EMB,ag_24,sz_24,eInt]
 cases h
 simp only[seval,FMB,eInt,Tryz.results63]
 refine .skip λe h=>?_
 cases h
 simp only[seval,FMB,eInt,Tryz.results63]
 simp only[seval,EMB,eInt]
 refine mU e (.sR λe h=>?_) h
 simp only[seval,EMB,bE,sz_2,ag_2,ca,bF,bl,pl_24,sz_24,eInt]
 refine mU e (.seqK (.bind λv9 h10=>.region λe h=>?_)) h
 simp only[seval,EMB,ag_24,sz_24,eInt]
 refine SpecS.inl Tryz.func63 rfl (by kernel_rfl) (by kernel_rfl) (λv9:ag×(List au)=>.tuple []) (λv9=>⟨[(cC a0),(cH v9.1),[.own 0 (zA bf v9.2)],(cK e2),[.d (.int .i64 e2.X),.d (.int .i64 e2.Y),.d (.int .i64 a0.R)]],[(95,v9.2.length)]⟩) h10 rfl ?_ ?_
 simp only[zB,zD,nS,nA,Tryz.ntmps63,SV]
 refine .sR λe h=>?_
 simp only[seval,EMB,eInt]
 refine mU e (.sR λe h=>?_) h
 simp only[seval,EMB,ag_24,sz_24,gE_24,eInt]
 refine mU e (.cond rfl (λh11=>?_) (λh11=>?_)) h
 refine .seqK (.guard λq5=>.region λe h=>?_)
 simp only[seval,EMB,ag_97,sz_97,ag_24,sz_24,fD,pl_95,gS,sz_95,(oL 7),app_97,gl,q5,eInt]
 refine mU e (.region λe h=>?_) h
 simp only[seval,EMB,ag_24,sz_24,eInt]
 cases h
 simp only[seval,FMB,eInt,Tryz.results63]
 refine .skip λe h=>?_
 cases h
 simp only[seval,FMB,eInt,Tryz.results63]
 simp only[seval,EMB,eInt]
 refine mU e (.seqK (.sR λe h=>?_)) h
 simp only[seval,EMB,cn,eInt]
 refine mU e (Mir.joinO (λv13:ag×(List au)=>([U,U,U,.ptr 0 0,.ptr 1 0,U,U,U,.d (.list (zA (eInt .i64) y1.1)),U,U,U,U,.ptr 2 0,.fn 63 [.ptr 1 0,.ptr 2 0],U,.ptr 3 0,U,U,U,U,U,U,U,U,U,U,U,U,U,U,U,U,U,U,U,U,U,U,U,U,U,U,U,U,U,U,U,U,U,U,U,U,U,U,U,U,U,U,U,U,.d (.list (zA aW a2)),.d (.int .i64 (a2.length:Int)),.d (.int .i64 (i2:Int))]++us 72)) (λv13=>⟨[(cC a0),(cH v13.1),[.own 0 (zA bf v13.2)],(cK e2),[.d (.int .i64 e2.X),.d (.int .i64 e2.Y),.d (.int .i64 a0.R)]],[(95,v13.2.length)]⟩) (λ_=>rfl) ?_ ?_) h
 refine .block (.guard λq6=>Mir.range (λ(i3:Nat) (v10:ag×(List au))=>([U,U,U,.ptr 0 0,.ptr 1 0,U,U,U,.d (.list (zA (eInt .i64) y1.1)),U,U,U,U,.ptr 2 0,.fn 63 [.ptr 1 0,.ptr 2 0],U,.ptr 3 0,.ptr 4 0,U,U,U,U,U,U,U,U,U,U,U,U,U,U,U,U,U,U,U,U,U,U,U,U,U,U,U,U,U,U,U,U,U,U,U,U,U,U,U,U,U,U,U,.d (.list (zA aW a2)),.d (.int .i64 (a2.length:Int)),.d (.int .i64 (i2:Int)),U,U,U,U,U,U,U,U,U,U,U,U,U,U,U,U,U,U,U,U,U,U,U,U,U,U,U,U,U,U,U,U,U,U,U,U,.d (.list (zA (eInt .i64) y1.1)),.d (.int .i64 (y1.1.length:Int)),.d (.int .i64 (i3:Int))]++us 33)) (λi3 v10=>⟨[(cC a0),(cH v10.1),[.own 0 (zA bf v10.2)],(cK e2),[.d (.int .i64 e2.X),.d (.int .i64 e2.Y),.d (.int .i64 a0.R)]],[(95,v10.2.length)]⟩) q6 (λ_ _=>rfl) (by simp only[seval,FMB,eInt,zNI]) (by simp only[seval,FMB,eInt,zNI]) ?_ ?_)
 intro i3 e3 v10 q7
 refine .sR λe h=>?_
 simp only[seval,EMB,q7,eInt]
 refine mU e (.seqK (.condT rfl (.skip (Mir.toK (.seqK (.block (.sR λe h=>?_))))))) h
 simp only[seval,EMB,cn,sz_2,q7,zF,ag_2,eInt]
 refine mU e (.seqK (.bind λv11 h12=>.region λe h=>?_)) h
 simp only[seval,EMB,bE,sz_2,ag_2,ca,bl,pl_24,d5,eInt]
 refine SpecS.inl Tryz.func63 rfl (by kernel_rfl) (by kernel_rfl) (λv11:ag×(List au)=>.tuple []) (λv11=>⟨[(cC a0),(cH v11.1),[.own 0 (zA bf v11.2)],(cK e2),[.d (.int .i64 e2.X),.d (.int .i64 e2.Y),.d (.int .i64 a0.R)]],[(95,v11.2.length)]⟩) h12 rfl ?_ ?_
 simp only[zB,zD,nS,nA,Tryz.ntmps63,SV]
 refine .sR λe h=>?_
 simp only[seval,EMB,eInt]
 refine mU e (.sR λe h=>?_) h
 simp only[seval,EMB,ag_24,sz_24,gE_24,eInt]
 refine mU e (.cond rfl (λh13=>?_) (λh13=>?_)) h
 refine .seqK (.guard λq8=>.region λe h=>?_)
 simp only[seval,EMB,ag_97,sz_97,ag_24,sz_24,fD,pl_95,gS,sz_95,(oL 7),app_97,gl,q8,eInt]
 refine mU e (.region λe h=>?_) h
 simp only[seval,EMB,ag_24,sz_24,eInt]
 cases h
 simp only[seval,FMB,eInt,Tryz.results63]
 refine .skip λe h=>?_
 cases h
 simp only[seval,FMB,eInt,Tryz.results63]
 simp only[seval,EMB,eInt]
 refine mU e (.bind λv12 h14=>.region λe h=>?_) h
 simp only[seval,EMB,ag_24,sz_24,eInt]
 refine SpecS.inl Tryz.func63 rfl (by kernel_rfl) (by kernel_rfl) (λv12:ag×(List au)=>.tuple []) (λv12=>⟨[(cC a0),(cH v12.1),[.own 0 (zA bf v12.2)],(cK e2),[.d (.int .i64 e2.X),.d (.int .i64 e2.Y),.d (.int .i64 a0.R)]],[(95,v12.2.length)]⟩) h14 rfl ?_ ?_
 simp only[zB,zD,nS,nA,Tryz.ntmps63,SV]
 refine .sR λe h=>?_
 simp only[seval,EMB,eInt]
 refine mU e (.sR λe h=>?_) h
 simp only[seval,EMB,ag_24,sz_24,gE_24,eInt]
 refine mU e (.cond rfl (λh15=>?_) (λh15=>?_)) h
 refine .seqK (.guard λq9=>.region λe h=>?_)
 simp only[seval,EMB,ag_97,sz_97,ag_24,sz_24,fD,pl_95,gS,sz_95,(oL 7),app_97,gl,q9,eInt]
 refine mU e (.region λe h=>?_) h
 simp only[seval,EMB,ag_24,sz_24,eInt]
 cases h
 simp only[seval,FMB,eInt,Tryz.results63]
 refine .skip λe h=>?_
 cases h
 simp only[seval,FMB,eInt,Tryz.results63]
 simp only[seval,EMB,eInt]
 refine mU e (.region λe h=>?_) h
 simp only[seval,EMB,eInt]
 cases h
 simp only[seval,FMB,eInt,Tryz.results30,q7]
 intro v10 q10
 refine .sR λe h=>?_
 simp only[seval,EMB,q10,eInt]
 refine mU e (.seqK (.condF rfl (.exit λe h=>?_))) h
 cases h
 simp only[seval,FMB,eInt,Tryz.results30]
 intro v13
 refine Mir.toK (.seqK (.sR λe h=>?_))
 simp only[seval,EMB,fld_86_6,sz_4,ag_4,eInt]
 refine mU e (Mir.joinO (λv15:ag×(List au)=>([U,U,U,.ptr 0 0,.ptr 1 0,U,U,U,.d (.list (zA (eInt .i64) y1.1)),U,U,U,U,.ptr 2 0,.fn 63 [.ptr 1 0,.ptr 2 0],U,U,U,U,U,U,U,U,U,U,U,U,U,U,U,U,U,U,U,U,U,U,U,U,U,U,U,U,U,U,U,U,U,U,U,U,U,U,U,U,U,U,U,U,U,U,.d (.list (zA aW a2)),.d (.int .i64 (a2.length:Int)),.d (.int .i64 (i2:Int))]++us 72)) (λv15=>⟨[(cC a0),(cH v15.1),[.own 0 (zA bf v15.2)],(cK e2),[.d (.int .i64 e2.X),.d (.int .i64 e2.Y),.d (.int .i64 a0.R)]],[(95,v15.2.length)]⟩) (λ_=>rfl) ?_ ?_) h
 refine .cond rfl (λh16=>?_) (λh16=>?_)
 refine .bind λv14 h17=>.region λe h=>?_
 simp only[seval,EMB,bE,sz_2,ag_2,ca,cu,bl,pl_24,eInt]
 refine SpecS.inl Tryz.func63 rfl (by kernel_rfl) (by kernel_rfl) (λv14:ag×(List au)=>.tuple []) (λv14=>⟨[(cC a0),(cH v14.1),[.own 0 (zA bf v14.2)],(cK e2),[.d (.int .i64 e2.X),.d (.int .i64 e2.Y),.d (.int .i64 a0.R)]],[(95,v14.2.length)]⟩) h17 rfl ?_ ?_
 simp only[zB,zD,nS,nA,Tryz.ntmps63,SV]
 refine .sR λe h=>?_
 simp only[seval,EMB,eInt]
 refine mU e (.sR λe h=>?_) h
 simp only[seval,EMB,ag_24,sz_24,gE_24,eInt]
 refine mU e (.cond rfl (λh18=>?_) (λh18=>?_)) h
 refine .seqK (.guard λq11=>.region λe h=>?_)
 simp only[seval,EMB,ag_97,sz_97,ag_24,sz_24,fD,pl_95,gS,sz_95,(oL 7),app_97,gl,q11,eInt]
 refine mU e (.region λe h=>?_) h
 simp only[seval,EMB,ag_24,sz_24,eInt]
 cases h
 simp only[seval,FMB,eInt,Tryz.results63]
 refine .skip λe h=>?_
 cases h
 simp only[seval,FMB,eInt,Tryz.results63]
 simp only[seval,EMB,eInt]
 cases h
 simp only[seval,FMB,eInt,Tryz.results30]
 refine .skip λe h=>?_
 cases h
 simp only[seval,FMB,eInt,Tryz.results30]
 intro v15
 refine Mir.toK (.sR λe h=>?_)
 simp only[seval,EMB,ag_97,sz_97,gS,eInt]
 refine mU e (.cond rfl (λh19=>?_) (λh19=>?_)) h
 refine .sR λe h=>?_
 simp only[seval,EMB,eInt]
 refine mU e (.ret λe h=>?_) h
 cases h
 simp only[seval,FMB,eInt,Tryz.results30]
 refine .skip λe h=>?_
 cases h
 simp only[seval,FMB,eInt,Tryz.results30]
 intro v16
 refine Mir.toK (.region λe h=>?_)
 simp only[seval,EMB,eInt]
 cases h
 simp only[seval,FMB,eInt,Tryz.results30,q2]
 intro v5 q12
 refine .sR λe h=>?_
 simp only[seval,EMB,q12,eInt]
 refine mU e (.seqK (.condF rfl (.exit λe h=>?_))) h
 cases h
 simp only[seval,FMB,eInt,Tryz.results30]
 intro v17
 refine Mir.toK (.sR λe h=>?_)
 simp only[seval,EMB,ag_97,sz_97,eInt]
 refine mU e (.ret λe h=>?_) h
 cases h
 simp only[seval,FMB,eInt,Tryz.results30]
def eg(a0:am)(a1:ak)(a2:ac)(a3:ag)(a4:ag):Option ((List aq)×ak×Int):=bindO (if (!((a1.Code==0)&&((a1.R==0)&&((a1.Z==0)&&((a1.Q==0)&&((a1.Rate==0)&&((a1.Initial==0)&&(a1.High==false))))))))=true then some a1.Initial else some a3.Z) λ(v1:Int)=>bindO (lp a2 a0.Motion a0.Feed v1 (a0.Return==98000) a1) λ(y1:ak×Int)=>if (y1.2 != 0)=true then some ([],ak.mk 0 0 0 0 0 0 false,y1.2)else bindO (dX y1.1 a3 [aG.mk a4.X a4.Y]) λ(y2:(List au)×Int)=>if (y2.2 != 0)=true then some ([],ak.mk 0 0 0 0 0 0 false,y2.2)else bindO (aF (okIdx y2.1) ( aU (λ(i1:Nat) (e1:au) (v2:(List aq))=>aF (okLen (v2.length+1)) ( some (.go (v2++[aq.mk e1.To e1.Rate])))) (λ(v2:(List aq))=>some v2) y2.1 0 [])) λ(v3:(List aq))=>some (v3,y1.1,0)
theorem inp_canned_spec{a0:am}{a1:ak}{a2:ac}{a3:ag}{a4:ag}{y:(List aq)×ak×Int}(h:eg a0 a1 a2 a3 a4=some y):Spec gP 147 [.agg (cA a0),.agg (cC a1),.agg (cJ a2),.agg (cH a3),.agg (cH a4)] (.tuple [.d (.list (zA aO y.1)),.agg [.d (.int .i64 y.2.1.Code),.d (.int .i64 y.2.1.R),.d (.int .i64 y.2.1.Z),.d (.int .i64 y.2.1.Q),.d (.int .i64 y.2.1.Rate),.d (.int .i64 y.2.1.Initial),.d (.bool y.2.1.High)],.d (.int .i64 y.2.2)]):=by
 refine aB Tryz.func147 rfl (by kernel_rfl) (by kernel_rfl) (λy:(List aq)×ak×Int=>.tuple [.d (.list (zA aO y.1)),.agg [.d (.int .i64 y.2.1.Code),.d (.int .i64 y.2.1.R),.d (.int .i64 y.2.1.Z),.d (.int .i64 y.2.1.Q),.d (.int .i64 y.2.1.Rate),.d (.int .i64 y.2.1.Initial),.d (.bool y.2.1.High)],.d (.int .i64 y.2.2)]) ?_ h
 unfold eg
 simp only[zB,zD,nS,nA,Tryz.ntmps147,SV]
 refine .sR λe h=>?_
 simp only[seval,EMB,bH]
 refine mU e (.sR λe h=>?_) h
 simp only[seval,EMB,cv,sz_2,ag_2]
 refine mU e (.seqK (.sR λe h=>?_)) h
 simp only[seval,EMB,ag_86,sz_86,bH,pl_86,gE_86]
 refine mU e (Mir.joinO (λv1:Int=>([U,U,U,U,U,.ptr 0 0,.ptr 1 0,.ptr 2 0,.ptr 3 0,.ptr 4 0,U,.ptr 5 0,U,.d (.int .i64 v1)]++us 64)) (λv1=>⟨[(cA a0),(cC a1),(cJ a2),(cH a3),(cH a4),[.d (.int .i64 0),.d (.int .i64 0),.d (.int .i64 0),.d (.int .i64 0),.d (.int .i64 0),.d (.int .i64 0),.d (.bool false)]],[]⟩) (λ_=>rfl) ?_ ?_) h
 refine .cond rfl (λhb2=>?_) (λhb2=>?_)
 refine .region λe h=>?_
 simp only[seval,EMB,cu,sz_2,ag_2]
 cases h
 simp only[seval,FMB,Tryz.results147,ag_86,sz_86]
 refine .skip λe h=>?_
 cases h
 simp only[seval,FMB,Tryz.results147,ag_86,sz_86]
 intro v1
 refine Mir.toK (.seqK (.bind λy1 hy3=>.region λe h=>?_))
 simp only[seval,EMB,ag_58,sz_58,cc,sz_2,ag_2,iw,fld_143_4,ag_86,sz_86]
 refine SpecS.by (cy_Read_spec hy3) (by simp only[seval,FMB]) ?_
 simp only[seval,EMB,bH,sz_86]
 refine mU e (.seqK (.sR λe h=>?_)) h
 simp only[seval,EMB]
 refine mU e (.cond rfl (λhb5=>?_) (λhb5=>?_)) h
 refine .sR λe h=>?_
 simp only[seval,EMB,bH,pl_86,sz_86]
 refine mU e (.ret λe h=>?_) h
 cases h
 simp only[seval,FMB,Tryz.results147,ag_86,sz_86]
 refine .skip (Mir.toK (.seqK (.bind λy2 hy6=>.region λe h=>?_)))
 simp only[seval,EMB,ag_86,sz_86,ag_24,sz_24,bG,sz_2,ag_2,bM,zero_91,pl_91,ie,sz_91,(oL 2)]
 refine SpecS.by (k8 hy6) (by simp only[seval,FMB]) ?_
 simp only[seval,EMB]
 refine mU e (.seqK (.sR λe h=>?_)) h
 simp only[seval,EMB]
 refine mU e (.cond rfl (λhb8=>?_) (λhb8=>?_)) h
 refine .sR λe h=>?_
 simp only[seval,EMB,bH,pl_86,sz_86]
 refine mU e (.ret λe h=>?_) h
 cases h
 simp only[seval,FMB,Tryz.results147,ag_86,sz_86]
 refine .skip (Mir.toK (.sR λe h=>?_))
 simp only[seval,EMB]
 refine mU e (.seqK (.sR λe h=>?_)) h
 simp only[seval,EMB,gS]
 refine mU e (.gh [.slot 17 193] rfl (Mir.joinO (λv3:(List aq)=>([U,U,U,U,U,U,U,U,U,U,U,.ptr 5 0,U,U,.ptr 6 0,U,U,.own 0 (zA aO v3)]++us 60)) (λv3=>⟨[(cA a0),(cC a1),(cJ a2),(cH a3),(cH a4),[.d (.int .i64 0),.d (.int .i64 0),.d (.int .i64 0),.d (.int .i64 0),.d (.int .i64 0),.d (.int .i64 0),.d (.bool false)],(cC y1.1)],[(193,v3.length)]⟩) (λ_=>rfl) ?_ ?_)) h
 refine .block (.guard λqg73=>Mir.range (λ(i1:Nat) (v2:(List aq))=>([U,U,U,U,U,U,U,U,U,U,U,.ptr 5 0,U,U,.ptr 6 0,U,U,.own 0 (zA aO v2),U,U,U,U,U,U,U,U,U,U,U,U,U,U,U,U,U,U,U,U,U,U,U,U,U,U,U,U,U,U,U,U,U,U,U,U,U,U,U,U,U,U,U,.d (.list (zA bf y2.1)),.d (.int .i64 (y2.1.length:Int)),.d (.int .i64 (i1:Int))]++us 14)) (λi1 v2=>⟨[(cA a0),(cC a1),(cJ a2),(cH a3),(cH a4),[.d (.int .i64 0),.d (.int .i64 0),.d (.int .i64 0),.d (.int .i64 0),.d (.int .i64 0),.d (.int .i64 0),.d (.bool false)],(cC y1.1)],[(193,v2.length)]⟩) qg73 (λ_ _=>rfl) (by simp only[seval,FMB,zNI]) (by simp only[seval,FMB,zNI]) ?_ ?_)
 intro i1 e1 v2 qr71
 refine .sR λe h=>?_
 simp only[seval,EMB,qr71]
 refine mU e (.seqK (.condT rfl (.skip (Mir.toK (.seqK (.block (.sR λe h=>?_))))))) h
 simp only[seval,EMB,gS,sz_95,qr71,zF,ag_95,fD]
 refine mU e (.guard λq75=>.region λe h=>?_) h
 simp only[seval,EMB,b9,sz_24,ag_24,fX,sz_2,ag_2,zero_193,pl_193,und_189,sz_193,(oL 4),app_189,fB,q75]
 refine mU e (.region λe h=>?_) h
 simp only[seval,EMB]
 cases h
 simp only[seval,FMB,Tryz.results147,ag_86,sz_86,qr71]
 intro v2 qd72
 refine .sR λe h=>?_
 simp only[seval,EMB,qd72]
 refine mU e (.seqK (.condF rfl (.exit λe h=>?_))) h
 cases h
 simp only[seval,FMB,Tryz.results147,ag_86,sz_86]
 intro v3
 refine Mir.toK (.seqK (.regionD [] (by kernel_rfl) λe h=>?_))
 simp only[seval,EMB,SB,ag_86,sz_86]
 refine mU e (.ret λe h=>?_) h
 cases h
 simp only[seval,FMB,Tryz.results147,ag_86,sz_86]
def il(a0:ac)(a1:Int):Option Int:=bindO (gK a0 a1) λ(y1:Int×Bool)=>some y1.1
theorem kZ{a0:ac}{a1:Int}{y:Int}(h:il a0 a1=some y):Spec gP 174 [.agg (cJ a0),.d (.int .u8 a1)] (.d (.int .i64 y)):=by
 refine aB Tryz.func174 rfl (by kernel_rfl) (by kernel_rfl) (λy:Int=>.d (.int .i64 y)) ?_ h
 unfold il
 simp only[zB,zD,nS,nA,Tryz.ntmps174,SV]
 refine .sR λe h=>?_
 simp only[seval,EMB]
 refine mU e (.seqK (.bind λy1 hy1=>.region λe h=>?_)) h
 simp only[seval,EMB,ag_58,sz_58]
 refine SpecS.by (eh hy1) (by simp only[seval,FMB]) ?_
 simp only[seval,EMB]
 refine mU e (.sR λe h=>?_) h
 simp only[seval,EMB]
 refine mU e (.ret λe h=>?_) h
 cases h
 simp only[seval,FMB,Tryz.results174]
def cl(a0:ag)(a1:au):Option (Int×Int):=bindO (fV a1) λ(y1:Bool)=>if (!y1)=true then some (0,1)else bindO (d4 a0 a1) λ(y2:Int)=>if (y2 != 0)=true then some (0,y2)else bindO (cV a0 a1.Center) λ(y3:Int×Int)=>bindO (cV a1.To a1.Center) λ(y4:Int×Int)=>bindO (if (a1.Kind==3)=true then some (zK.wrap (0-(zK.wrap (y4.1-y3.1))))else some (zK.wrap (y4.1-y3.1))) λ(v1:Int)=>bindO (if (decide (v1≤0))=true then some (zK.wrap (v1+4))else some v1) λ(v2:Int)=>some (v2,0)
theorem ip_Quarters_spec{a0:ag}{a1:au}{y:Int×Int}(h:cl a0 a1=some y):Spec gP 150 [.agg (cH a0),.agg (cB a1)] (.tuple [.d (.int .i64 y.1),.d (.int .i64 y.2)]):=by
 refine aB Tryz.func150 rfl (by kernel_rfl) (by kernel_rfl) (λy:Int×Int=>.tuple [.d (.int .i64 y.1),.d (.int .i64 y.2)]) ?_ h
 unfold cl
 simp only[zB,zD,nS,nA,Tryz.ntmps150,SV]
 refine .sR λe h=>?_
 simp only[seval,EMB]
 refine mU e (.seqK (.seqK (.bind λy1 hy1=>.region λe h=>?_))) h
 simp only[seval,EMB,ag_95,sz_95]
 refine SpecS.by (dK hy1) (by simp only[seval,FMB]) ?_
 simp only[seval,EMB]
 refine mU e (.cond rfl (λhb3=>?_) (λhb3=>?_)) h
 refine .sR λe h=>?_
 simp only[seval,EMB]
 refine mU e (.ret λe h=>?_) h
 cases h
 simp only[seval,FMB,Tryz.results150]
 refine .skip (Mir.toK (.seqK (.seqK (.bind λy2 hy4=>.region λe h=>?_))))
 simp only[seval,EMB,ag_24,sz_24,ag_95,sz_95]
 refine SpecS.by (ip_Valid_spec hy4) (by simp only[seval,FMB]) ?_
 simp only[seval,EMB]
 refine mU e (.sR λe h=>?_) h
 simp only[seval,EMB]
 refine mU e (.cond rfl (λhb6=>?_) (λhb6=>?_)) h
 refine .sR λe h=>?_
 simp only[seval,EMB]
 refine mU e (.ret λe h=>?_) h
 cases h
 simp only[seval,FMB,Tryz.results150]
 refine .skip (Mir.toK (.seqK (.bind λy3 hy7=>.region λe h=>?_)))
 simp only[seval,EMB,ag_24,sz_24,dM,sz_91,ag_91]
 refine SpecS.by (dJ hy7) (by simp only[seval,FMB]) ?_
 simp only[seval,EMB]
 refine mU e (.seqK (.bind λy4 hy8=>.region λe h=>?_)) h
 simp only[seval,EMB,b9,sz_24,ag_24,dM,sz_91,ag_91]
 refine SpecS.by (dJ hy8) (by simp only[seval,FMB]) ?_
 simp only[seval,EMB]
 refine mU e (.sR λe h=>?_) h
 simp only[seval,EMB]
 refine mU e (.seqK (.sR λe h=>?_)) h
 simp only[seval,EMB,db,sz_3,ag_3]
 refine mU e (Mir.joinO (λv1:Int=>([U,U,U,U,U,U,U,U,U,U,U,.d (.int .i64 v1)]++us 37)) (λv1=>⟨[(cH a0),(cB a1)],[]⟩) (λ_=>rfl) ?_ ?_) h
 refine .cond rfl (λhb10=>?_) (λhb10=>?_)
 refine .region λe h=>?_
 simp only[seval,EMB]
 cases h
 simp only[seval,FMB,Tryz.results150]
 refine .skip λe h=>?_
 cases h
 simp only[seval,FMB,Tryz.results150]
 intro v1
 refine Mir.toK (.seqK (.sR λe h=>?_))
 simp only[seval,EMB]
 refine mU e (Mir.joinO (λv2:Int=>([U,U,U,U,U,U,U,U,U,U,U,.d (.int .i64 v2)]++us 37)) (λv2=>⟨[(cH a0),(cB a1)],[]⟩) (λ_=>rfl) ?_ ?_) h
 refine .cond rfl (λhb12=>?_) (λhb12=>?_)
 refine .region λe h=>?_
 simp only[seval,EMB]
 cases h
 simp only[seval,FMB,Tryz.results150]
 refine .skip λe h=>?_
 cases h
 simp only[seval,FMB,Tryz.results150]
 intro v2
 refine Mir.toK (.sR λe h=>?_)
 simp only[seval,EMB]
 refine mU e (.ret λe h=>?_) h
 cases h
 simp only[seval,FMB,Tryz.results150]
def gz(a0:Int):Option Int:=if (decide (a0≤0))=true then some 0 else bindO (loopX (λ(v1:Int×Int)=>if (decide (v1.1<v1.2))=true then if (decide ((zK.wrap ((zK.wrap (zG (zK.wrap (v1.1+v1.2)) 2))*(zK.wrap (zG (zK.wrap (v1.1+v1.2)) 2))))≥(zK.wrap ((zK.wrap (zG (zK.wrap (a0-1)) 10))+1))))=true then some (.go (v1.1,zK.wrap (zG (zK.wrap (v1.1+v1.2)) 2)))else some (.go (zK.wrap ((zK.wrap (zG (zK.wrap (v1.1+v1.2)) 2))+1),v1.2))else some (.ret v1.1)) fuel (1,1073741824)) λ(v2:Int)=>some v2
theorem ip_Chords_spec{a0:Int}{y:Int}(h:gz a0=some y):Spec gP 151 [.d (.int .i64 a0)] (.d (.int .i64 y)):=by
 refine aB Tryz.func151 rfl (by kernel_rfl) (by kernel_rfl) (λy:Int=>.d (.int .i64 y)) ?_ h
 unfold gz
 simp only[zB,zD,nS,nA,Tryz.ntmps151,SV]
 refine .sR λe h=>?_
 simp only[seval,EMB]
 refine mU e (.seqK (.sR λe h=>?_)) h
 simp only[seval,EMB]
 refine mU e (.cond rfl (λhb2=>?_) (λhb2=>?_)) h
 refine .sR λe h=>?_
 simp only[seval,EMB]
 refine mU e (.ret λe h=>?_) h
 cases h
 simp only[seval,FMB,Tryz.results151]
 refine .skip (Mir.toK (.sR λe h=>?_))
 simp only[seval,EMB]
 refine mU e (.sR λe h=>?_) h
 simp only[seval,EMB]
 refine mU e (.seqK (Mir.joinO (λv2:Int=>([U,U,U,U,.d (.int .i64 v2)]++us 24)) (λv2=>⟨[],[]⟩) (λ_=>rfl) ?_ ?_)) h
 refine .block (Mir.loop (λv1:Int×Int=>([U,U,U,.d (.int .i64 (zK.wrap ((zK.wrap (zG (zK.wrap (a0-1)) 10))+1))),.d (.int .i64 v1.1),.d (.int .i64 v1.2)]++us 23)) (λv1=>⟨[],[]⟩) (λ_=>rfl) (by simp only[seval,FMB]) (by simp only[seval,FMB]) λv1=>.seqK (.sR λe h=>?_))
 simp only[seval,EMB]
 refine mU e (.cond rfl (λh1=>?_) (λh1=>?_)) h
 refine .skip (Mir.toK (.block (.sR λe h=>?_)))
 simp only[seval,EMB]
 refine mU e (.sR λe h=>?_) h
 simp only[seval,EMB]
 refine mU e (.cond rfl (λh2=>?_) (λh2=>?_)) h
 refine .region λe h=>?_
 simp only[seval,EMB]
 cases h
 simp only[seval,FMB,Tryz.results151]
 refine .region λe h=>?_
 simp only[seval,EMB]
 cases h
 simp only[seval,FMB,Tryz.results151]
 refine .exit λe h=>?_
 cases h
 simp only[seval,FMB,Tryz.results151]
 intro v2
 refine Mir.toK (.sR λe h=>?_)
 simp only[seval,EMB]
 refine mU e (.ret λe h=>?_) h
 cases h
 simp only[seval,FMB,Tryz.results151]
def fq(a0:Int)(a1:Int)(a2:Int):Option (Int×Int):=bindO (loopX (λ(v1:Int×Int×Int)=>if (decide (v1.2.2<(andI .i64 a2 3)))=true then some (.go (zK.wrap (0-v1.2.1),v1.1,zK.wrap (v1.2.2+1)))else some (.ret (v1.1,v1.2.1))) fuel (a0,a1,0)) λ(v2:Int×Int)=>some (v2.1,v2.2)
theorem kX{a0:Int}{a1:Int}{a2:Int}{y:Int×Int}(h:fq a0 a1 a2=some y):Spec gP 152 [.d (.int .i64 a0),.d (.int .i64 a1),.d (.int .i64 a2)] (.tuple [.d (.int .i64 y.1),.d (.int .i64 y.2)]):=by
 refine aB Tryz.func152 rfl (by kernel_rfl) (by kernel_rfl) (λy:Int×Int=>.tuple [.d (.int .i64 y.1),.d (.int .i64 y.2)]) ?_ h
 unfold fq
 simp only[zB,zD,nS,nA,Tryz.ntmps152,SV]
 refine .sR λe h=>?_
 simp only[seval,EMB]
 refine mU e (.seqK (.sR λe h=>?_)) h
 simp only[seval,EMB]
 refine mU e (Mir.joinO (λv2:Int×Int=>([.d (.int .i64 v2.1),.d (.int .i64 v2.2)]++us 16)) (λv2=>⟨[],[]⟩) (λ_=>rfl) ?_ ?_) h
 refine .block (Mir.loop (λv1:Int×Int×Int=>([.d (.int .i64 v1.1),.d (.int .i64 v1.2.1),U,U,U,U,U,U,U,.d (.int .i64 (andI .i64 a2 3)),.d (.int .i64 v1.2.2)]++us 7)) (λv1=>⟨[],[]⟩) (λ_=>rfl) (by simp only[seval,FMB]) (by simp only[seval,FMB]) λv1=>.sR λe h=>?_)
 simp only[seval,EMB]
 refine mU e (.seqK (.cond rfl (λhb12=>?_) (λhb12=>?_))) h
 refine .skip (Mir.toK (.seqK (.block (.region λe h=>?_))))
 simp only[seval,EMB]
 refine mU e (.region λe h=>?_) h
 simp only[seval,EMB]
 cases h
 simp only[seval,FMB,Tryz.results152]
 refine .exit λe h=>?_
 cases h
 simp only[seval,FMB,Tryz.results152]
 intro v2
 refine Mir.toK (.sR λe h=>?_)
 simp only[seval,EMB]
 refine mU e (.ret λe h=>?_) h
 cases h
 simp only[seval,FMB,Tryz.results152]
def ja(a0:Int)(a1:Int):Option Int:=aF (!(a1==0)) ( aF (!(a1==0)) ( bindO (if (decide ((zI a0 a1)<0))=true then some (zK.wrap ((zK.wrap (zG a0 a1))-1))else some (zK.wrap (zG a0 a1))) λ(v1:Int)=>some v1))
theorem ip_floor_spec{a0:Int}{a1:Int}{y:Int}(h:ja a0 a1=some y):Spec gP 153 [.d (.int .i64 a0),.d (.int .i64 a1)] (.d (.int .i64 y)):=by
 refine aB Tryz.func153 rfl (by kernel_rfl) (by kernel_rfl) (λy:Int=>.d (.int .i64 y)) ?_ h
 unfold ja
 simp only[zB,zD,nS,nA,Tryz.ntmps153,SV]
 refine .sR λe h=>?_
 simp only[seval,EMB]
 refine mU e (.seqK (.guard λq1=>?_)) h
 replace q1:=ne_of q1
 refine .region λe h=>?_
 simp only[seval,EMB,q1]
 refine mU e (.seqK (.seqK (.guard λq2=>?_))) h
 replace q2:=ne_of q2
 refine .region λe h=>?_
 simp only[seval,EMB,q2]
 refine mU e (Mir.joinO (λv1:Int=>([U,U,U,U,U,.d (.int .i64 v1)]++us 10)) (λv1=>⟨[],[]⟩) (λ_=>rfl) ?_ ?_) h
 refine .cond rfl (λhb4=>?_) (λhb4=>?_)
 refine .region λe h=>?_
 simp only[seval,EMB]
 cases h
 simp only[seval,FMB,Tryz.results153]
 refine .skip λe h=>?_
 cases h
 simp only[seval,FMB,Tryz.results153]
 intro v1
 refine Mir.toK (.sR λe h=>?_)
 simp only[seval,EMB]
 refine mU e (.ret λe h=>?_) h
 cases h
 simp only[seval,FMB,Tryz.results153]
end Go.Proofs.YtplhejpjnfjopaaGreatDoor
