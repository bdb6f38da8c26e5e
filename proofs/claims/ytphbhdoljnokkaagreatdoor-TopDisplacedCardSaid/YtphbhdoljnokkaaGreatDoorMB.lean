import Derived.Test.YtphbhdoljnokkaaGreatDoorMA
import Derived.Test.YtphbhdoljnokkaaGreatDoorMBa
open List renaming map → zA
open Int renaming tdiv → zB,toNat_natCast → zD,tmod → zF,reduceToNat → zG
open Go.IntKind renaming i64 → zH
namespace Go.Proofs.YtphbhdoljnokkaaGreatDoor
open Go.RowKit
open Nat renaming reduceAdd → nA,reduceSub → nS,reduceMul → nM,reduceEqDiff → nE,reduceLeDiff → nL,reduceLT → nT,reduceBEq → nB
open Int renaming reduceLT → iT,reduceToNat → iN,reduceEq → iE
set_option linter.unusedVariables false
set_option linter.unusedSimpArgs false
set_option maxRecDepth 100000
set_option maxHeartbeats 8000000
def ka(a0:bz):Option ((List ae)×Int):=ac (iF 72 (λv1:Int=>.tuple [.ptr 8 0,dI v1,dI 0]) (λv1:Int=>⟨[(cA a0),(cA a0),(cA a0),[.mapc .i64 (zA (ekv (evL al)) [])],[.mapc .i64 (zA (ekv (evI .i64)) [])],[.mapc .i64 (zA (ekv (evI .i64)) [])],[.mapc .i64 (zA (ekv (evI .i64)) [])],[.mapc .i64 (zA (ekv (evL al)) [])],[.mp 3,.mp 4,.mp 5,.mp 6,.mp 7]],[]⟩) (ac (iF 153 (λv2:Unit=>.tuple [.ptr 8 0,dI 0]) (λv2:Unit=>⟨[(cA a0),(cA a0),(cA a0),[.mapc .i64 (zA (ekv (evL al)) [])],[.mapc .i64 (zA (ekv (evI .i64)) [])],[.mapc .i64 (zA (ekv (evI .i64)) [])],[.mapc .i64 (zA (ekv (evI .i64)) [])],[.mapc .i64 (zA (ekv (evL al)) [])],[.mp 3,.mp 4,.mp 5,.mp 6,.mp 7]],[]⟩) (ac (mF (bz.mk a0.Main a0.Subs)) λ(y1:Bool)=>if (!y1)=true then none else ac (dR (λ(v3:Unit)=>lF ([U,.ptr 2 0,U,U,.ptr 8 0,.full (zA (eList al) [a0.Main])]++us 29++[dL bV a0.Subs,dI (a0.Subs.length:Int),dI 0]++us 72) ⟨[(cA a0),(cA a0),(cA a0),[.mapc .i64 (zA (ekv (evL al)) [])],[.mapc .i64 (zA (ekv (evI .i64)) [])],[.mapc .i64 (zA (ekv (evI .i64)) [])],[.mapc .i64 (zA (ekv (evI .i64)) [])],[.mapc .i64 (zA (ekv (evL al)) [])],[.mp 3,.mp 4,.mp 5,.mp 6,.mp 7]],[]⟩ ( if (decide (0<(a0.Subs.length:Int)))=true then ac (gt a0.Subs 0) λ(e1:dg)=>none else some (.ret ()))) fuel ()) λ(v4:Unit)=>jB 0 ([U,.ptr 2 0,U,U,.ptr 8 0,.full (zA (eList al) [a0.Main])]++us 104) ⟨[(cA a0),(cA a0),(cA a0),[.mapc .i64 (zA (ekv (evL al)) [])],[.mapc .i64 (zA (ekv (evI .i64)) [])],[.mapc .i64 (zA (ekv (evI .i64)) [])],[.mapc .i64 (zA (ekv (evI .i64)) [])],[.mapc .i64 (zA (ekv (evL al)) [])],[.mp 3,.mp 4,.mp 5,.mp 6,.mp 7]],[]⟩ ( ac (bO [a0.Main]) λ(y2:(List ae))=>bindX (aA (dN y2) ( aM (λ(i1:Nat) (e2:ae) (v5:Unit)=>rF ([U,.ptr 2 0,U,U,.ptr 8 0,U,U,U,.nil]++us 47++[dL al y2,dI (y2.length:Int),dI (i1:Int)]++us 51) ⟨[(cA a0),(cA a0),(cA a0),[.mapc .i64 (zA (ekv (evL al)) [])],[.mapc .i64 (zA (ekv (evI .i64)) [])],[.mapc .i64 (zA (ekv (evI .i64)) [])],[.mapc .i64 (zA (ekv (evI .i64)) [])],[.mapc .i64 (zA (ekv (evL al)) [])],[.mp 3,.mp 4,.mp 5,.mp 6,.mp 7]],[]⟩ ( ac (ov e2) λ(y3:Int×Int×Bool×Int)=>if (y3.2.2.2 != 0)=true then none else if y3.2.2.1=true then none else some (.go ()))) (λ(v5:Unit)=>some (.go ())) y2 0 ())) λ(v6:Unit)=>jB 2 ([U,.ptr 2 0,U,U,.ptr 8 0,U,U,U,.nil]++us 101) ⟨[(cA a0),(cA a0),(cA a0),[.mapc .i64 (zA (ekv (evL al)) [])],[.mapc .i64 (zA (ekv (evI .i64)) [])],[.mapc .i64 (zA (ekv (evI .i64)) [])],[.mapc .i64 (zA (ekv (evI .i64)) [])],[.mapc .i64 (zA (ekv (evL al)) [])],[.mp 3,.mp 4,.mp 5,.mp 6,.mp 7]],[]⟩ ( ac (some ()) λ(v7:Unit)=>jB 4 ([U,.ptr 2 0,U,U,.ptr 8 0]++us 105) ⟨[(cA a0),(cA a0),(cA a0),[.mapc .i64 (zA (ekv (evL al)) [])],[.mapc .i64 (zA (ekv (evI .i64)) [])],[.mapc .i64 (zA (ekv (evI .i64)) [])],[.mapc .i64 (zA (ekv (evI .i64)) [])],[.mapc .i64 (zA (ekv (evL al)) [])],[.mp 3,.mp 4,.mp 5,.mp 6,.mp 7]],[]⟩ ( ac (dR (λ(v8:Unit)=>lF ([U,U,U,U,.ptr 8 0]++us 92++[dL bV a0.Subs,dI (a0.Subs.length:Int),dI 0]++us 10) ⟨[(cA a0),(cA a0),(cA a0),[.mapc .i64 (zA (ekv (evL al)) [])],[.mapc .i64 (zA (ekv (evI .i64)) [])],[.mapc .i64 (zA (ekv (evI .i64)) [])],[.mapc .i64 (zA (ekv (evI .i64)) [])],[.mapc .i64 (zA (ekv (evL al)) [])],[.mp 3,.mp 4,.mp 5,.mp 6,.mp 7]],[]⟩ ( if (decide (0<(a0.Subs.length:Int)))=true then ac (gt a0.Subs 0) λ(e3:dg)=>none else some (.ret ()))) fuel ()) λ(v9:Unit)=>jB 6 ([U,U,U,U,.ptr 8 0]++us 105) ⟨[(cA a0),(cA a0),(cA a0),[.mapc .i64 (zA (ekv (evL al)) [])],[.mapc .i64 (zA (ekv (evI .i64)) [])],[.mapc .i64 (zA (ekv (evI .i64)) [])],[.mapc .i64 (zA (ekv (evI .i64)) [])],[.mapc .i64 (zA (ekv (evL al)) [])],[.mp 3,.mp 4,.mp 5,.mp 6,.mp 7]],[]⟩ ( some ())))))) λ(v2:Unit)=>ac (iF 154 (λv10:Int=>.tuple [dI 0,dI v10]) (λv10:Int=>⟨[(cA a0),(cA a0),(cA a0),[.mapc .i64 (zA (ekv (evL al)) [])],[.mapc .i64 (zA (ekv (evI .i64)) [])],[.mapc .i64 (zA (ekv (evI .i64)) [])],[.mapc .i64 (zA (ekv (evI .i64)) [])],[.mapc .i64 (zA (ekv (evL al)) [])],[.mp 3,.mp 4,.mp 5,.mp 6,.mp 7]],[]⟩) (ac (aA (dN a0.Main) ( aM (λ(i2:Nat) (e4:ae) (v11:Int)=>rF ([.ptr 8 0,U,U,U,U,U,dI 0,dI v11]++us 6++[dL al a0.Main,dI (a0.Main.length:Int),dI (i2:Int)]++us 39) ⟨[(cA a0),(cA a0),(cA a0),[.mapc .i64 (zA (ekv (evL al)) [])],[.mapc .i64 (zA (ekv (evI .i64)) [])],[.mapc .i64 (zA (ekv (evI .i64)) [])],[.mapc .i64 (zA (ekv (evI .i64)) [])],[.mapc .i64 (zA (ekv (evL al)) [])],[.mp 3,.mp 4,.mp 5,.mp 6,.mp 7]],[]⟩ ( ac (ov e4) λ(y4:Int×Int×Bool×Int)=>if (!y4.2.2.1)=true then some (.go (mmI false (zH.wrap (v11+1)) 20001))else none)) (λ(v11:Int)=>some v11) a0.Main 0 0)) λ(v12:Int)=>jB 0 (us 6++[dI 0,dI v12]++us 48) ⟨[(cA a0),(cA a0),(cA a0),[.mapc .i64 (zA (ekv (evL al)) [])],[.mapc .i64 (zA (ekv (evI .i64)) [])],[.mapc .i64 (zA (ekv (evI .i64)) [])],[.mapc .i64 (zA (ekv (evI .i64)) [])],[.mapc .i64 (zA (ekv (evL al)) [])],[.mp 3,.mp 4,.mp 5,.mp 6,.mp 7]],[]⟩ ( some v12))) λ(v10:Int)=>if (decide (v10>20000))=true then none else some v10)) λ(v1:Int)=>ac (iF 73 (λv13:(List ae)=>.own 0 (zA al v13)) (λv13:(List ae)=>⟨[(cA a0),(cA a0),(cA a0),[.mapc .i64 (zA (ekv (evL al)) [])],[.mapc .i64 (zA (ekv (evI .i64)) [])],[.mapc .i64 (zA (ekv (evI .i64)) [])],[.mapc .i64 (zA (ekv (evI .i64)) [])],[.mapc .i64 (zA (ekv (evL al)) [])],[.mp 3,.mp 4,.mp 5,.mp 6,.mp 7]],[(137,v13.length)]⟩) (gF [.slot 5 137] ( ac (aA (dN a0.Main) ( aM (λ(i3:Nat) (e5:ae) (v14:(List ae))=>rF ([.ptr 8 0,U,U,U,U,.own 0 (zA al v14)]++us 8++[dL al a0.Main,dI (a0.Main.length:Int),dI (i3:Int)]++us 53) ⟨[(cA a0),(cA a0),(cA a0),[.mapc .i64 (zA (ekv (evL al)) [])],[.mapc .i64 (zA (ekv (evI .i64)) [])],[.mapc .i64 (zA (ekv (evI .i64)) [])],[.mapc .i64 (zA (ekv (evI .i64)) [])],[.mapc .i64 (zA (ekv (evL al)) [])],[.mp 3,.mp 4,.mp 5,.mp 6,.mp 7]],[(137,v14.length)]⟩ ( ac (ac (ov e5) λ(y5:Int×Int×Bool×Int)=>if (!y5.2.2.1)=true then aA (cd (v14.length+1)) ( some ())else none) λ(v15:Unit)=>jB 1 ([.ptr 8 0,U,U,U,U,.own 0 (zA al (v14++[e5]))]++us 8++[dL al a0.Main,dI (a0.Main.length:Int),dI (i3:Int)]++us 53) ⟨[(cA a0),(cA a0),(cA a0),[.mapc .i64 (zA (ekv (evL al)) [])],[.mapc .i64 (zA (ekv (evI .i64)) [])],[.mapc .i64 (zA (ekv (evI .i64)) [])],[.mapc .i64 (zA (ekv (evI .i64)) [])],[.mapc .i64 (zA (ekv (evL al)) [])],[.mp 3,.mp 4,.mp 5,.mp 6,.mp 7]],[(137,v14.length+1)]⟩ ( some (.go (v14++[e5]))))) (λ(v14:(List ae))=>some v14) a0.Main 0 [])) λ(v16:(List ae))=>jB 0 ([U,U,U,U,U,.own 0 (zA al v16)]++us 64) ⟨[(cA a0),(cA a0),(cA a0),[.mapc .i64 (zA (ekv (evL al)) [])],[.mapc .i64 (zA (ekv (evI .i64)) [])],[.mapc .i64 (zA (ekv (evI .i64)) [])],[.mapc .i64 (zA (ekv (evI .i64)) [])],[.mapc .i64 (zA (ekv (evL al)) [])],[.mp 3,.mp 4,.mp 5,.mp 6,.mp 7]],[(137,v16.length)]⟩ ( some v16)))) λ(v13:(List ae))=>gF [.slot 7 137] ( ac (aA (dN v13) ( aM (λ(i4:Nat) (e6:ae) (v17:(List ae))=>rF (us 7++[.own 1 (zA al v17)]++us 14++[.own 0 (zA al v13),dI (v13.length:Int),dI (i4:Int)]++us 13) ⟨[(cA a0),(cA a0),(cA a0),[.mapc .i64 (zA (ekv (evL al)) [])],[.mapc .i64 (zA (ekv (evI .i64)) [])],[.mapc .i64 (zA (ekv (evI .i64)) [])],[.mapc .i64 (zA (ekv (evI .i64)) [])],[.mapc .i64 (zA (ekv (evL al)) [])],[.mp 3,.mp 4,.mp 5,.mp 6,.mp 7]],[(137,v13.length),(137,v17.length)]⟩ ( ac (eF e6.Words) λ(y6:(List aC))=>aA (cd (v17.length+1)) ( some (.go (v17++[ae.mk e6.Skip y6 e6.Comment]))))) (λ(v17:(List ae))=>some v17) v13 0 [])) λ(v18:(List ae))=>jB 0 (us 7++[.own 1 (zA al v18)]++us 30) ⟨[(cA a0),(cA a0),(cA a0),[.mapc .i64 (zA (ekv (evL al)) [])],[.mapc .i64 (zA (ekv (evI .i64)) [])],[.mapc .i64 (zA (ekv (evI .i64)) [])],[.mapc .i64 (zA (ekv (evI .i64)) [])],[.mapc .i64 (zA (ekv (evL al)) [])],[.mp 3,.mp 4,.mp 5,.mp 6,.mp 7]],[(137,v13.length),(137,v18.length)]⟩ ( some (v18,0)))
theorem qg{a0:bz}{y:(List ae)×Int}(h:ka a0=some y):Spec gP 26 [.agg (cA a0)] (.tuple [.d (.list (zA al y.1)),.d (.int .i64 y.2)]):=by
 refine auA Tryz.func26 (λy:(List ae)×Int=>.tuple [.d (.list (zA al y.1)),.d (.int .i64 y.2)]) ?_ h
 unfold ka
 refine .sA ?_
 refine .seqK (.bind λv1 h1=>.region λe h=>WA ?_)
 refine bf.inlA h1 ?_ ?_
 refine .sA ?_
 refine .seqK (.bind λv2 h2=>.region λe h=>WA ?_)
 refine bf.inlA h2 ?_ ?_
 refine .sA ?_
 refine .seqK (.seqK (.bind λy1 h3=>.region λe h=>WA ?_))
 refine .byA (sp_proper_spec.1 _ h3) (mA ?_ h)
 refine .cond rfl (λh4=>?_) (λh4=>?_)
 exact Mir.no
 refine .skip (Mir.toK (.seqK (.regionW λe h=>regW.alt 0 rfl ?_)))
 simp only[seval,EMA]
 refine iG .i64 (regW.alt 0 rfl ?_)
 simp only[seval,EMA,xMN]
 refine iG .i64 (regW.alt 0 rfl ?_)
 simp only[seval,EMA,xMN]
 refine iG .i64 (regW.alt 0 rfl ?_)
 simp only[seval,EMA,xMN]
 refine iG .i64 (regW.alt 0 rfl ?_)
 simp only[seval,EMA,xMN]
 refine iG .i64 (regW.of ?_)
 simp only[seval,EMA,xMN]
 refine mU e (.sR λe h=>?_) h
 simp only[seval,EMA,(oL 1)]
 refine mU e (.seqK (.sA ?_)) h
 refine Mir.jOB (λ_=>rfl) ?_ ?_
 refine .block (Mir.lF (λ_=>rfl) (by simp only[seval,FMA]) (by simp only[seval,FMA]) λv3=>.sA ?_)
 refine .seqK (.cond rfl (λh5=>?_) (λh5=>?_))
 refine .skip (Mir.toK (.seqK (.block (.seqK (.bind λe1 q1=>?_)))))
 replace q1:=gq q1
 simp only[zG,Int.reduceLT,Nat.sub_zero,dp0]at q1
 refine .region λe h=>?_
 simp only[seval,EMA,q1]
 refine mU e (.seqK ?_) h
 exact Mir.no
 refine .exit QA
 intro v4
 refine Mir.toK (.sA ?_)
 refine .seqK (.seqK (.bind λy2 h6=>.region λe h=>WA ?_))
 refine .byA (df h6) (mA ?_ h)
 refine Mir.jXB (λ_=>rfl) ?_ ?_
 refine .block (.guard λq2=>Mir.rF q2 (λ_ _=>rfl) (by simp only[seval,FMA,zNI]) (by simp only[seval,FMA,zNI]) ?_ ?_)
 intro i1 e2 v5 q3
 refine .sR λe h=>?_
 simp only[seval,EMA,q3]
 refine mU e (.seqK (.condT rfl (.skip (Mir.toK (.seqK (.block (.sR λe h=>?_))))))) h
 simp only[seval,EMA,q3,zD]
 refine mU e (.seqK (.bind λy3 h7=>.region λe h=>WA ?_)) h
 refine .byA (ou.1 _ h7) (mA ?_ h)
 refine .seqK (.sA ?_)
 refine .cond rfl (λh8=>?_) (λh8=>?_)
 exact Mir.no
 refine .skip (Mir.toK (.sA ?_))
 refine .cond rfl (λh9=>?_) (λh9=>?_)
 exact Mir.no
 refine .skip (Mir.toB (Mir.toK (.region λe h=>?_)))
 simp only[seval,EMA]
 cases h
 simp only[seval,FMA,q3]
 intro v5 q4
 refine .sR λe h=>?_
 simp only[seval,EMA,q4]
 refine mU e (.seqK (.condF rfl (.exit QA))) h
 intro v6
 refine Mir.toK (.seqK (.sR λe h=>?_))
 simp only[seval,EMA,(nr rfl:((0:Nat):Int)=0)]
 refine mU e (Mir.jOB (λ_=>rfl) ?_ ?_) h
 refine .block (.loopR 15 (.sA ?_))
 refine .seqK (.condF rfl (.exit QA))
 intro v7
 refine Mir.toK (.seqK (.sA ?_))
 refine Mir.jOB (λ_=>rfl) ?_ ?_
 refine .block (Mir.lF (λ_=>rfl) (by simp only[seval,FMA]) (by simp only[seval,FMA]) λv8=>.sA ?_)
 refine .seqK (.cond rfl (λh10=>?_) (λh10=>?_))
 refine .skip (Mir.toK (.seqK (.block (.seqK (.bind λe3 q5=>?_)))))
 replace q5:=gq q5
 simp only[zG,Int.reduceLT,Nat.sub_zero,dp0]at q5
 refine .region λe h=>?_
 simp only[seval,EMA,q5]
 refine mU e (.seqK ?_) h
 exact Mir.no
 refine .exit QA
 intro v9
 refine Mir.toK (.sA ?_)
 refine .ret QA
 simp only[seval,EMA]
 refine mU e (.seqK (.sR λe h=>?_)) h
 simp only[seval,EMA,(nr rfl:((0:Int) != 0)=false)]
 refine mU e (.condF rfl (.skip (Mir.toK (.seqK (.bind λv10 h11=>.region λe h=>WA ?_))))) h
 refine bf.inlA h11 ?_ ?_
 refine .sA ?_
 refine .sA ?_
 refine .seqK (.sA ?_)
 refine Mir.jOB (λ_=>rfl) ?_ ?_
 refine .block (.guard λq6=>Mir.rF q6 (λ_ _=>rfl) (by simp only[seval,FMA,zNI]) (by simp only[seval,FMA,zNI]) ?_ ?_)
 intro i2 e4 v11 q7
 refine .sR λe h=>?_
 simp only[seval,EMA,q7]
 refine mU e (.seqK (.condT rfl (.skip (Mir.toK (.seqK (.block (.sR λe h=>?_))))))) h
 simp only[seval,EMA,q7,zD]
 refine mU e (.seqK (.bind λy4 h12=>.region λe h=>WA ?_)) h
 refine .byA (ou.1 _ h12) (mA ?_ h)
 refine .seqK (.sA ?_)
 refine .cond rfl (λh13=>?_) (λh13=>?_)
 refine .region λe h=>WA ?_
 refine mU e (.region λe h=>WA ?_) h
 refine mU e (.region λe h=>?_) h
 simp only[seval,EMA]
 cases h
 simp only[seval,FMA,q7]
 refine .seqK ?_
 exact Mir.no
 intro v11 q8
 refine .sR λe h=>?_
 simp only[seval,EMA,q8]
 refine mU e (.seqK (.condF rfl (.exit QA))) h
 intro v12
 refine Mir.toK (.sA ?_)
 refine .ret QA
 simp only[seval,EMA]
 refine mU e (.seqK (.sR λe h=>?_)) h
 simp only[seval,EMA,(nr rfl:(decide ((0:Int)>8))=false)]
 refine mU e (.cond rfl (λh14=>?_) (λh14=>?_)) h
 exact Mir.no
 refine .skip (Mir.toK (.sA ?_))
 refine .ret QA
 simp only[seval,EMA]
 refine mU e (.seqK (.sR λe h=>?_)) h
 simp only[seval,EMA,(nr rfl:((0:Int) != 0)=false)]
 refine mU e (.condF rfl (.skip (Mir.toK (.sA ?_)))) h
 refine .seqK (.seqK (.bind λv13 h15=>.region λe h=>WA ?_))
 refine bf.inlA h15 ?_ ?_
 refine .sA ?_
 refine .sA ?_
 refine .seqK (.sA ?_)
 refine Mir.gF rfl (Mir.jOB (λ_=>rfl) ?_ ?_)
 refine .block (.guard λq9=>Mir.rF q9 (λ_ _=>rfl) (by simp only[seval,FMA,zNI]) (by simp only[seval,FMA,zNI]) ?_ ?_)
 intro i3 e5 v14 q10
 refine .sR λe h=>?_
 simp only[seval,EMA,q10]
 refine mU e (.seqK (.condT rfl (.skip (Mir.toK (.seqK (Mir.jOB (λ_=>rfl) ?_ ?_)))))) h
 refine .block (.sR λe h=>?_)
 simp only[seval,EMA,q10,zD]
 refine mU e (.seqK (.bind λy5 h16=>.region λe h=>WA ?_)) h
 refine .byA (ou.1 _ h16) (mA ?_ h)
 refine .seqK (.sA ?_)
 refine .cond rfl (λh17=>?_) (λh17=>?_)
 refine .seqK (.guard λq11=>.region λe h=>?_)
 simp only[seval,EMA,(oL 3),q11]
 refine mU e (.exit QA) h
 refine .skip (Mir.toK (.seqK ?_))
 exact Mir.no
 intro v15
 refine Mir.toK (.region λe h=>?_)
 simp only[seval,EMA]
 cases h
 simp only[seval,FMA,q10]
 intro v14 q12
 refine .sR λe h=>?_
 simp only[seval,EMA,q12]
 refine mU e (.seqK (.condF rfl (.exit QA))) h
 intro v16
 refine Mir.toK (.sA ?_)
 refine .ret QA
 simp only[seval,EMA]
 refine mU e (Mir.gF rfl (Mir.jOB (λ_=>rfl) ?_ ?_)) h
 refine .block (.guard λq13=>Mir.rF q13 (λ_ _=>rfl) (by simp only[seval,FMA,zNI]) (by simp only[seval,FMA,zNI]) ?_ ?_)
 intro i4 e6 v17 q14
 refine .sR λe h=>?_
 simp only[seval,EMA,q14]
 refine mU e (.seqK (.condT rfl (.skip (Mir.toK (.seqK (.block (.sR λe h=>?_))))))) h
 simp only[seval,EMA,q14,zD]
 refine mU e (.seqK (.bind λy6 h18=>.region λe h=>WA ?_)) h
 refine .byA (du h18) (mA ?_ h)
 refine .guard λq15=>.region λe h=>?_
 simp only[seval,EMA,(oL 3),q15]
 refine mU e (.region λe h=>?_) h
 simp only[seval,EMA]
 cases h
 simp only[seval,FMA,q14]
 intro v17 q16
 refine .sR λe h=>?_
 simp only[seval,EMA,q16]
 refine mU e (.seqK (.condF rfl (.exit QA))) h
 intro v18
 refine Mir.toK (.sA ?_)
 refine .ret QA
instance:Sp 26 (type_of% @qg):=⟨@qg⟩
def nH(a0:ae):Option Int:=bindX (aA (dN a0.Words) ( aM (λ(i1:Nat) (e1:aC) (v1:(List (Int×Bool))×(List (Int×Bool)))=>rF ([U,U,U,.mp 1,.mp 2]++us 6++[dL az a0.Words,dI (a0.Words.length:Int),dI (i1:Int)]++us 44) ⟨[(cB a0),[.mapc .u8 (zA (ekv evB) v1.1)],[.mapc .i64 (zA (ekv evB) v1.2)]],[]⟩ ( bindX (bindX (if (e1.Letter==71)=true then ac (nG e1.Value) λ(y1:Int)=>ac (if (y1==0)=true then some true else some ((mget v1.2 y1).getD false)) λ(v2:Bool)=>jR 9 ([U,U,U,.mp 1,.mp 2,U,U,dI y1,U,U,U,dL az a0.Words,dI (a0.Words.length:Int),dI (i1:Int)]++us 16++[dB v2]++us 27) ⟨[(cB a0),[.mapc .u8 (zA (ekv evB) v1.1)],[.mapc .i64 (zA (ekv evB) v1.2)],(cC e1)],[]⟩ ( if v2=true then some (.ret (.ret (.ret (.ret 1))))else some (.ret (.go (v1.1,mput v1.2 y1 true))))else if (e1.Letter==70)=true then if (decide (e1.Value<0))=true then some (.ret (.ret (.ret (.ret 1))))else some (.go ())else ac (if (e1.Letter==84)=true then some (e1.Letter==84)else some (e1.Letter==72)) λ(v3:Bool)=>jC ([U,U,U,.mp 1,.mp 2,U,.ptr 3 0,U,U,U,U,dL az a0.Words,dI (a0.Words.length:Int),dI (i1:Int)]++us 24++[dB v3]++us 19) ⟨[(cB a0),[.mapc .u8 (zA (ekv evB) v1.1)],[.mapc .i64 (zA (ekv evB) v1.2)],(cC e1)],[]⟩ ( if v3=true then jV 17 ([U,U,U,.mp 1,.mp 2,U,.ptr 3 0,U,U,U,U,dL az a0.Words,dI (a0.Words.length:Int),dI (i1:Int)]++us 35++[dB ((decide (e1.Value<0))||((zF e1.Value 1000) != 0))]++us 8) ⟨[(cB a0),[.mapc .u8 (zA (ekv evB) v1.1)],[.mapc .i64 (zA (ekv evB) v1.2)],(cC e1)],[]⟩ ( if ((decide (e1.Value<0))||((zF e1.Value 1000) != 0))=true then some (.ret (.ret (.ret (.ret 1))))else some (.go ()))else some (.go ()))) λ(v4:Unit)=>jB 2 ([U,U,U,.mp 1,.mp 2,U,.ptr 3 0,U,U,U,U,dL az a0.Words,dI (a0.Words.length:Int),dI (i1:Int)]++us 44) ⟨[(cB a0),[.mapc .u8 (zA (ekv evB) v1.1)],[.mapc .i64 (zA (ekv evB) v1.2)],(cC e1)],[]⟩ ( if ((mget v1.1 e1.Letter).getD false)=true then some (.ret (.ret (.ret 1)))else some (.go (mput v1.1 e1.Letter true,v1.2)))) λ(v5:(List (Int×Bool))×(List (Int×Bool)))=>jB 1 ([U,U,U,.mp 1,.mp 2]++us 6++[dL az a0.Words,dI (a0.Words.length:Int),dI (i1:Int)]++us 44) ⟨[(cB a0),[.mapc .u8 (zA (ekv evB) v5.1)],[.mapc .i64 (zA (ekv evB) v5.2)]],[]⟩ ( some (.go (v5.1,v5.2))))) (λ(v1:(List (Int×Bool))×(List (Int×Bool)))=>some (.go (v1.1,v1.2))) a0.Words 0 ([],[]))) λ(v6:(List (Int×Bool))×(List (Int×Bool)))=>jB 0 (us 58) ⟨[(cB a0),[.mapc .u8 (zA (ekv evB) v6.1)],[.mapc .i64 (zA (ekv evB) v6.2)]],[]⟩ ( some 0)
theorem kC{a0:ae}{y:Int}(h:nH a0=some y):Spec gP 157 [.agg (cB a0)] (.d (.int .i64 y)):=by
 refine auA Tryz.func157 (λy:Int=>.d (.int .i64 y)) ?_ h
 unfold nH
 refine .sA ?_
 refine .seqK (.regionW λe h=>regW.alt 0 rfl ?_)
 simp only[seval,EMA]
 refine iG .u8 (regW.of ?_)
 simp only[seval,EMA,xMN]
 refine mU e (.seqK (.regionW λe h=>regW.alt 0 rfl ?_)) h
 simp only[seval,EMA]
 refine iG .i64 (regW.of ?_)
 simp only[seval,EMA,xMN]
 refine mU e (.seqK (.sA ?_)) h
 refine Mir.jXB (λ_=>rfl) ?_ ?_
 refine .block (.guard λq1=>Mir.rF q1 (λ_ _=>rfl) (by simp only[seval,FMA,zNI]) (by simp only[seval,FMA,zNI]) ?_ ?_)
 intro i1 e1 v1 q2
 refine .sR λe h=>?_
 simp only[seval,EMA,q2]
 refine mU e (.seqK (.condT rfl (.skip (Mir.toK (.seqK (Mir.jXB (λ_=>rfl) ?_ ?_)))))) h
 refine .block (.sR λe h=>?_)
 simp only[seval,EMA,q2,zD]
 refine mU e (.seqK (.sA ?_)) h
 refine Mir.jXB (λ_=>rfl) ?_ ?_
 refine .block (.sA ?_)
 refine .cond rfl (λh1=>?_) (λh1=>?_)
 refine .seqK (.bind λy1 h2=>.region λe h=>WA ?_)
 refine .byA (md_Group_spec.1 _ h2) (mA ?_ h)
 refine .seqK (.seqK (Mir.jOR (λ_=>rfl) ?_ ?_))
 refine .ite (λh3=>?_) (λh3=>?_)
 exact zzA
 refine .regionW λe h=>regW.alt 5 rfl ?_
 simp only[seval,EMA,h3]
 refine alt_lookup rfl rfl rfl (by simp only[mapT,und_297,und_3]) zero_4 rfl (regW.of ?_)
 simp only[seval,EMA,mg_B,h3]
 exact zzA
 intro v2
 refine Mir.toK (.cond rfl (λh4=>?_) (λh4=>?_))
 exact zzA
 refine .skip (Mir.toK (.seqK (.regionW λe h=>regW.alt 2 rfl ?_)))
 simp only[seval,EMA]
 refine alt_mapUpdate (et:=4) rfl rfl rfl rfl (by simp only[mapT,und_297,und_3]) (regW.of ?_)
 simp only[seval,EMA,mp_B]
 exact zzA
 exact zzA
 intro v4
 refine Mir.toK (.seqK (.seqK (.regionW λe h=>regW.alt 3 rfl ?_)))
 simp only[seval,EMA]
 refine alt_lookup rfl rfl rfl (by simp only[mapT,und_296,und_5]) zero_4 rfl (regW.of ?_)
 simp only[seval,EMA,mg_B]
 refine mU e (.cond rfl (λh11=>?_) (λh11=>?_)) h
 exact zzA
 refine .skip (Mir.toK (.regionW λe h=>regW.alt 3 rfl ?_))
 simp only[seval,EMA]
 refine alt_mapUpdate (et:=4) rfl rfl rfl rfl (by simp only[mapT,und_296,und_5]) (regW.of ?_)
 simp only[seval,EMA,mp_B]
 exact zzA
 exact zzA
 exact zzA
 exact zzA
instance:Sp 157 (type_of% @kC):=⟨@kC⟩
def mV(a0:ae):Option Bool:=bindX (aA (dN a0.Words) ( aM (λ(i1:Nat) (e1:aC) (v1:Unit)=>rF (us 6++[dL az a0.Words,dI (a0.Words.length:Int),dI (i1:Int)]++us 31) ⟨[(cB a0)],[]⟩ ( bindX (ac (if (e1.Letter==71)=true then some (e1.Letter==71)else if (e1.Letter==84)=true then some (e1.Letter==84)else if (e1.Letter==70)=true then some (e1.Letter==70)else if (e1.Letter==72)=true then some (e1.Letter==72)else if (e1.Letter==78)=true then some (e1.Letter==78)else if (e1.Letter==88)=true then some (e1.Letter==88)else if (e1.Letter==89)=true then some (e1.Letter==89)else if (e1.Letter==90)=true then some (e1.Letter==90)else if (e1.Letter==73)=true then some (e1.Letter==73)else if (e1.Letter==74)=true then some (e1.Letter==74)else if (e1.Letter==81)=true then some (e1.Letter==81)else some (e1.Letter==82)) λ(v2:Bool)=>jC ([U,U,U,U,.ptr 1 0,U,dL az a0.Words,dI (a0.Words.length:Int),dI (i1:Int),U,U,U,U,.d (.int .u8 e1.Letter),dB v2]++us 25) ⟨[(cB a0),(cC e1)],[]⟩ ( if v2=true then some (.go ())else if (e1.Letter==77)=true then ac (aW [0,1000,3000,4000,5000,6000,8000,9000,30000] e1.Value) λ(y1:Bool)=>if (!y1)=true then some (.ret (.ret (.ret false)))else some (.go ())else if (e1.Letter==83)=true then if (decide (e1.Value<0))=true then some (.ret (.ret (.ret false)))else some (.go ())else some (.ret (.ret (.ret false))))) λ(v3:Unit)=>jB 1 (us 6++[dL az a0.Words,dI (a0.Words.length:Int),dI (i1:Int)]++us 31) ⟨[(cB a0)],[]⟩ ( some (.go ())))) (λ(v1:Unit)=>some (.go ())) a0.Words 0 ())) λ(v4:Unit)=>jB 0 (us 40) ⟨[(cB a0)],[]⟩ ( some true)
instance inp_known_spec:Sp 158 (∀{a0:ae},Ct 158 [.agg (cB a0)] (λy:Bool=>.d (.bool y)) (mV a0)):=⟨zzF Tryz.func158 (mV.eq_1 ..)⟩
def md_put(a0:ao)(a1:aC):Option ao:=ac (if (a1.Letter==71)=true then ac (ac (nG a1.Value) λ(y1:Int)=>aA (decide (0≤(zH.wrap (y1-1))∧(zH.wrap (y1-1))<5)) ( if ((zH.wrap (y1-1))==0)=true then some (ao.mk a1.Value a0.Distance a0.Work a0.Length a0.Return a0.Feed a0.Tool a0.Offset)else if ((zH.wrap (y1-1))==1)=true then some (ao.mk a0.Motion a1.Value a0.Work a0.Length a0.Return a0.Feed a0.Tool a0.Offset)else if ((zH.wrap (y1-1))==2)=true then some (ao.mk a0.Motion a0.Distance a1.Value a0.Length a0.Return a0.Feed a0.Tool a0.Offset)else if ((zH.wrap (y1-1))==3)=true then some (ao.mk a0.Motion a0.Distance a0.Work a1.Value a0.Return a0.Feed a0.Tool a0.Offset)else some (ao.mk a0.Motion a0.Distance a0.Work a0.Length a1.Value a0.Feed a0.Tool a0.Offset))) λ(v1:ao)=>jR 4 ([U,U,.ptr 0 0,U,.ptr 2 0]++us 37) ⟨[(cD v1),(cC a1),cZ,[.ptr 0 0,.ptr 0 1,.ptr 0 2,.ptr 0 3,.ptr 0 4]],[]⟩ ( some v1)else if (a1.Letter==70)=true then some (ao.mk a0.Motion a0.Distance a0.Work a0.Length a0.Return a1.Value a0.Tool a0.Offset)else if (a1.Letter==84)=true then some (ao.mk a0.Motion a0.Distance a0.Work a0.Length a0.Return a0.Feed a1.Value a0.Offset)else if (a1.Letter==72)=true then some (ao.mk a0.Motion a0.Distance a0.Work a0.Length a0.Return a0.Feed a0.Tool a1.Value)else some a0) λ(v2:ao)=>jB 0 ([U,U,.ptr 0 0,U,.ptr 2 0]++us 37) ⟨[(cD v2),(cC a1),cZ],[]⟩ ( some v2)
theorem md_put_spec{a0:ao}{a1:aC}{y:ao}(h:md_put a0 a1=some y):Spec gP 195 [.agg (cD a0),.agg (cC a1)] (.agg [.d (.int .i64 y.Motion),.d (.int .i64 y.Distance),.d (.int .i64 y.Work),.d (.int .i64 y.Length),.d (.int .i64 y.Return),.d (.int .i64 y.Feed),.d (.int .i64 y.Tool),.d (.int .i64 y.Offset)]):=by
 refine auA Tryz.func195 (λy:ao=>.agg [.d (.int .i64 y.Motion),.d (.int .i64 y.Distance),.d (.int .i64 y.Work),.d (.int .i64 y.Length),.d (.int .i64 y.Return),.d (.int .i64 y.Feed),.d (.int .i64 y.Tool),.d (.int .i64 y.Offset)]) ?_ h
 unfold md_put
 refine .sA ?_
 refine .seqK (.sA ?_)
 refine Mir.jOB (λ_=>rfl) ?_ ?_
 refine .block (.sA ?_)
 refine .cond rfl (λhb12=>?_) (λhb12=>?_)
 refine .sR λe h=>?_
 simp only[seval,EMA,(oL 5)]
 refine mU e (Mir.jOR (λ_=>rfl) ?_ ?_) h
 refine .bind λy1 hy13=>.guard λqi14=>.ite (λhb15=>?_) (λhb15=>?_)
 exact zzA
 refine .ite (λhb16=>?_) (λhb16=>?_)
 exact zzA
 refine .ite (λhb17=>?_) (λhb17=>?_)
 exact zzA
 refine .ite (λhb18=>?_) (λhb18=>?_)
 exact zzA
 have hz19:zH.wrap (y1-1)=4:=by have h0:=ra qi14;have h1:=b9 hb15;have h2:=b9 hb16;have h3:=b9 hb17;have h4:=b9 hb18;omega
 exact zzA
 exact zzA
 exact zzA
 exact zzA
instance:Sp 195 (type_of% @md_put_spec):=⟨@md_put_spec⟩
def md_Apply(a0:ao)(a1:ae):Option (ao×Int):=ac (nH a1) λ(y1:Int)=>if (y1 != 0)=true then some (ao.mk 0 0 0 0 0 0 0 0,y1)else ac (aA (dN a1.Words) ( aM (λ(i1:Nat) (e1:aC) (v1:ao)=>rF ([U,U,.ptr 0 0,U,.ptr 2 0]++us 11++[dL az a1.Words,dI (a1.Words.length:Int),dI (i1:Int)]++us 8) ⟨[(cD v1),(cB a1),cZ],[]⟩ ( ac (md_put v1 e1) λ(y2:ao)=>some (.go y2))) (λ(v1:ao)=>some v1) a1.Words 0 a0)) λ(v2:ao)=>jB 0 ([U,U,.ptr 0 0,U,.ptr 2 0]++us 22) ⟨[(cD v2),(cB a1),cZ],[]⟩ ( some (v2,0))
instance md_Apply_spec:Sp 124 (∀{a0:ao} {a1:ae},Ct 124 [.agg (cD a0),.agg (cB a1)] (λy:ao×Int=>.tuple [.agg [.d (.int .i64 y.1.Motion),.d (.int .i64 y.1.Distance),.d (.int .i64 y.1.Work),.d (.int .i64 y.1.Length),.d (.int .i64 y.1.Return),.d (.int .i64 y.1.Feed),.d (.int .i64 y.1.Tool),.d (.int .i64 y.1.Offset)],.d (.int .i64 y.2)]) (md_Apply a0 a1)):=⟨zzF Tryz.func124 (md_Apply.eq_1 ..)⟩
def ib(a0:Int):Option Bool:=jV 1 ([U,U,dB ((a0==81000)||((a0==82000)||(a0==83000)))]++us 10) ⟨[],[]⟩ ( some ((a0==81000)||((a0==82000)||(a0==83000))))
instance jh:Sp 159 (∀{a0:Int},Ct 159 [dI a0] (λy:Bool=>.d (.bool y)) (ib a0)):=⟨zzF Tryz.func159 (ib.eq_1 ..)⟩
def mv(a0:ae)(a1:Int):Option (Int×Bool):=bindX (aA (dN a0.Words) ( aM (λ(i1:Nat) (e1:aC) (v1:Unit)=>rF ([U,.d (.int .u8 a1)]++us 7++[dL az a0.Words,dI (a0.Words.length:Int),dI (i1:Int)]++us 10) ⟨[(cB a0)],[]⟩ ( if (e1.Letter==a1)=true then some (.ret (.ret (e1.Value,true)))else some (.go ()))) (λ(v1:Unit)=>some (.go ())) a0.Words 0 ())) λ(v2:Unit)=>jB 0 (us 22) ⟨[(cB a0)],[]⟩ ( some (0,false))
instance bk_Find_spec:Sp 130 (∀{a0:ae} {a1:Int},Ct 130 [.agg (cB a0),.d (.int .u8 a1)] (λy:Int×Bool=>.tuple [.d (.int .i64 y.1),.d (.bool y.2)]) (mv a0 a1)):=⟨zzF Tryz.func130 (mv.eq_1 ..)⟩
def kq(a0:ae)(a1:(List UInt8)):Option Bool:=bindX (aA (dN a1) ( aM (λ(i1:Nat) (c1:UInt8) (v1:Unit)=>rF ([U,dS a1,.ptr 0 0]++us 6++[dI (a1.length:Int),dI (i1:Int)]++us 12) ⟨[(cB a0)],[]⟩ ( ac (mv a0 (c1.toNat:Int)) λ(y1:Int×Bool)=>if y1.2=true then some (.ret (.ret true))else some (.go ()))) (λ(v1:Unit)=>some (.go ())) a1 0 ())) λ(v2:Unit)=>jB 0 (us 23) ⟨[(cB a0)],[]⟩ ( some false)
instance dj:Sp 160 (∀{a0:ae} {a1:(List UInt8)},Ct 160 [.agg (cB a0),dS a1] (λy:Bool=>.d (.bool y)) (kq a0 a1)):=⟨zzF Tryz.func160 (kq.eq_1 ..)⟩
def tb_slot(a0:Int):Option (Int×Int):=jV 1 ([dI a0]++us 13++[dB (((zF a0 1000) != 0)||((decide (a0<54000))||(decide (a0>59000)))),U,U,U]) ⟨[],[]⟩ ( if (((zF a0 1000) != 0)||((decide (a0<54000))||(decide (a0>59000))))=true then some (0,4)else some (zH.wrap ((zH.wrap (zB a0 1000))-54),0))
instance tb_slot_spec:Sp 253 (∀{a0:Int},Ct 253 [dI a0] (λy:Int×Int=>.tuple [.d (.int .i64 y.1),.d (.int .i64 y.2)]) (tb_slot a0)):=⟨zzF Tryz.func253 (tb_slot.eq_1 ..)⟩
def gN(a0:Int):Option Bool:=some (a0 != a0)
instance cmp_isNaN_int64_spec:Sp 330 (∀{a0:Int},Ct 330 [dI a0] (λy:Bool=>.d (.bool y)) (gN a0)):=⟨zzF Tryz.func330 (gN.eq_1 ..)⟩
def fS(a0:Int)(a1:Int):Option Int:=ac (gN a0) λ(y1:Bool)=>ac (gN a1) λ(y2:Bool)=>if y1=true then if y2=true then some 0 else some (-1)else if y2=true then some 1 else if (decide (a0<a1))=true then some (-1)else if (decide (a0>a1))=true then some 1 else some 0
instance cmp_Compare_int64_spec:Sp 315 (∀{a0:Int} {a1:Int},Ct 315 [dI a0,dI a1] (λy:Int=>.d (.int .i64 y)) (fS a0 a1)):=⟨zzF Tryz.func315 (fS.eq_1 ..)⟩
def kK(a0:aZ)(a1:Int):Option Int:=ac (fS a0.Number a1) λ(y1:Int)=>some y1
instance tb_find_c1_spec:Sp 314 (∀{a0:aZ} {a1:Int},Ct 314 [.agg (cE a0),dI a1] (λy:Int=>.d (.int .i64 y)) (kK a0 a1)):=⟨zzF Tryz.func314 (kK.eq_1 ..)⟩
def tb_find(a0:aw)(a1:Int):Option (Int×Bool):=ac (iF 313 (λv1:Int×Bool=>.tuple [dI v1.1,dB v1.2]) (λv1:Int×Bool=>⟨[(w6 a0.Work [dL au a0.Lengths])],[]⟩) (ac (dR (λ(v2:Int×Int)=>lF ([dL au a0.Lengths,dI a1,.fn 314 [],U,U,U,U,U,dI (a0.Lengths.length:Int),dI v2.1,dI v2.2]++us 38) ⟨[(w6 a0.Work [dL au a0.Lengths])],[]⟩ ( if (decide (v2.1<v2.2))=true then ac (gt a0.Lengths (zH.wrap (shrI .u64 (IntKind.u64.wrap (zH.wrap (v2.1+v2.2))) 1))) λ(e1:aZ)=>ac (kK e1 a1) λ(y1:Int)=>if (decide (y1<0))=true then some (.go (zH.wrap ((zH.wrap (shrI .u64 (IntKind.u64.wrap (zH.wrap (v2.1+v2.2))) 1))+1),v2.2))else some (.go (v2.1,zH.wrap (shrI .u64 (IntKind.u64.wrap (zH.wrap (v2.1+v2.2))) 1)))else some (.ret v2.1))) fuel (0,(a0.Lengths.length:Int))) λ(v3:Int)=>jB 0 ([dL au a0.Lengths,dI a1,.fn 314 [],U,U,U,U,U,dI (a0.Lengths.length:Int),dI v3]++us 39) ⟨[(w6 a0.Work [dL au a0.Lengths])],[]⟩ ( ac (if (decide (v3<(a0.Lengths.length:Int)))=true then ac (gt a0.Lengths v3) λ(e2:aZ)=>ac (kK e2 a1) λ(y2:Int)=>some (y2==0)else some false) λ(v4:Bool)=>jR 8 (us 6++[dI v3,dB v4]++us 41) ⟨[(w6 a0.Work [dL au a0.Lengths])],[]⟩ ( some (v3,v4))))) λ(v1:Int×Bool)=>some (v1.1,v1.2)
instance tb_find_spec:Sp 287 (∀{a0:aw} {a1:Int},Ct 287 [.agg (w6 a0.Work [.d (.list (zA au a0.Lengths))]),dI a1] (λy:Int×Bool=>.tuple [.d (.int .i64 y.1),.d (.bool y.2)]) (tb_find a0 a1)):=⟨zzF Tryz.func287 (tb_find.eq_1 ..)⟩
def k9(a0:aw)(a1:Int):Option (Int×Int):=if (a1==0)=true then some (0,0)else ac (tb_find (aw.mk a0.Work a0.Lengths) a1) λ(y1:Int×Bool)=>if (!y1.2)=true then some (0,4)else ac (gt a0.Lengths y1.1) λ(e1:aZ)=>some (e1.Length,0)
instance tb_length_spec:Sp 254 (∀{a0:aw} {a1:Int},Ct 254 [.agg (w6 a0.Work [.d (.list (zA au a0.Lengths))]),dI a1] (λy:Int×Int=>.tuple [.d (.int .i64 y.1),.d (.int .i64 y.2)]) (k9 a0 a1)):=⟨zzF Tryz.func254 (k9.eq_1 ..)⟩
def jZ(a0:aw)(a1:Int)(a2:Int):Option (ag×Int):=ac (iu a0) λ(y1:Int)=>if (y1 != 0)=true then some (ag.mk 0 0 0,y1)else ac (tb_slot a1) λ(y2:Int×Int)=>ac (k9 (aw.mk a0.Work a0.Lengths) a2) λ(y3:Int×Int)=>jV 6 ([U,U,U,.ptr 0 0,U,U,.ptr 1 0,U,U,dI y2.1,U,dI y3.1]++us 24++[dB ((y2.2 != 0)||(y3.2 != 0))]++us 11) ⟨[(w6 a0.Work [dL au a0.Lengths]),dA],[]⟩ ( if ((y2.2 != 0)||(y3.2 != 0))=true then some (ag.mk 0 0 0,4)else ac (aA (decide (0≤y2.1∧y2.1<6)) ( if (y2.1==0)=true then some a0.Work.e0 else if (y2.1==1)=true then some a0.Work.e1 else if (y2.1==2)=true then some a0.Work.e2 else if (y2.1==3)=true then some a0.Work.e3 else if (y2.1==4)=true then some a0.Work.e4 else some a0.Work.e5)) λ(v1:ag)=>jR 8 (us 6++[.ptr 1 0,U,U,U,U,dI y3.1,U,.ptr 2 0]++us 34) ⟨[(w6 a0.Work [dL au a0.Lengths]),dA,(cF v1)],[]⟩ ( some (ag.mk v1.X v1.Y (zH.wrap (v1.Z+y3.1)),0)))
theorem qe{a0:aw}{a1:Int}{a2:Int}{y:ag×Int}(h:jZ a0 a1 a2=some y):Spec gP 215 [.agg (w6 a0.Work [.d (.list (zA au a0.Lengths))]),dI a1,dI a2] (.tuple [.agg [.d (.int .i64 y.1.X),.d (.int .i64 y.1.Y),.d (.int .i64 y.1.Z)],.d (.int .i64 y.2)]):=by
 refine auA Tryz.func215 (λy:ag×Int=>.tuple [.agg [.d (.int .i64 y.1.X),.d (.int .i64 y.1.Y),.d (.int .i64 y.1.Z)],.d (.int .i64 y.2)]) ?_ h
 unfold jZ
 refine .sA ?_
 refine .seqK (.seqK (.bind λy1 hy1=>.region λe h=>WA ?_))
 refine .byA (tb_Valid_spec.1 _ hy1) (mA ?_ h)
 refine .sA ?_
 refine .cond rfl (λhb3=>?_) (λhb3=>?_)
 exact zzA
 refine .skip (Mir.toK (.seqK (.bind λy2 hy4=>.region λe h=>WA ?_)))
 refine .byA (tb_slot_spec.1 _ hy4) (mA ?_ h)
 refine .seqK (.bind λy3 hy5=>.region λe h=>WA ?_)
 refine .byA (tb_length_spec.1 _ hy5) (mA ?_ h)
 refine .seqK (.seqK (Mir.jV rfl ?_ ?_))
 exact zzA
 refine Mir.toK (.cond rfl (λhb8=>?_) (λhb8=>?_))
 exact zzA
 refine .skip (Mir.toK (.seqK (Mir.jOR (λ_=>rfl) ?_ ?_)))
 refine .guard λqi9=>.ite (λhb10=>?_) (λhb10=>?_)
 exact zzA
 refine .ite (λhb11=>?_) (λhb11=>?_)
 exact zzA
 refine .ite (λhb12=>?_) (λhb12=>?_)
 exact zzA
 refine .ite (λhb13=>?_) (λhb13=>?_)
 exact zzA
 refine .ite (λhb14=>?_) (λhb14=>?_)
 exact zzA
 have hz15:y2.1=5:=by have h0:=ra qi9;have h1:=b9 hb10;have h2:=b9 hb11;have h3:=b9 hb12;have h4:=b9 hb13;have h5:=b9 hb14;omega
 exact zzA
 exact zzA
instance:Sp 215 (type_of% @qe):=⟨@qe⟩
def lR(a0:ag)(a1:ag)(a2:Int):Option (ag×Int):=ac (n6 a0) λ(y1:Bool)=>if y1=true then some (ag.mk 0 0 0,11)else ac (n6 (ag.mk (zH.wrap (a0.X+(zH.wrap (a2*a1.X)))) (zH.wrap (a0.Y+(zH.wrap (a2*a1.Y)))) (zH.wrap (a0.Z+(zH.wrap (a2*a1.Z)))))) λ(y2:Bool)=>if y2=true then some (ag.mk 0 0 0,11)else some (ag.mk (zH.wrap (a0.X+(zH.wrap (a2*a1.X)))) (zH.wrap (a0.Y+(zH.wrap (a2*a1.Y)))) (zH.wrap (a0.Z+(zH.wrap (a2*a1.Z)))),0)
instance tb_moved_spec:Sp 216 (∀{a0:ag} {a1:ag} {a2:Int},Ct 216 [.agg (cF a0),.agg (cF a1),dI a2] (λy:ag×Int=>.tuple [.agg [.d (.int .i64 y.1.X),.d (.int .i64 y.1.Y),.d (.int .i64 y.1.Z)],.d (.int .i64 y.2)]) (lR a0 a1 a2)):=⟨zzF Tryz.func216 (lR.eq_1 ..)⟩
def nm(a0:aw)(a1:Int)(a2:Int)(a3:ag):Option (ag×Int):=ac (jZ (aw.mk a0.Work a0.Lengths) a1 a2) λ(y1:ag×Int)=>if (y1.2 != 0)=true then some (ag.mk 0 0 0,y1.2)else ac (lR a3 y1.1 (-1)) λ(y2:ag×Int)=>some (y2.1,y2.2)
instance tb_Work_spec:Sp 161 (∀{a0:aw} {a1:Int} {a2:Int} {a3:ag},Ct 161 [.agg (w6 a0.Work [.d (.list (zA au a0.Lengths))]),dI a1,dI a2,.agg (cF a3)] (λy:ag×Int=>.tuple [.agg [.d (.int .i64 y.1.X),.d (.int .i64 y.1.Y),.d (.int .i64 y.1.Z)],.d (.int .i64 y.2)]) (nm a0 a1 a2 a3)):=⟨zzF Tryz.func161 (nm.eq_1 ..)⟩
def mT(a0:ao)(a1:ae)(a2:ag):Option ag:=ac (ac (ac (mv a1 88) λ(y1:Int×Bool)=>if (!y1.2)=true then some a2.X else if (a0.Distance==90000)=true then some y1.1 else some (zH.wrap (a2.X+y1.1))) λ(v1:Int)=>jB 1 ([U,U,U,.ptr 0 0,.ptr 1 0,.ptr 2 0,.ptr 3 0]++us 10++[.sl 4 0 3 3,dI 3,dI 0]++us 30) ⟨[(cD a0),(cB a1),[dI v1,dI a2.Y,dI a2.Z],dA,[.d (.int .u8 88),.ptr 2 0,.d (.int .u8 89),.ptr 2 1,.d (.int .u8 90),.ptr 2 2]],[]⟩ ( ac (ac (mv a1 89) λ(y2:Int×Bool)=>if (!y2.2)=true then some a2.Y else if (a0.Distance==90000)=true then some y2.1 else some (zH.wrap (a2.Y+y2.1))) λ(v2:Int)=>jB 1 ([U,U,U,.ptr 0 0,.ptr 1 0,.ptr 2 0,.ptr 3 0]++us 10++[.sl 4 0 3 3,dI 3,dI 1]++us 30) ⟨[(cD a0),(cB a1),[dI v1,dI v2,dI a2.Z],dA,[.d (.int .u8 88),.ptr 2 0,.d (.int .u8 89),.ptr 2 1,.d (.int .u8 90),.ptr 2 2]],[]⟩ ( ac (ac (mv a1 90) λ(y3:Int×Bool)=>if (!y3.2)=true then some a2.Z else if (a0.Distance==90000)=true then some y3.1 else some (zH.wrap (a2.Z+y3.1))) λ(v3:Int)=>jB 1 ([U,U,U,.ptr 0 0,.ptr 1 0,.ptr 2 0,.ptr 3 0]++us 10++[.sl 4 0 3 3,dI 3,dI 2]++us 30) ⟨[(cD a0),(cB a1),[dI v1,dI v2,dI v3],dA,[.d (.int .u8 88),.ptr 2 0,.d (.int .u8 89),.ptr 2 1,.d (.int .u8 90),.ptr 2 2]],[]⟩ ( some (ag.mk v1 v2 v3))))) λ(v4:ag)=>jB 0 ([U,U,U,U,U,.ptr 2 0,.ptr 3 0]++us 43) ⟨[(cD a0),(cB a1),(cF v4),dA,[.d (.int .u8 88),.ptr 2 0,.d (.int .u8 89),.ptr 2 1,.d (.int .u8 90),.ptr 2 2]],[]⟩ ( some v4)
instance inp_target_spec:Sp 217 (∀{a0:ao} {a1:ae} {a2:ag},Ct 217 [.agg (cD a0),.agg (cB a1),.agg (cF a2)] (λy:ag=>.agg [.d (.int .i64 y.X),.d (.int .i64 y.Y),.d (.int .i64 y.Z)]) (mT a0 a1 a2)):=⟨zzF Tryz.func217 (mT.eq_1 ..)⟩
def mS(a0:ae)(a1:Int):Option Int:=ac (mv a0 a1) λ(y1:Int×Bool)=>some y1.1
instance inp_value_spec:Sp 257 (∀{a0:ae} {a1:Int},Ct 257 [.agg (cB a0),.d (.int .u8 a1)] (λy:Int=>.d (.int .i64 y)) (mS a0 a1)):=⟨zzF Tryz.func257 (mS.eq_1 ..)⟩
def gf(a0:ag)(a1:aH):Option (Int×Int):=ac (kG a1) λ(y1:Bool)=>if (!y1)=true then some (0,1)else ac (jT a0 a1) λ(y2:Int)=>if (y2 != 0)=true then some (0,y2)else ac (gA a0 a1.Center) λ(y3:Int×Int)=>ac (gA a1.To a1.Center) λ(y4:Int×Int)=>ac (if (a1.Kind==3)=true then some (zH.wrap (0-(zH.wrap (y4.1-y3.1))))else some (zH.wrap (y4.1-y3.1))) λ(v1:Int)=>jC (us 11++[dI v1]++us 37) ⟨[(cF a0),(cG a1)],[]⟩ ( ac (if (decide (v1≤0))=true then some (zH.wrap (v1+4))else some v1) λ(v2:Int)=>jC (us 11++[dI v2]++us 37) ⟨[(cF a0),(cG a1)],[]⟩ ( some (v2,0)))
instance ip_Quarters_spec:Sp 293 (∀{a0:ag} {a1:aH},Ct 293 [.agg (cF a0),.agg (cG a1)] (λy:Int×Int=>.tuple [.d (.int .i64 y.1),.d (.int .i64 y.2)]) (gf a0 a1)):=⟨zzF Tryz.func293 (gf.eq_1 ..)⟩
def o7(a0:Int):Option Int:=if (decide (a0≤0))=true then some 0 else ac (dR (λ(v1:Int×Int)=>lF ([U,U,U,dI (zH.wrap ((zH.wrap (zB (zH.wrap (a0-1)) 10))+1)),dI v1.1,dI v1.2]++us 23) ⟨[],[]⟩ ( if (decide (v1.1<v1.2))=true then if (decide ((zH.wrap ((zH.wrap (zB (zH.wrap (v1.1+v1.2)) 2))*(zH.wrap (zB (zH.wrap (v1.1+v1.2)) 2))))≥(zH.wrap ((zH.wrap (zB (zH.wrap (a0-1)) 10))+1))))=true then some (.go (v1.1,zH.wrap (zB (zH.wrap (v1.1+v1.2)) 2)))else some (.go (zH.wrap ((zH.wrap (zB (zH.wrap (v1.1+v1.2)) 2))+1),v1.2))else some (.ret v1.1))) fuel (1,1073741824)) λ(v2:Int)=>jB 0 ([U,U,U,U,dI v2]++us 24) ⟨[],[]⟩ ( some v2)
instance ip_Chords_spec:Sp 294 (∀{a0:Int},Ct 294 [dI a0] (λy:Int=>.d (.int .i64 y)) (o7 a0)):=⟨zzF Tryz.func294 (o7.eq_1 ..)⟩
def mR(a0:Int)(a1:Int)(a2:Int):Option (Int×Int):=ac (dR (λ(v1:Int×Int×Int)=>lF ([dI v1.1,dI v1.2.1]++us 7++[dI (andI .i64 a2 3),dI v1.2.2]++us 7) ⟨[],[]⟩ ( if (decide (v1.2.2<(andI .i64 a2 3)))=true then some (.go (zH.wrap (0-v1.2.1),v1.1,zH.wrap (v1.2.2+1)))else some (.ret (v1.1,v1.2.1)))) fuel (a0,a1,0)) λ(v2:Int×Int)=>jB 0 ([dI v2.1,dI v2.2]++us 16) ⟨[],[]⟩ ( some (v2.1,v2.2))
instance ip_turned_spec:Sp 295 (∀{a0:Int} {a1:Int} {a2:Int},Ct 295 [dI a0,dI a1,dI a2] (λy:Int×Int=>.tuple [.d (.int .i64 y.1),.d (.int .i64 y.2)]) (mR a0 a1 a2)):=⟨zzF Tryz.func295 (mR.eq_1 ..)⟩
def ip_floor(a0:Int)(a1:Int):Option Int:=aA (!(a1==0)) ( aA (!(a1==0)) ( ac (if (decide ((zF a0 a1)<0))=true then some (zH.wrap ((zH.wrap (zB a0 a1))-1))else some (zH.wrap (zB a0 a1))) λ(v1:Int)=>jC ([U,U,U,U,U,dI v1]++us 10) ⟨[],[]⟩ ( some v1)))
instance ip_floor_spec:Sp 296 (∀{a0:Int} {a1:Int},Ct 296 [dI a0,dI a1] (λy:Int=>.d (.int .i64 y)) (ip_floor a0 a1)):=⟨zzF Tryz.func296 (ip_floor.eq_1 ..)⟩
def ip_Arc(a0:ag)(a1:aH):Option ((List ag)×Int):=ac (gf a0 a1) λ(y1:Int×Int)=>if (y1.2 != 0)=true then some ([],y1.2)else ac (gA a0 a1.Center) λ(y2:Int×Int)=>ac (o7 (zH.wrap y2.2)) λ(y3:Int)=>if (decide ((zH.wrap (y3*y1.1))>20000))=true then some ([],3)else gF [.slot 13 24] ( ac (dR (λ(v1:(List ag)×Int)=>lF ([U,U,.ptr 0 0,.ptr 1 0,U,U,U,U,dI y2.1,U,dI (zH.wrap y2.2),dI y3,dI (zH.wrap (y3*y1.1)),.own 0 (zA dc v1.1)]++us 30++[dI y1.1,dI v1.2]++us 93) ⟨[(cF a0),(cG a1)],[(24,v1.1.length)]⟩ ( if (decide (v1.2<y1.1))=true then ac (dR (λ(v2:(List ag)×Int)=>lF ([U,U,.ptr 0 0,.ptr 1 0,U,U,U,U,dI y2.1,U,dI (zH.wrap y2.2),dI y3,dI (zH.wrap (y3*y1.1)),.own 0 (zA dc v2.1),dI v1.2,dI v2.2]++us 28++[dI y1.1,dI v1.2]++us 93) ⟨[(cF a0),(cG a1)],[(24,v2.1.length)]⟩ ( if (decide (v2.2≤y3))=true then aA (!((zH.wrap ((zH.wrap (y3*y3))+(zH.wrap (v2.2*v2.2))))==0)) ( aA (!((zH.wrap ((zH.wrap (y3*y3))+(zH.wrap (v2.2*v2.2))))==0)) ( ac (if (a1.Kind==3)=true then ac (mR (zH.wrap (zB (zH.wrap ((zH.wrap y2.2)*(zH.wrap ((zH.wrap (y3*y3))-(zH.wrap (v2.2*v2.2)))))) (zH.wrap ((zH.wrap (y3*y3))+(zH.wrap (v2.2*v2.2)))))) (zH.wrap (0-(zH.wrap (zB (zH.wrap ((zH.wrap ((zH.wrap (2*(zH.wrap y2.2)))*v2.2))*y3)) (zH.wrap ((zH.wrap (y3*y3))+(zH.wrap (v2.2*v2.2)))))))) (zH.wrap ((zH.wrap (y2.1-v1.2))+4))) λ(y4:Int×Int)=>some (y4.1,y4.2)else ac (mR (zH.wrap (zB (zH.wrap ((zH.wrap y2.2)*(zH.wrap ((zH.wrap (y3*y3))-(zH.wrap (v2.2*v2.2)))))) (zH.wrap ((zH.wrap (y3*y3))+(zH.wrap (v2.2*v2.2)))))) (zH.wrap (zB (zH.wrap ((zH.wrap ((zH.wrap (2*(zH.wrap y2.2)))*v2.2))*y3)) (zH.wrap ((zH.wrap (y3*y3))+(zH.wrap (v2.2*v2.2)))))) (zH.wrap (y2.1+v1.2))) λ(y5:Int×Int)=>some (y5.1,y5.2)) λ(v3:Int×Int)=>jC ([U,U,.ptr 0 0,.ptr 1 0,U,U,U,U,dI y2.1,U,dI (zH.wrap y2.2),dI y3,dI (zH.wrap (y3*y1.1)),.own 0 (zA dc v2.1),dI v1.2,dI v2.2,dI v3.1,dI v3.2]++us 26++[dI y1.1,dI v1.2]++us 93) ⟨[(cF a0),(cG a1)],[(24,v2.1.length)]⟩ ( ac (ip_floor (zH.wrap ((zH.wrap (a1.To.Z-a0.Z))*(zH.wrap ((v2.1.length:Int)+1)))) (zH.wrap (y3*y1.1))) λ(y6:Int)=>aA (cd (v2.1.length+1)) ( some (.go (v2.1++[ag.mk (zH.wrap (a1.Center.X+v3.1)) (zH.wrap (a1.Center.Y+v3.2)) (zH.wrap (a0.Z+y6))],zH.wrap (v2.2+1)))))))else some (.ret v2.1))) fuel (v1.1,1)) λ(v4:(List ag))=>jB 1 ([U,U,.ptr 0 0,.ptr 1 0,U,U,U,U,dI y2.1,U,dI (zH.wrap y2.2),dI y3,dI (zH.wrap (y3*y1.1)),.own 0 (zA dc v4)]++us 30++[dI y1.1,dI v1.2]++us 93) ⟨[(cF a0),(cG a1)],[(24,v4.length)]⟩ ( some (.go (v4,zH.wrap (v1.2+1))))else some (.ret v1.1))) fuel ([],0)) λ(v5:(List ag))=>jB 0 (us 13++[.own 0 (zA dc v5)]++us 125) ⟨[(cF a0),(cG a1)],[(24,v5.length)]⟩ ( some (v5,0)))
instance ip_Arc_spec:Sp 258 (∀{a0:ag} {a1:aH},Ct 258 [.agg (cF a0),.agg (cG a1)] (λy:(List ag)×Int=>.tuple [.d (.list (zA dc y.1)),.d (.int .i64 y.2)]) (ip_Arc a0 a1)):=⟨zzF Tryz.func258 (ip_Arc.eq_1 ..)⟩
def inp_arc(a0:ao)(a1:ae)(a2:ag)(a3:ag):Option ((List ar)×Int):=ac (mS a1 73) λ(y1:Int)=>ac (mS a1 74) λ(y2:Int)=>ac (if (a0.Motion==3000)=true then some 4 else some 3) λ(v1:Int)=>jC ([U,U,U,U,.ptr 0 0,U,.ptr 2 0,U,U,U,.ptr 4 0]++us 46) ⟨[(cD a0),(cB a1),(cF a2),(cF a3),[dI v1,dI a3.X,dI a3.Y,dI a3.Z,dI (zH.wrap (a2.X+y1)),dI (zH.wrap (a2.Y+y2)),dI a0.Feed]],[]⟩ ( ac (ip_Arc a2 (aH.mk v1 a3 (dh.mk (zH.wrap (a2.X+y1)) (zH.wrap (a2.Y+y2))) a0.Feed)) λ(y3:(List ag)×Int)=>gF [.slot 13 260] ( ac (aA (dN y3.1) ( aM (λ(i1:Nat) (e1:ag) (v2:(List ar))=>rF ([U,U,U,U,.ptr 0 0]++us 7++[dI y3.2,.own 0 (zA bR v2)]++us 27++[dL dc y3.1,dI (y3.1.length:Int),dI (i1:Int)]++us 13) ⟨[(cD a0),(cB a1),(cF a2),(cF a3),[dI v1,dI a3.X,dI a3.Y,dI a3.Z,dI (zH.wrap (a2.X+y1)),dI (zH.wrap (a2.Y+y2)),dI a0.Feed]],[(260,v2.length)]⟩ ( aA (cd (v2.length+1)) ( some (.go (v2++[ar.mk e1 a0.Feed]))))) (λ(v2:(List ar))=>some v2) y3.1 0 [])) λ(v3:(List ar))=>jB 0 (us 12++[dI y3.2,.own 0 (zA bR v3)]++us 43) ⟨[(cD a0),(cB a1),(cF a2),(cF a3),[dI v1,dI a3.X,dI a3.Y,dI a3.Z,dI (zH.wrap (a2.X+y1)),dI (zH.wrap (a2.Y+y2)),dI a0.Feed]],[(260,v3.length)]⟩ ( some (v3,y3.2))))
instance inp_arc_spec:Sp 219 (∀{a0:ao} {a1:ae} {a2:ag} {a3:ag},Ct 219 [.agg (cD a0),.agg (cB a1),.agg (cF a2),.agg (cF a3)] (λy:(List ar)×Int=>.tuple [.d (.list (zA bR y.1)),.d (.int .i64 y.2)]) (inp_arc a0 a1 a2 a3)):=⟨zzF Tryz.func219 (inp_arc.eq_1 ..)⟩
def jg(a0:ao)(a1:av)(a2:ae)(a3:ag):Option ((List ar)×av×Int):=ac (mT a0 (ae.mk a2.Skip a2.Words a2.Comment) a3) λ(y1:ag)=>if (a0.Motion==0)=true then some ([ar.mk y1 0],av.mk 0 0 0 0 0 0 false,0)else if (a0.Motion==1000)=true then some ([ar.mk y1 a0.Feed],av.mk 0 0 0 0 0 0 false,0)else ac (ib a0.Motion) λ(y2:Bool)=>if y2=true then none else ac (inp_arc (ao.mk a0.Motion a0.Distance a0.Work a0.Length a0.Return a0.Feed a0.Tool a0.Offset) (ae.mk a2.Skip a2.Words a2.Comment) a3 y1) λ(y3:(List ar)×Int)=>some (y3.1,av.mk 0 0 0 0 0 0 false,y3.2)
instance inp_positions_spec:Sp 162 (∀{a0:ao} {a1:av} {a2:ae} {a3:ag},Ct 162 [.agg (cD a0),.agg (cH a1),.agg (cB a2),.agg (cF a3)] (λy:(List ar)×av×Int=>.tuple [.d (.list (zA bR y.1)),.agg [.d (.int .i64 y.2.1.Code),.d (.int .i64 y.2.1.R),.d (.int .i64 y.2.1.Z),.d (.int .i64 y.2.1.Q),.d (.int .i64 y.2.1.Rate),.d (.int .i64 y.2.1.Initial),.d (.bool y.2.1.High)],.d (.int .i64 y.2.2)]) (jg a0 a1 a2 a3)):=⟨zzF Tryz.func162 (jg.eq_1 ..)⟩
def gV(a0:aw)(a1:Int)(a2:Int)(a3:ag):Option (ag×Int):=ac (jZ a0 a1 a2) λ(y1:ag×Int)=>if (y1.2 != 0)=true then some (ag.mk 0 0 0,y1.2)else ac (lR a3 y1.1 1) λ(y2:ag×Int)=>some (y2.1,y2.2)
instance tb_Machine_spec:Sp 163 (∀{a0:aw} {a1:Int} {a2:Int} {a3:ag},Ct 163 [.agg (w6 a0.Work [.d (.list (zA au a0.Lengths))]),dI a1,dI a2,.agg (cF a3)] (λy:ag×Int=>.tuple [.agg [.d (.int .i64 y.1.X),.d (.int .i64 y.1.Y),.d (.int .i64 y.1.Z)],.d (.int .i64 y.2)]) (gV a0 a1 a2 a3)):=⟨zzF Tryz.func163 (gV.eq_1 ..)⟩
def kH(a0:ao)(a1:av)(a2:ae)(a3:aw)(a4:ag):Option ((List aq)×ao×av×Int):=ac (eg a3 a4) λ(y1:Int)=>if (y1 != 0)=true then ac (iF 156 (λv1:Unit=>.tuple [.nil,.agg cZ,.agg dC,dI y1]) (λv1:Unit=>⟨[(cD a0),(cH a1),(cB a2),(w6 a3.Work [dL au a3.Lengths]),(cF a4),cZ,dC],[]⟩) (some ())) λ(v1:Unit)=>some ([],ao.mk 0 0 0 0 0 0 0 0,av.mk 0 0 0 0 0 0 false,y1)else ac (ac (kJ a2) λ(y2:Int)=>if (y2 != 0)=true then some true else ac (nH a2) λ(y3:Int)=>if (y3 != 0)=true then some true else ac (mV a2) λ(y4:Bool)=>some (!y4)) λ(v2:Bool)=>jR 4 ([U,U,U,U,U,.ptr 0 0,.ptr 1 0,.ptr 2 0,.ptr 3 0,.ptr 4 0,U,.ptr 5 0,.ptr 6 0]++us 34++[dB v2]++us 157) ⟨[(cD a0),(cH a1),(cB a2),(w6 a3.Work [dL au a3.Lengths]),(cF a4),cZ,dC],[]⟩ ( if v2=true then ac (iF 156 (λv3:Unit=>.tuple [.nil,.agg cZ,.agg dC,dI 1]) (λv3:Unit=>⟨[(cD a0),(cH a1),(cB a2),(w6 a3.Work [dL au a3.Lengths]),(cF a4),cZ,dC],[]⟩) (some ())) λ(v3:Unit)=>some ([],ao.mk 0 0 0 0 0 0 0 0,av.mk 0 0 0 0 0 0 false,1)else ac (md_Apply a0 a2) λ(y5:ao×Int)=>if (y5.2 != 0)=true then ac (iF 156 (λv4:Unit=>.tuple [.nil,.agg cZ,.agg dC,dI y5.2]) (λv4:Unit=>⟨[(cD y5.1),(cH a1),(cB a2),(w6 a3.Work [dL au a3.Lengths]),(cF a4),cZ,dC],[]⟩) (some ())) λ(v4:Unit)=>some ([],ao.mk 0 0 0 0 0 0 0 0,av.mk 0 0 0 0 0 0 false,y5.2)else ac (ib y5.1.Motion) λ(y6:Bool)=>ac (if (!y6)=true then some (av.mk 0 0 0 0 0 0 false)else some (av.mk a1.Code a1.R a1.Z a1.Q a1.Rate a1.Initial a1.High)) λ(v5:av)=>jC ([U,U,U,U,U,.ptr 0 0,.ptr 1 0,.ptr 2 0,.ptr 3 0,.ptr 4 0,U,.ptr 5 0,.ptr 6 0]++us 192) ⟨[(cD y5.1),(cH v5),(cB a2),(w6 a3.Work [dL au a3.Lengths]),(cF a4),cZ,dC],[]⟩ ( ac (kq a2 [88,89,90,73,74,81,82]) λ(y7:Bool)=>if (!y7)=true then some ([],y5.1,v5,0)else ac (ac (kq a2 [73,74]) λ(y8:Bool)=>if y8=true then if (y5.1.Motion != 2000)=true then if (y5.1.Motion != 3000)=true then some true else ac (kq a2 [81,82]) λ(y9:Bool)=>if y9=true then ac (ib y5.1.Motion) λ(y10:Bool)=>some (!y10)else some false else ac (kq a2 [81,82]) λ(y11:Bool)=>if y11=true then ac (ib y5.1.Motion) λ(y12:Bool)=>some (!y12)else some false else ac (kq a2 [81,82]) λ(y13:Bool)=>if y13=true then ac (ib y5.1.Motion) λ(y14:Bool)=>some (!y14)else some false) λ(v6:Bool)=>jR 13 ([U,U,U,U,U,.ptr 0 0,.ptr 1 0,.ptr 2 0,.ptr 3 0,.ptr 4 0,U,.ptr 5 0,.ptr 6 0]++us 85++[dB v6]++us 106) ⟨[(cD y5.1),(cH v5),(cB a2),(w6 a3.Work [dL au a3.Lengths]),(cF a4),cZ,dC],[]⟩ ( if v6=true then ac (iF 156 (λv7:Unit=>.tuple [.nil,.agg cZ,.agg dC,dI 1]) (λv7:Unit=>⟨[(cD y5.1),(cH v5),(cB a2),(w6 a3.Work [dL au a3.Lengths]),(cF a4),cZ,dC],[]⟩) (some ())) λ(v7:Unit)=>some ([],ao.mk 0 0 0 0 0 0 0 0,av.mk 0 0 0 0 0 0 false,1)else jV 15 ([U,U,U,U,U,.ptr 0 0,.ptr 1 0,.ptr 2 0,.ptr 3 0,.ptr 4 0,U,.ptr 5 0,.ptr 6 0]++us 103++[dB ((y5.1.Motion==80000)||((y5.1.Motion != 0)&&(decide (y5.1.Feed≤0))))]++us 88) ⟨[(cD y5.1),(cH v5),(cB a2),(w6 a3.Work [dL au a3.Lengths]),(cF a4),cZ,dC],[]⟩ ( if ((y5.1.Motion==80000)||((y5.1.Motion != 0)&&(decide (y5.1.Feed≤0))))=true then ac (iF 156 (λv8:Unit=>.tuple [.nil,.agg cZ,.agg dC,dI 13]) (λv8:Unit=>⟨[(cD y5.1),(cH v5),(cB a2),(w6 a3.Work [dL au a3.Lengths]),(cF a4),cZ,dC],[]⟩) (some ())) λ(v8:Unit)=>some ([],ao.mk 0 0 0 0 0 0 0 0,av.mk 0 0 0 0 0 0 false,13)else ac (if (y5.1.Length==43000)=true then some (zH.wrap (zB y5.1.Offset 1000))else some 0) λ(v9:Int)=>jC ([U,U,U,U,U,.ptr 0 0,.ptr 1 0,.ptr 2 0,.ptr 3 0,.ptr 4 0,U,.ptr 5 0,.ptr 6 0,U,U,U,dI v9]++us 188) ⟨[(cD y5.1),(cH v5),(cB a2),(w6 a3.Work [dL au a3.Lengths]),(cF a4),cZ,dC],[]⟩ ( ac (nm (aw.mk a3.Work a3.Lengths) y5.1.Work v9 a4) λ(y15:ag×Int)=>if (y15.2 != 0)=true then ac (iF 156 (λv10:Unit=>.tuple [.nil,.agg cZ,.agg dC,dI y15.2]) (λv10:Unit=>⟨[(cD y5.1),(cH v5),(cB a2),(w6 a3.Work [dL au a3.Lengths]),(cF a4),cZ,dC,(cF y15.1)],[]⟩) (some ())) λ(v10:Unit)=>some ([],ao.mk 0 0 0 0 0 0 0 0,av.mk 0 0 0 0 0 0 false,y15.2)else ac (jg y5.1 v5 (ae.mk a2.Skip a2.Words a2.Comment) y15.1) λ(y16:(List ar)×av×Int)=>if (y16.2.2 != 0)=true then ac (iF 156 (λv11:Unit=>.tuple [.nil,.agg cZ,.agg dC,dI y16.2.2]) (λv11:Unit=>⟨[(cD y5.1),(cH y16.2.1),(cB a2),(w6 a3.Work [dL au a3.Lengths]),(cF a4),cZ,dC,(cF y15.1)],[]⟩) (some ())) λ(v11:Unit)=>some ([],ao.mk 0 0 0 0 0 0 0 0,av.mk 0 0 0 0 0 0 false,y16.2.2)else gF [.slot 19 81] ( bindX (aA (dN y16.1) ( aM (λ(i1:Nat) (e1:ar) (v12:(List aq)×ag)=>rF ([U,U,U,U,U,.ptr 0 0,.ptr 1 0,U,.ptr 3 0,.ptr 4 0,U,.ptr 5 0,.ptr 6 0,U,U,U,dI v9,U,U,.own 0 (zA aS v12.1)]++us 142++[dL bR y16.1,dI (y16.1.length:Int),dI (i1:Int)]++us 40) ⟨[(cD y5.1),(cH y16.2.1),(cB a2),(w6 a3.Work [dL au a3.Lengths]),(cF v12.2),cZ,dC,(cF y15.1)],[(81,v12.1.length)]⟩ ( ac (gV (aw.mk a3.Work a3.Lengths) y5.1.Work v9 e1.at_) λ(y17:ag×Int)=>if (y17.2 != 0)=true then ac (iF 156 (λv13:Unit=>.tuple [.nil,.agg cZ,.agg dC,dI y17.2]) (λv13:Unit=>⟨[(cD y5.1),(cH y16.2.1),(cB a2),(w6 a3.Work [dL au a3.Lengths]),(cF v12.2),cZ,dC,(cF y15.1),(cJ e1),(cF y17.1)],[(81,v12.1.length)]⟩) (some ())) λ(v13:Unit)=>some (.ret (.ret ([],ao.mk 0 0 0 0 0 0 0 0,av.mk 0 0 0 0 0 0 false,y17.2)))else ac (if (!((y17.1.X==v12.2.X)&&((y17.1.Y==v12.2.Y)&&(y17.1.Z==v12.2.Z))))=true then aA (cd (v12.1.length+1)) ( some (v12.1++[aq.mk v12.2 y17.1 e1.rate (zH.wrap (zB y5.1.Tool 1000)) 0]))else some v12.1) λ(v14:(List aq))=>jC ([U,U,U,U,U,.ptr 0 0,.ptr 1 0,U,.ptr 3 0,.ptr 4 0,U,.ptr 5 0,.ptr 6 0,U,U,U,dI v9,U,U,.own 0 (zA aS v14),U,U,.ptr 9 0]++us 139++[dL bR y16.1,dI (y16.1.length:Int),dI (i1:Int)]++us 40) ⟨[(cD y5.1),(cH y16.2.1),(cB a2),(w6 a3.Work [dL au a3.Lengths]),(cF v12.2),cZ,dC,(cF y15.1),(cJ e1),(cF y17.1)],[(81,v14.length)]⟩ ( some (.go (v14,y17.1))))) (λ(v12:(List aq)×ag)=>some (.go (v12.1,v12.2))) y16.1 0 ([],a4))) λ(v15:(List aq)×ag)=>jB 0 ([U,U,U,U,U,.ptr 0 0,.ptr 1 0,U,U,U,U,.ptr 5 0,.ptr 6 0]++us 6++[.own 0 (zA aS v15.1)]++us 185) ⟨[(cD y5.1),(cH y16.2.1),(cB a2),(w6 a3.Work [dL au a3.Lengths]),(cF v15.2),cZ,dC,(cF y15.1)],[(81,v15.1.length)]⟩ ( some (v15.1,y5.1,y16.2.1,0))))))))
theorem inp_Step_specX{a0:ao}{a1:av}{a2:ae}{a3:aw}{a4:ag}{y:(List aq)×ao×av×Int}(h:kH a0 a1 a2 a3 a4=some y):SpecX gP 75 [.agg (cD a0),.agg (cH a1),.agg (cB a2),.agg (w6 a3.Work [.d (.list (zA au a3.Lengths))]),.agg (cF a4)] 81 (zA aS y.1) [.agg [dI y.2.1.Motion,dI y.2.1.Distance,dI y.2.1.Work,dI y.2.1.Length,dI y.2.1.Return,dI y.2.1.Feed,dI y.2.1.Tool,dI y.2.1.Offset],.agg [dI y.2.2.1.Code,dI y.2.2.1.R,dI y.2.2.1.Z,dI y.2.2.1.Q,dI y.2.2.1.Rate,dI y.2.2.1.Initial,dB y.2.2.1.High],dI y.2.2.2]:=by
 refine specX_mir Tryz.func75 rfl (by kernel_rfl) (by kernel_rfl) (λy:(List aq)×ao×av×Int=>zA aS y.1) (λy:(List aq)×ao×av×Int=>[.agg [dI y.2.1.Motion,dI y.2.1.Distance,dI y.2.1.Work,dI y.2.1.Length,dI y.2.1.Return,dI y.2.1.Feed,dI y.2.1.Tool,dI y.2.1.Offset],.agg [dI y.2.2.1.Code,dI y.2.2.1.R,dI y.2.2.1.Z,dI y.2.2.1.Q,dI y.2.2.1.Rate,dI y.2.2.1.Initial,dB y.2.2.1.High],dI y.2.2.2]) (sc_map (λ_=>rfl) _) (by rw[show Tryz.prog.cellsOf 81=9 from (by kernel_rfl)];exact po) rfl ?_ h
 unfold kH
 simp only[List.replicate,List.length,nS,nA,Tryz.ntmps75,SV]
 refine .sA ?_
 refine .seqK (.seqK (.bind λy1 hy1=>.region λe h=>WA ?_))
 refine .byA (n9.1 _ hy1) (mA ?_ h)
 refine .sA ?_
 refine .cond rfl (λhb4=>?_) (λhb4=>?_)
 refine .seqK (.bind λv1 hv5=>.region λe h=>WA ?_)
 refine bf.inlA hv5 ?_ ?_
 refine .sA ?_
 refine .sA ?_
 refine .ret QA
 simp only[seval,EMA]
 refine mU e (.ret λe h=>?_) h
 cases h
 simp only[seval,FMA,fx_r,fx_n,xr_o,xr_n,rowT]
 refine .skip (Mir.toK (.seqK (.seqK (Mir.jOR (λ_=>rfl) ?_ ?_))))
 refine .bind λy2 hy6=>.ite (λhb7=>?_) (λhb7=>?_)
 refine .region λe h=>?_
 simp only[seval,EMA,hb7]
 refine bf.by (kI.1 _ hy6) (by simp only[seval,FMA,hb7]) ?_
 simp only[seval,EMA,hb7]
 cases h
 simp only[seval,FMA,hb7]
 refine .bind λy3 hy8=>.ite (λhb9=>?_) (λhb9=>?_)
 refine .region λe h=>?_
 simp only[seval,EMA,hb7,hb9]
 refine bf.by (kI.1 _ hy6) (by simp only[seval,FMA,hb7,hb9]) ?_
 simp only[seval,EMA,hb7,hb9]
 refine bf.by (kC hy8) (by simp only[seval,FMA,hb7,hb9]) ?_
 simp only[seval,EMA,hb7,hb9]
 cases h
 simp only[seval,FMA,hb7,hb9]
 refine .bind λy4 hy10=>.region λe h=>?_
 simp only[seval,EMA,hb7,hb9]
 refine bf.by (kI.1 _ hy6) (by simp only[seval,FMA,hb7,hb9]) ?_
 simp only[seval,EMA,hb7,hb9]
 refine bf.by (kC hy8) (by simp only[seval,FMA,hb7,hb9]) ?_
 simp only[seval,EMA,hb7,hb9]
 refine bf.by (inp_known_spec.1 _ hy10) (by simp only[seval,FMA,hb7,hb9]) ?_
 simp only[seval,EMA,hb7,hb9]
 cases h
 simp only[seval,FMA,hb7,hb9]
 intro v2
 refine Mir.toK (.cond rfl (λhb13=>?_) (λhb13=>?_))
 refine .seqK (.bind λv3 hv14=>.region λe h=>WA ?_)
 refine bf.inlA hv14 ?_ ?_
 refine .sA ?_
 refine .sA ?_
 refine .ret QA
 simp only[seval,EMA]
 refine mU e (.ret λe h=>?_) h
 cases h
 simp only[seval,FMA,fx_r,fx_n,xr_o,xr_n,rowT]
 refine .skip (Mir.toK (.seqK (.bind λy5 hy15=>.region λe h=>WA ?_)))
 refine .byA (md_Apply_spec.1 _ hy15) (mA ?_ h)
 refine .seqK (.sA ?_)
 refine .cond rfl (λhb18=>?_) (λhb18=>?_)
 refine .seqK (.bind λv4 hv19=>.region λe h=>WA ?_)
 refine bf.inlA hv19 ?_ ?_
 refine .sA ?_
 refine .sA ?_
 refine .ret QA
 simp only[seval,EMA]
 refine mU e (.ret λe h=>?_) h
 cases h
 simp only[seval,FMA,fx_r,fx_n,xr_o,xr_n,rowT]
 refine .skip (Mir.toK (.seqK (.seqK (.bind λy6 hy20=>.region λe h=>WA ?_))))
 refine .byA (jh.1 _ hy20) (mA ?_ h)
 refine Mir.jOC (λ_=>rfl) ?_ ?_
 refine .cond rfl (λ_=>.rA) (λ_=>.skip QA)
 intro v5
 refine Mir.toK (.seqK (.seqK (.bind λy7 hy23=>.region λe h=>WA ?_)))
 refine .byA (dj.1 _ hy23) (mA ?_ h)
 refine .cond rfl (λhb25=>?_) (λhb25=>?_)
 refine .seqK (.regionD [(6,11)] (by kernel_rfl) λe h=>?_)
 simp only[seval,EMA,SB]
 refine mU e (.ret λe h=>?_) h
 cases h
 simp only[seval,FMA,fx_r,fx_n,xr_o,xr_n,rowT]
 refine .skip (Mir.toK (.seqK (.seqK (Mir.jOR (λ_=>rfl) ?_ ?_))))
 refine .bind λy8 hy26=>.ite (λhb27=>?_) (λhb27=>?_)
 refine .ite (λhb28=>?_) (λhb28=>?_)
 refine .ite (λhb29=>?_) (λhb29=>?_)
 refine .region λe h=>?_
 simp only[seval,EMA,hb27,hb28,hb29]
 refine bf.by (dj.1 _ hy26) (by simp only[seval,FMA,hb27,hb28,hb29]) ?_
 simp only[seval,EMA,hb27,hb28,hb29]
 cases h
 simp only[seval,FMA,hb27,hb28,hb29]
 refine .bind λy9 hy30=>.ite (λhb31=>?_) (λhb31=>?_)
 refine .bind λy10 hy32=>.region λe h=>?_
 simp only[seval,EMA,hb27,hb28,hb29,hb31]
 refine bf.by (dj.1 _ hy26) (by simp only[seval,FMA,hb27,hb28,hb29,hb31]) ?_
 simp only[seval,EMA,hb27,hb28,hb29,hb31]
 refine bf.by (dj.1 _ hy30) (by simp only[seval,FMA,hb27,hb28,hb29,hb31]) ?_
 simp only[seval,EMA,hb27,hb28,hb29,hb31]
 refine bf.by (jh.1 _ hy32) (by simp only[seval,FMA,hb27,hb28,hb29,hb31]) ?_
 simp only[seval,EMA,hb27,hb28,hb29,hb31]
 cases h
 simp only[seval,FMA,hb27,hb28,hb29,hb31]
 refine .region λe h=>?_
 simp only[seval,EMA,hb27,hb28,hb29,hb31]
 refine bf.by (dj.1 _ hy26) (by simp only[seval,FMA,hb27,hb28,hb29,hb31]) ?_
 simp only[seval,EMA,hb27,hb28,hb29,hb31]
 refine bf.by (dj.1 _ hy30) (by simp only[seval,FMA,hb27,hb28,hb29,hb31]) ?_
 simp only[seval,EMA,hb27,hb28,hb29,hb31]
 cases h
 simp only[seval,FMA,hb27,hb28,hb29,hb31]
 refine .bind λy11 hy33=>.ite (λhb34=>?_) (λhb34=>?_)
 refine .bind λy12 hy35=>.region λe h=>?_
 simp only[seval,EMA,hb27,hb28,hb34]
 refine bf.by (dj.1 _ hy26) (by simp only[seval,FMA,hb27,hb28,hb34]) ?_
 simp only[seval,EMA,hb27,hb28,hb34]
 refine bf.by (dj.1 _ hy33) (by simp only[seval,FMA,hb27,hb28,hb34]) ?_
 simp only[seval,EMA,hb27,hb28,hb34]
 refine bf.by (jh.1 _ hy35) (by simp only[seval,FMA,hb27,hb28,hb34]) ?_
 simp only[seval,EMA,hb27,hb28,hb34]
 cases h
 simp only[seval,FMA,hb27,hb28,hb34]
 refine .region λe h=>?_
 simp only[seval,EMA,hb27,hb28,hb34]
 refine bf.by (dj.1 _ hy26) (by simp only[seval,FMA,hb27,hb28,hb34]) ?_
 simp only[seval,EMA,hb27,hb28,hb34]
 refine bf.by (dj.1 _ hy33) (by simp only[seval,FMA,hb27,hb28,hb34]) ?_
 simp only[seval,EMA,hb27,hb28,hb34]
 cases h
 simp only[seval,FMA,hb27,hb28,hb34]
 refine .bind λy13 hy36=>.ite (λhb37=>?_) (λhb37=>?_)
 refine .bind λy14 hy38=>.region λe h=>?_
 simp only[seval,EMA,hb27,hb37]
 refine bf.by (dj.1 _ hy26) (by simp only[seval,FMA,hb27,hb37]) ?_
 simp only[seval,EMA,hb27,hb37]
 refine bf.by (dj.1 _ hy36) (by simp only[seval,FMA,hb27,hb37]) ?_
 simp only[seval,EMA,hb27,hb37]
 refine bf.by (jh.1 _ hy38) (by simp only[seval,FMA,hb27,hb37]) ?_
 simp only[seval,EMA,hb27,hb37]
 cases h
 simp only[seval,FMA,hb27,hb37]
 refine .region λe h=>?_
 simp only[seval,EMA,hb27,hb37]
 refine bf.by (dj.1 _ hy26) (by simp only[seval,FMA,hb27,hb37]) ?_
 simp only[seval,EMA,hb27,hb37]
 refine bf.by (dj.1 _ hy36) (by simp only[seval,FMA,hb27,hb37]) ?_
 simp only[seval,EMA,hb27,hb37]
 cases h
 simp only[seval,FMA,hb27,hb37]
 intro v6
 refine Mir.toK (.cond rfl (λhb41=>?_) (λhb41=>?_))
 refine .seqK (.bind λv7 hv42=>.region λe h=>WA ?_)
 refine bf.inlA hv42 ?_ ?_
 refine .sA ?_
 refine .sA ?_
 refine .ret QA
 simp only[seval,EMA]
 refine mU e (.ret λe h=>?_) h
 cases h
 simp only[seval,FMA,fx_r,fx_n,xr_o,xr_n,rowT]
 refine .skip (Mir.toK (.seqK (.seqK (Mir.jV rfl ?_ ?_))))
 refine SWs.region ?_
 rcases Bool.eq_false_or_eq_true (y5.1.Motion==80000)with hb43 | hb43
 simp only[seval,EMA,SL,PB,hb43]
 rcases Bool.eq_false_or_eq_true (y5.1.Motion != 0)with hb44 | hb44
 simp only[seval,EMA,SL,PB,hb43,hb44]
 simp only[seval,EMA,SL,PB,hb43,hb44]
 refine Mir.toK (.cond rfl (λhb47=>?_) (λhb47=>?_))
 refine .seqK (.bind λv8 hv48=>.region λe h=>WA ?_)
 refine bf.inlA hv48 ?_ ?_
 refine .sA ?_
 refine .sA ?_
 refine .ret QA
 simp only[seval,EMA]
 refine mU e (.ret λe h=>?_) h
 cases h
 simp only[seval,FMA,fx_r,fx_n,xr_o,xr_n,rowT]
 refine .skip (Mir.toK (.sA ?_))
 refine .seqK (.sA ?_)
 refine Mir.jOC (λ_=>rfl) ?_ ?_
 refine .cond rfl (λ_=>.rA) (λ_=>.skip QA)
 intro v9
 refine Mir.toK (.seqK (.bind λy15 hy51=>.region λe h=>WA ?_))
 refine .byA (tb_Work_spec.1 _ hy51) (mA ?_ h)
 refine .seqK (.sA ?_)
 refine .cond rfl (λhb54=>?_) (λhb54=>?_)
 refine .seqK (.bind λv10 hv55=>.region λe h=>WA ?_)
 refine bf.inlA hv55 ?_ ?_
 refine .sA ?_
 refine .sA ?_
 refine .ret QA
 simp only[seval,EMA]
 refine mU e (.ret λe h=>?_) h
 cases h
 simp only[seval,FMA,fx_r,fx_n,xr_o,xr_n,rowT]
 refine .skip (Mir.toK (.seqK (.bind λy16 hy56=>.region λe h=>WA ?_)))
 refine .byA (inp_positions_spec.1 _ hy56) (mA ?_ h)
 refine .seqK (.sA ?_)
 refine .cond rfl (λhb59=>?_) (λhb59=>?_)
 refine .seqK (.bind λv11 hv60=>.region λe h=>WA ?_)
 refine bf.inlA hv60 ?_ ?_
 refine .sA ?_
 refine .sA ?_
 refine .ret QA
 simp only[seval,EMA]
 refine mU e (.ret λe h=>?_) h
 cases h
 simp only[seval,FMA,fx_r,fx_n,xr_o,xr_n,rowT]
 refine .skip (Mir.toK (.sA ?_))
 refine .seqK (.sA ?_)
 refine Mir.gF rfl (Mir.jXB (λ_=>rfl) ?_ ?_)
 refine .block (.guard λq1=>Mir.rF q1 (λ_ _=>rfl) (by simp only[seval,FMA,zNI]) (by simp only[seval,FMA,zNI]) ?_ ?_)
 intro i1 e1 v12 q2
 refine .sR λe h=>?_
 simp only[seval,EMA,q2]
 refine mU e (.seqK (.condT rfl (.skip (Mir.toK (.seqK (.block (.sR λe h=>?_))))))) h
 simp only[seval,EMA,q2,zD]
 refine mU e (.seqK (.bind λy17 h1=>.region λe h=>WA ?_)) h
 refine .byA (tb_Machine_spec.1 _ h1) (mA ?_ h)
 refine .seqK (.sA ?_)
 refine .cond rfl (λh2=>?_) (λh2=>?_)
 refine .seqK (.bind λv13 h3=>.region λe h=>WA ?_)
 refine bf.inlA h3 ?_ ?_
 refine .sA ?_
 refine .sA ?_
 refine .ret QA
 simp only[seval,EMA]
 refine mU e (.ret λe h=>?_) h
 cases h
 simp only[seval,FMA,fx_r,fx_n,xr_o,xr_n,rowT]
 refine .skip (Mir.toK (.seqK (.sA ?_)))
 refine Mir.jOC (λ_=>rfl) ?_ ?_
 refine .cond rfl (λh4=>?_) (λh4=>?_)
 refine .guard λq3=>.region λe h=>?_
 simp only[seval,EMA,(oL 9),q3]
 cases h
 simp only[seval,FMA]
 refine .skip QA
 intro v14
 refine Mir.toK (.region λe h=>WA ?_)
 refine mU e (.region λe h=>?_) h
 simp only[seval,EMA]
 cases h
 simp only[seval,FMA,q2]
 intro v12 q4
 refine .sR λe h=>?_
 simp only[seval,EMA,q4]
 refine mU e (.seqK (.condF rfl (.exit QA))) h
 intro v15
 refine Mir.toK (.seqK (.regionD [(6,11)] (by kernel_rfl) λe h=>?_))
 simp only[seval,EMA,SB]
 refine mU e (.ret λe h=>?_) h
 cases h
 simp only[seval,FMA,fx_r,fx_n,xr_o,xr_n,rowT]
def qN(a0:ag)(a1:(List aq)):Option ag:=if ((a1.length:Int)==0)=true then some a0 else ac (gt a1 (zH.wrap ((a1.length:Int)-1))) λ(e1:aq)=>some e1.To
instance eK:Sp 76 (∀{a0:ag} {a1:(List aq)},Ct 76 [.agg (cF a0),.d (.list (zA aS a1))] (λy:ag=>.agg [.d (.int .i64 y.X),.d (.int .i64 y.Y),.d (.int .i64 y.Z)]) (qN a0 a1)):=⟨zzF Tryz.func76 (qN.eq_1 ..)⟩
def kT(a0:(List ae))(a1:aw)(a2:ag):Option ((List aq)×aQ):=ac (eg a1 a2) λ(y1:Int)=>if (y1 != 0)=true then some ([],aQ.mk (-1) y1)else ac (md_New ) λ(y2:ao)=>gF [.slot 11 81] ( bindX (aA (dN a0) ( aM (λ(i1:Nat) (e1:ae) (v1:(List aq)×ag×ao×av)=>rF ([dL al a0,U,U,U,.ptr 0 0,.ptr 1 0,U,.ptr 2 0,U,.ptr 3 0,.ptr 4 0,.own 0 (zA aS v1.1)]++us 16++[dL al a0,dI (a0.length:Int),dI (i1:Int)]++us 60) ⟨[(w6 a1.Work [dL au a1.Lengths]),(cF v1.2.1),dD,(cD v1.2.2.1),(cH v1.2.2.2)],[(81,v1.1.length)]⟩ ( bindX (ac (kH v1.2.2.1 v1.2.2.2 e1 (aw.mk a1.Work a1.Lengths) v1.2.1) λ(y3:(List aq)×ao×av×Int)=>ac (if (y3.2.2.2==0)=true then some (decide ((zH.wrap ((v1.1.length:Int)+(y3.1.length:Int)))>20000))else some false) λ(v2:Bool)=>jR 10 ([dL al a0,U,U,U,.ptr 0 0,.ptr 1 0,U,.ptr 2 0,U,.ptr 3 0,.ptr 4 0,.own 0 (zA aS v1.1),dI (i1:Int),.ptr 5 0,.gr 6 0,.ptr 7 0,.ptr 8 0,dI y3.2.2.2]++us 10++[dL al a0,dI (a0.length:Int),dI (i1:Int)]++us 24++[dB v2]++us 35) ⟨[(w6 a1.Work [dL au a1.Lengths]),(cF v1.2.1),dD,(cD v1.2.2.1),(cH v1.2.2.2),(cB e1),[.rowc 81 0 (zA aS y3.1)],(cD y3.2.1),(cH y3.2.2.1)],[(81,v1.1.length)]⟩ ( ac (if v2=true then some 3 else some y3.2.2.2) λ(v3:Int)=>jC ([dL al a0,U,U,U,.ptr 0 0,.ptr 1 0,U,.ptr 2 0,U,.ptr 3 0,.ptr 4 0,.own 0 (zA aS v1.1),dI (i1:Int),.ptr 5 0,.gr 6 0,.ptr 7 0,.ptr 8 0,dI v3]++us 10++[dL al a0,dI (a0.length:Int),dI (i1:Int)]++us 60) ⟨[(w6 a1.Work [dL au a1.Lengths]),(cF v1.2.1),dD,(cD v1.2.2.1),(cH v1.2.2.2),(cB e1),[.rowc 81 0 (zA aS y3.1)],(cD y3.2.1),(cH y3.2.2.1)],[(81,v1.1.length)]⟩ ( if (v3 != 0)=true then some (.ret (.ret (.ret (v1.1,aQ.mk (i1:Int) v3))))else ac (aA (dN y3.1) ( aM (λ(i2:Nat) (e2:aq) (v4:(List aq))=>rF ([dL al a0,U,U,U,.ptr 0 0,.ptr 1 0,U,.ptr 2 0,U,.ptr 3 0,.ptr 4 0,.own 0 (zA aS v1.1),dI (i1:Int),.ptr 5 0,.gr 6 0,.ptr 7 0,.ptr 8 0]++us 11++[dL al a0,dI (a0.length:Int),dI (i1:Int)]++us 32++[dI (y3.1.length:Int),dI (i2:Int)]++us 26) ⟨[(w6 a1.Work [dL au a1.Lengths]),(cF v1.2.1),dD,(cD v1.2.2.1),(cH v1.2.2.2),(cB e1),[.rowc 81 0 (zA aS v4)],(cD y3.2.1),(cH y3.2.2.1)],[(81,v1.1.length)]⟩ ( ac (gt v4 (i2:Int)) λ(e3:aq)=>some (.go (v4.set (Int.toNat (i2:Int)) (aq.mk e3.From e3.To e3.Rate e3.Tool (i1:Int)))))) (λ(v4:(List aq))=>some v4) y3.1 0 y3.1)) λ(v5:(List aq))=>jB 2 ([dL al a0,U,U,U,.ptr 0 0,.ptr 1 0,U,.ptr 2 0,U,.ptr 3 0,.ptr 4 0,.own 0 (zA aS v1.1),U,.ptr 5 0,.gr 6 0,.ptr 7 0,.ptr 8 0]++us 11++[dL al a0,dI (a0.length:Int),dI (i1:Int)]++us 60) ⟨[(w6 a1.Work [dL au a1.Lengths]),(cF v1.2.1),dD,(cD v1.2.2.1),(cH v1.2.2.2),(cB e1),[.rowc 81 0 (zA aS v5)],(cD y3.2.1),(cH y3.2.2.1)],[(81,v1.1.length)]⟩ ( aA (cd (v1.1.length+v5.length)) ( ac (qN v1.2.1 v5) λ(y4:ag)=>ac (ie e1 77) λ(y5:(List Int))=>ac (aW y5 30000) λ(y6:Bool)=>if y6=true then some (.ret (.ret (.ret (v1.1++v5,aQ.mk (-1) 0))))else some (.go (v1.1++v5,y4,y3.2.1,y3.2.2.1))))))) λ(v6:(List aq)×ag×ao×av)=>jB 1 ([dL al a0,U,U,U,.ptr 0 0,.ptr 1 0,U,.ptr 2 0,U,.ptr 3 0,.ptr 4 0,.own 0 (zA aS v6.1)]++us 16++[dL al a0,dI (a0.length:Int),dI (i1:Int)]++us 60) ⟨[(w6 a1.Work [dL au a1.Lengths]),(cF v6.2.1),dD,(cD v6.2.2.1),(cH v6.2.2.2)],[(81,v6.1.length)]⟩ ( some (.go (v6.1,v6.2.1,v6.2.2.1,v6.2.2.2))))) (λ(v1:(List aq)×ag×ao×av)=>some (.go (v1.1,v1.2.1,v1.2.2.1,v1.2.2.2))) a0 0 ([],a2,y2,av.mk 0 0 0 0 0 0 false))) λ(v7:(List aq)×ag×ao×av)=>jB 0 ([dL al a0]++us 6++[.ptr 2 0,U,U,U,.own 0 (zA aS v7.1)]++us 79) ⟨[(w6 a1.Work [dL au a1.Lengths]),(cF v7.2.1),dD,(cD v7.2.2.1),(cH v7.2.2.2)],[(81,v7.1.length)]⟩ ( some (v7.1,aQ.mk (a0.length:Int) 13)))
theorem o8{a0:(List ae)}{a1:aw}{a2:ag}{y:(List aq)×aQ}(h:kT a0 a1 a2=some y):Spec gP 27 [.d (.list (zA al a0)),.agg (w6 a1.Work [.d (.list (zA au a1.Lengths))]),.agg (cF a2)] (.tuple [.d (.list (zA aS y.1)),.agg [.d (.int .i64 y.2.Block),.d (.int .i64 y.2.Code)]]):=by
 refine auA Tryz.func27 (λy:(List aq)×aQ=>.tuple [.d (.list (zA aS y.1)),.agg [.d (.int .i64 y.2.Block),.d (.int .i64 y.2.Code)]]) ?_ h
 unfold kT
 refine .sA ?_
 refine .seqK (.seqK (.bind λy1 hy1=>.region λe h=>WA ?_))
 refine .byA (n9.1 _ hy1) (mA ?_ h)
 refine .sA ?_
 refine .cond rfl (λhb3=>?_) (λhb3=>?_)
 exact zzA
 refine .skip (Mir.toK (.seqK (.bind λy2 hy4=>.region λe h=>WA ?_)))
 refine bf.by (md_New_spec.1 _ hy4) (rfl) ?_
 simp only[seval,EMA]
 refine mU e (.sA ?_) h
 refine .seqK (.sA ?_)
 refine Mir.gF rfl (Mir.jXB (λ_=>rfl) ?_ ?_)
 refine .block (.guard λq1=>Mir.rF q1 (λ_ _=>rfl) (by simp only[seval,FMA,zNI]) (by simp only[seval,FMA,zNI]) ?_ ?_)
 intro i1 e1 v1 q2
 refine .sR λe h=>?_
 simp only[seval,EMA,q2]
 refine mU e (.seqK (.condT rfl (.skip (Mir.toK (.seqK (Mir.jXB (λ_=>rfl) ?_ ?_)))))) h
 refine .block (.sR λe h=>?_)
 simp only[seval,EMA,q2,zD]
 refine mU e (.seqK (.bind λy3 h1=>.region λe h=>WA ?_)) h
 refine SpecX.toS (inp_Step_specX h1) (by simp only[seval,FMA]) ?_
 simp only[seval,EMA]
 refine mU e (.seqK (.seqK (Mir.jOR (λ_=>rfl) ?_ ?_))) h
 refine .ite (λh2=>?_) (λh2=>?_)
 refine .regionW λe h=>regW.alt 6 rfl ?_
 simp only[seval,EMA,h2]
 refine alt_lenR rfl rfl und_38 (regW.of ?_)
 exact zzA
 exact zzA
 intro v2
 refine Mir.toK (Mir.jOC (λ_=>rfl) ?_ ?_)
 exact zzA
 intro v3
 refine Mir.toK (.seqK (.sA ?_))
 refine .cond rfl (λh4=>?_) (λh4=>?_)
 exact zzA
 refine .skip (Mir.toK (.seqK (.seqK (.regionW λe h=>regW.alt 1 rfl ?_))))
 simp only[seval,EMA]
 refine alt_lenR rfl rfl und_38 (regW.of ?_)
 simp only[seval,EMA]
 refine mU e (Mir.jOB (λ_=>rfl) ?_ ?_) h
 refine .block (.guard λq3=>Mir.rF q3 (λ_ _=>rfl) (by simp only[seval,FMA,zNI]) (by simp only[seval,FMA,zNI]) ?_ ?_)
 intro i2 e2 v4 q4
 refine .sR λe h=>?_
 simp only[seval,EMA,q4]
 refine mU e (.seqK (.condT rfl (.skip (Mir.toK (.seqK (.block (.sA ?_))))))) h
 refine .bind λe3 q5=>?_
 replace q5:=gq q5
 refine .regionW λe h=>regW.alt 3 rfl ?_
 simp only[seval,EMA]
 refine ci rfl rfl rfl und_38 sz_81 (fT q5.1) (fU q5.2 q5.1) (regW.alt 0 rfl ?_)
 simp only[seval,EMA]
 refine alt_fieldR rfl rfl fld_81_4 sz_3 (by decide) (regW.alt 0 rfl ?_)
 simp only[seval,EMA]
 refine bU rfl rfl (fi q5.2) rfl rfl sz_3 rfl (Nat.le_of_ble_eq_true rfl) (regW.of ?_)
 exact zzA
 exact zzA
 intro v5
 refine Mir.toK (.seqK (.guard λq7=>.regionW λe h=>regW.alt 2 rfl ?_))
 simp only[seval,EMA]
 refine alt_appOwnR rfl rfl rfl app_38 (by kernel_rfl) (by simp only[ge0,geS,lm,xMA,xLA]) po (ok2 q7 (by simp only[lm]) (by simp only[lm])) (regW.of ?_)
 simp only[seval,EMA,lm]
 refine mU e (.seqK (.bind λy4 h5=>Mir.regionA 0 [] ([dL al a0,U,U,U,.ptr 0 0,.ptr 1 0,U,.ptr 2 0,U,.ptr 3 0,.ptr 4 0,.own 0 (zA aS (v1.1++v5)),U,.ptr 5 0,.gr 6 0,.ptr 7 0,.ptr 8 0]++us 11++[dL al a0,dI (a0.length:Int),dI (i1:Int)]++us 42++[.own 0 (zA aS v1.1),.gr 6 0,.own 0 (zA aS (v1.1++v5)),.agg (cD y3.2.1),.agg (cH y3.2.2.1),.agg (cF v1.2.1),.gr 6 0,.agg (cF y4)]++us 10) ⟨[(w6 a1.Work [dL au a1.Lengths]),(cF y4),dD,(cD y3.2.1),(cH y3.2.2.1),(cB e1),[.rowc 81 0 (zA aS v5)],(cD y3.2.1),(cH y3.2.2.1)],[(81,(v1.1++v5).length)]⟩ (by kernel_rfl) (λe h=>?_) (λe h=>?_))) h
 simp only[seval,EMA,SB]
 refine regA.moveB (j:=3) (by kernel_rfl) rfl rfl ?_
 simp only[seval,EMA]
 refine regA.three (j:=0) (k:=1) (l:=2) (by kernel_rfl) rfl rfl rfl ?_ ?_ ?_
 refine regW.of ?_
 simp only[seval,EMA]
 refine regA.two (j:=1) (k:=2) (by kernel_rfl) rfl rfl ?_ ?_
 refine regW.of ?_
 simp only[seval,EMA]
 refine regA.one (j:=2) (by kernel_rfl) rfl (regW.of ?_)
 simp only[seval,EMA]
 refine regA.one (j:=4) (by kernel_rfl) rfl (regW.of ?_)
 simp only[seval,EMA]
 refine bf.byZ (eK.1 _ h5) rfl rfl ?_
 simp only[seval,EMA]
 refine regA.one (j:=5) (by kernel_rfl) rfl (regW.of ?_)
 simp only[seval,EMA]
 refine regA.one (j:=6) (by kernel_rfl) rfl (regW.of ?_)
 simp only[seval,EMA]
 refine regA.one (j:=7) (by kernel_rfl) rfl (regW.of ?_)
 simp only[seval,EMA]
 exact regA.nil (by kernel_rfl) ⟨by first | rfl | simp only[seval,FMA,RMX],by first | rfl | simp only[seval,FMA,RMX]⟩
 refine regW.of ?_
 simp only[seval,EMA]
 refine regA.two (j:=1) (k:=4) (by kernel_rfl) rfl rfl ?_ ?_
 refine regW.of ?_
 simp only[seval,EMA]
 refine regA.one (j:=4) (by kernel_rfl) rfl (regW.of ?_)
 simp only[seval,EMA]
 refine bf.byZ (eK.1 _ h5) rfl rfl ?_
 simp only[seval,EMA]
 refine regA.one (j:=5) (by kernel_rfl) rfl (regW.of ?_)
 simp only[seval,EMA]
 refine regA.one (j:=6) (by kernel_rfl) rfl (regW.of ?_)
 simp only[seval,EMA]
 refine regA.one (j:=7) (by kernel_rfl) rfl (regW.of ?_)
 simp only[seval,EMA]
 exact regA.nil (by kernel_rfl) ⟨by first | rfl | simp only[seval,FMA,RMX],by first | rfl | simp only[seval,FMA,RMX]⟩
 refine regW.of ?_
 simp only[seval,EMA]
 refine bf.byZ (eK.1 _ h5) rfl rfl ?_
 simp only[seval,EMA]
 refine regA.two (j:=1) (k:=5) (by kernel_rfl) rfl rfl ?_ ?_
 refine regW.of ?_
 simp only[seval,EMA]
 refine regA.one (j:=5) (by kernel_rfl) rfl (regW.of ?_)
 simp only[seval,EMA]
 refine regA.one (j:=6) (by kernel_rfl) rfl (regW.of ?_)
 simp only[seval,EMA]
 refine regA.one (j:=7) (by kernel_rfl) rfl (regW.of ?_)
 simp only[seval,EMA]
 exact regA.nil (by kernel_rfl) ⟨by first | rfl | simp only[seval,FMA,RMX],by first | rfl | simp only[seval,FMA,RMX]⟩
 refine regW.of ?_
 simp only[seval,EMA]
 refine regA.one (j:=1) (by kernel_rfl) rfl (regW.of ?_)
 simp only[seval,EMA]
 refine regA.one (j:=6) (by kernel_rfl) rfl (regW.of ?_)
 simp only[seval,EMA]
 refine regA.one (j:=7) (by kernel_rfl) rfl (regW.of ?_)
 simp only[seval,EMA]
 exact regA.nil (by kernel_rfl) ⟨by first | rfl | simp only[seval,FMA,RMX],by first | rfl | simp only[seval,FMA,RMX]⟩
 refine regW.of ?_
 simp only[seval,EMA]
 refine regA.two (j:=0) (k:=2) (by kernel_rfl) rfl rfl ?_ ?_
 refine regW.of ?_
 simp only[seval,EMA]
 refine regA.one (j:=2) (by kernel_rfl) rfl (regW.of ?_)
 simp only[seval,EMA]
 refine regA.one (j:=4) (by kernel_rfl) rfl (regW.of ?_)
 simp only[seval,EMA]
 refine bf.byZ (eK.1 _ h5) rfl rfl ?_
 simp only[seval,EMA]
 refine regA.one (j:=5) (by kernel_rfl) rfl (regW.of ?_)
 simp only[seval,EMA]
 refine regA.one (j:=6) (by kernel_rfl) rfl (regW.of ?_)
 simp only[seval,EMA]
 refine regA.one (j:=7) (by kernel_rfl) rfl (regW.of ?_)
 simp only[seval,EMA]
 exact regA.nil (by kernel_rfl) ⟨by first | rfl | simp only[seval,FMA,RMX],by first | rfl | simp only[seval,FMA,RMX]⟩
 refine regW.of ?_
 simp only[seval,EMA]
 refine regA.two (j:=0) (k:=4) (by kernel_rfl) rfl rfl ?_ ?_
 refine regW.of ?_
 simp only[seval,EMA]
 refine regA.one (j:=4) (by kernel_rfl) rfl (regW.of ?_)
 simp only[seval,EMA]
 refine bf.byZ (eK.1 _ h5) rfl rfl ?_
 simp only[seval,EMA]
 refine regA.one (j:=5) (by kernel_rfl) rfl (regW.of ?_)
 simp only[seval,EMA]
 refine regA.one (j:=6) (by kernel_rfl) rfl (regW.of ?_)
 simp only[seval,EMA]
 refine regA.one (j:=7) (by kernel_rfl) rfl (regW.of ?_)
 simp only[seval,EMA]
 exact regA.nil (by kernel_rfl) ⟨by first | rfl | simp only[seval,FMA,RMX],by first | rfl | simp only[seval,FMA,RMX]⟩
 refine regW.of ?_
 simp only[seval,EMA]
 refine bf.byZ (eK.1 _ h5) rfl rfl ?_
 simp only[seval,EMA]
 refine regA.one (j:=0) (by kernel_rfl) rfl (regW.of ?_)
 simp only[seval,EMA]
 refine regA.one (j:=5) (by kernel_rfl) rfl (regW.of ?_)
 simp only[seval,EMA]
 refine regA.one (j:=6) (by kernel_rfl) rfl (regW.of ?_)
 simp only[seval,EMA]
 refine regA.one (j:=7) (by kernel_rfl) rfl (regW.of ?_)
 simp only[seval,EMA]
 exact regA.nil (by kernel_rfl) ⟨by first | rfl | simp only[seval,FMA,RMX],by first | rfl | simp only[seval,FMA,RMX]⟩
 refine regW.of ?_
 simp only[seval,EMA]
 refine regA.three (j:=0) (k:=1) (l:=4) (by kernel_rfl) rfl rfl rfl ?_ ?_ ?_
 refine regW.of ?_
 simp only[seval,EMA]
 refine regA.two (j:=1) (k:=4) (by kernel_rfl) rfl rfl ?_ ?_
 refine regW.of ?_
 simp only[seval,EMA]
 refine regA.one (j:=4) (by kernel_rfl) rfl (regW.of ?_)
 simp only[seval,EMA]
 refine bf.byZ (eK.1 _ h5) rfl rfl ?_
 simp only[seval,EMA]
 refine regA.one (j:=5) (by kernel_rfl) rfl (regW.of ?_)
 simp only[seval,EMA]
 refine regA.one (j:=6) (by kernel_rfl) rfl (regW.of ?_)
 simp only[seval,EMA]
 refine regA.one (j:=7) (by kernel_rfl) rfl (regW.of ?_)
 simp only[seval,EMA]
 exact regA.nil (by kernel_rfl) ⟨by first | rfl | simp only[seval,FMA,RMX],by first | rfl | simp only[seval,FMA,RMX]⟩
 refine regW.of ?_
 simp only[seval,EMA]
 refine bf.byZ (eK.1 _ h5) rfl rfl ?_
 simp only[seval,EMA]
 refine regA.two (j:=1) (k:=5) (by kernel_rfl) rfl rfl ?_ ?_
 refine regW.of ?_
 simp only[seval,EMA]
 refine regA.one (j:=5) (by kernel_rfl) rfl (regW.of ?_)
 simp only[seval,EMA]
 refine regA.one (j:=6) (by kernel_rfl) rfl (regW.of ?_)
 simp only[seval,EMA]
 refine regA.one (j:=7) (by kernel_rfl) rfl (regW.of ?_)
 simp only[seval,EMA]
 exact regA.nil (by kernel_rfl) ⟨by first | rfl | simp only[seval,FMA,RMX],by first | rfl | simp only[seval,FMA,RMX]⟩
 refine regW.of ?_
 simp only[seval,EMA]
 refine regA.one (j:=1) (by kernel_rfl) rfl (regW.of ?_)
 simp only[seval,EMA]
 refine regA.one (j:=6) (by kernel_rfl) rfl (regW.of ?_)
 simp only[seval,EMA]
 refine regA.one (j:=7) (by kernel_rfl) rfl (regW.of ?_)
 simp only[seval,EMA]
 exact regA.nil (by kernel_rfl) ⟨by first | rfl | simp only[seval,FMA,RMX],by first | rfl | simp only[seval,FMA,RMX]⟩
 refine regW.of ?_
 simp only[seval,EMA]
 refine regA.two (j:=0) (k:=4) (by kernel_rfl) rfl rfl ?_ ?_
 refine regW.of ?_
 simp only[seval,EMA]
 refine regA.one (j:=4) (by kernel_rfl) rfl (regW.of ?_)
 simp only[seval,EMA]
 refine bf.byZ (eK.1 _ h5) rfl rfl ?_
 simp only[seval,EMA]
 refine regA.one (j:=5) (by kernel_rfl) rfl (regW.of ?_)
 simp only[seval,EMA]
 refine regA.one (j:=6) (by kernel_rfl) rfl (regW.of ?_)
 simp only[seval,EMA]
 refine regA.one (j:=7) (by kernel_rfl) rfl (regW.of ?_)
 simp only[seval,EMA]
 exact regA.nil (by kernel_rfl) ⟨by first | rfl | simp only[seval,FMA,RMX],by first | rfl | simp only[seval,FMA,RMX]⟩
 refine regW.of ?_
 simp only[seval,EMA]
 refine bf.byZ (eK.1 _ h5) rfl rfl ?_
 simp only[seval,EMA]
 refine regA.one (j:=0) (by kernel_rfl) rfl (regW.of ?_)
 simp only[seval,EMA]
 refine regA.one (j:=5) (by kernel_rfl) rfl (regW.of ?_)
 simp only[seval,EMA]
 refine regA.one (j:=6) (by kernel_rfl) rfl (regW.of ?_)
 simp only[seval,EMA]
 refine regA.one (j:=7) (by kernel_rfl) rfl (regW.of ?_)
 simp only[seval,EMA]
 exact regA.nil (by kernel_rfl) ⟨by first | rfl | simp only[seval,FMA,RMX],by first | rfl | simp only[seval,FMA,RMX]⟩
 refine regW.of ?_
 simp only[seval,EMA]
 refine bf.byZ (eK.1 _ h5) rfl rfl ?_
 simp only[seval,EMA]
 refine regA.two (j:=0) (k:=1) (by kernel_rfl) rfl rfl ?_ ?_
 refine regW.of ?_
 simp only[seval,EMA]
 refine regA.two (j:=1) (k:=5) (by kernel_rfl) rfl rfl ?_ ?_
 refine regW.of ?_
 simp only[seval,EMA]
 refine regA.one (j:=5) (by kernel_rfl) rfl (regW.of ?_)
 simp only[seval,EMA]
 refine regA.one (j:=6) (by kernel_rfl) rfl (regW.of ?_)
 simp only[seval,EMA]
 refine regA.one (j:=7) (by kernel_rfl) rfl (regW.of ?_)
 simp only[seval,EMA]
 exact regA.nil (by kernel_rfl) ⟨by first | rfl | simp only[seval,FMA,RMX],by first | rfl | simp only[seval,FMA,RMX]⟩
 refine regW.of ?_
 simp only[seval,EMA]
 refine regA.one (j:=1) (by kernel_rfl) rfl (regW.of ?_)
 simp only[seval,EMA]
 refine regA.one (j:=6) (by kernel_rfl) rfl (regW.of ?_)
 simp only[seval,EMA]
 refine regA.one (j:=7) (by kernel_rfl) rfl (regW.of ?_)
 simp only[seval,EMA]
 exact regA.nil (by kernel_rfl) ⟨by first | rfl | simp only[seval,FMA,RMX],by first | rfl | simp only[seval,FMA,RMX]⟩
 refine regW.of ?_
 simp only[seval,EMA]
 refine regA.one (j:=0) (by kernel_rfl) rfl (regW.of ?_)
 simp only[seval,EMA]
 refine regA.one (j:=5) (by kernel_rfl) rfl (regW.of ?_)
 simp only[seval,EMA]
 refine regA.one (j:=6) (by kernel_rfl) rfl (regW.of ?_)
 simp only[seval,EMA]
 refine regA.one (j:=7) (by kernel_rfl) rfl (regW.of ?_)
 simp only[seval,EMA]
 exact regA.nil (by kernel_rfl) ⟨by first | rfl | simp only[seval,FMA,RMX],by first | rfl | simp only[seval,FMA,RMX]⟩
 exact zzA
 exact zzA
 exact zzA
 exact zzA
instance:Sp 27 (type_of% @o8):=⟨@o8⟩
def qM(a0:(List UInt8))(a1:aw)(a2:ag):Option ((List aq)×aQ×Int):=ac (eg (aw.mk a1.Work a1.Lengths) a2) λ(y1:Int)=>if (y1 != 0)=true then some ([],aQ.mk 0 0,y1)else ac (kV a0) λ(y2:(List ae)×Int×Int)=>if (y2.2.2 != 0)=true then some ([],aQ.mk 0 0,y2.2.2)else ac (nv y2.1) λ(y3:bz×Int)=>if (y3.2 != 0)=true then some ([],aQ.mk 0 0,y3.2)else ac (ka y3.1) λ(y4:(List ae)×Int)=>if (y4.2 != 0)=true then some ([],aQ.mk 0 0,y4.2)else ac (kT y4.1 (aw.mk a1.Work a1.Lengths) a2) λ(y5:(List aq)×aQ)=>some (y5.1,y5.2,0)
instance inp_Run_spec:Sp 8 (∀{a0:(List UInt8)} {a1:aw} {a2:ag},Ct 8 [dS a0,.agg (w6 a1.Work [.d (.list (zA au a1.Lengths))]),.agg (cF a2)] (λy:(List aq)×aQ×Int=>.tuple [.d (.list (zA aS y.1)),.agg [.d (.int .i64 y.2.1.Block),.d (.int .i64 y.2.1.Code)],.d (.int .i64 y.2.2)]) (qM a0 a1 a2)):=⟨zzF Tryz.func8 (qM.eq_1 ..)⟩
def kY :Option Bool:=ac (oN [bC.mk 2 [aH.mk 2 (ag.mk 5 0 0) (dh.mk 0 0) 7]] (ag.mk 0 0 0) (dP.mk 55000 false 0 0)) λ(y1:(List UInt8)×Int)=>ac (gU (ag.mk 100 0 0)) λ(y2:aw)=>ac (qM y1.1 (aw.mk y2.Work y2.Lengths) (ag.mk 100 0 12000)) λ(y3:(List aq)×aQ×Int)=>ac (if (y1.2==0)=true then if (y3.2.2==0)=true then if ((y3.2.1.Block==(-1))&&(y3.2.1.Code==0))=true then if ((y3.1.length:Int)==1)=true then ac (gt y3.1 0) λ(e1:aq)=>if ((e1.From.X==100)&&((e1.From.Y==0)&&(e1.From.Z==12000)))=true then if ((e1.To.X==105)&&((e1.To.Y==0)&&(e1.To.Z==12000)))=true then if (e1.Rate==7)=true then some (e1.Tool==2)else some false else some false else some false else some false else some false else some false else some false) λ(v1:Bool)=>jR 4 ([dB v1]++us 73) ⟨[(cK y3.2.1)],[]⟩ ( some v1)
instance top_awake53_spec:Sp 4 (Ct 4 [] (λy:Bool=>.d (.bool y)) (kY)):=⟨zzF Tryz.func4 (kY.eq_1 ..)⟩
end Go.Proofs.YtphbhdoljnokkaaGreatDoor
